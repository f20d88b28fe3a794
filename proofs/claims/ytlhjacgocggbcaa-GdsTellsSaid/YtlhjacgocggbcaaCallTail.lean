/- A region that draws its order: loads beside one call that makes memory, and behind them all a tail whose order is forced, which may write what was loaded. -/
import Derived.OrdersHeld
import Derived.StillTail
import Derived.RegionTactic
import Derived.Test.YtlhjacgocggbcaaBitsC
set_option linter.unusedVariables false
namespace Go.Proofs.Ytlhjacgocggbcaa
open Go.RowKit Go.Shelf

section
variable {P : Program} {ops : Array Oper} {Q : Exit → Act → World → Prop} {md : Region.Mode} {S : World → Prop}
/-- Whatever order is picked; S holds behind each operation ahead of number n. -/
def wpAnyN (P : Program) (md : Region.Mode) (ops : Array Oper) (Q : Exit → Act → World → Prop) (S : World → Prop) (n : Nat) : Nat → Array Bool → Act → World → Prop
  | 0, done, a, w => Region.ready md ops done = [] ∧ Q .normal a w
  | f + 1, done, a, w => (Region.ready md ops done = [] → Q .normal a w) ∧
    ∀ i ∈ Region.ready md ops done, wpOp P ops Q i (fun a' w' => (i < n → S w') ∧ wpAnyN P md ops Q S n f (done.setIfInBounds i true) a' w') a w
theorem any_of_N {n : Nat} : ∀ (f : Nat) (done : Array Bool) (a : Act) (w : World), wpAnyN P md ops Q S n f done a w → wpAny P md ops Q f done a w
  | 0, _, _, _, h => h
  | f + 1, _, _, _, h => ⟨h.1, fun i hi => wpOp_mono (fun a' w' h' => any_of_N f _ a' w' h'.2) (h.2 i hi)⟩
theorem anyN_first {n i : Nat} {oi : Oper} {v : Value} (hi : ops[i]? = some oi) (hsel : ∀ (j : Nat) (o : Oper) cs b, ops[j]? = some o → o.op ≠ .select cs b)
    (hQ : ∀ c a w, Q (.panic c) (a.put oi.dst v) w → Q (.panic c) a w)
    (hs : Region.sinkB md ops n = true) (hc : Region.chainB md ops n = true) (hn : n < ops.size) (hin : i < n) : ∀ (f : Nat) (done : Array Bool) (a : Act) (w : World), HeadInv md ops n done →
      (∀ j oj, ops[j]? = some oj → j ≠ i → done.getD j true = false → (∀ e ∈ oj.after, Region.binds md e = true → e.on ≠ i) → oi.apart ops oj = true) →
      i ∈ Region.ready md ops done → YieldsIf P ops S oi v a → S w → wpAnyN P md ops Q S n f (done.setIfInBounds i true) (a.put oi.dst v) w → wpAnyN P md ops Q S n (f + 1) done a w := by
  intro f
  induction f with
  | zero =>
    intro done a w inv _ hr hy hS H
    refine ⟨fun h => (by rw [h] at hr; cases hr), fun j hj => ?_⟩
    by_cases hji : j = i
    · subst hji; exact hy.wpOp hi hS ⟨fun _ => hS, H⟩
    · have := ready_mono hj hji
      rw [H.1] at this
      cases this
  | succ f ih =>
    intro done a w inv hfree hr hy hS H
    refine ⟨fun h => (by rw [h] at hr; cases hr), fun j hj => ?_⟩
    by_cases hji : j = i
    · subst hji; exact hy.wpOp hi hS ⟨fun _ => hS, H⟩
    · have h1 := H.2 j (ready_mono hj hji)
      have hun := (mem_ready.1 hr).1
      have hjn : j < n := by
        rcases Nat.lt_or_ge j n with h | h
        · exact h
        · exact absurd hj (tail_waits hs hc hn inv _ i rfl hin hun j h)
      obtain ⟨hjun, oj, hoj, hall⟩ := mem_ready.1 hj
      have hnot : ∀ e ∈ oj.after, Region.binds md e = true → e.on ≠ i := fun e he hb heq => by
        have h1 := hall e he hb
        rw [heq, getD_both hun] at h1
        cases h1
      have h2 := wpOp_putIf hoj (hfree j oj hoj hji hjun hnot) (fun cs b => hsel i oi cs b hi) (fun cs b => hsel j oj cs b hoj) hQ hy h1
      have hfree' : ∀ k ok, ops[k]? = some ok → k ≠ i → (done.setIfInBounds j true).getD k true = false →
          (∀ e ∈ ok.after, Region.binds md e = true → e.on ≠ i) → oi.apart ops ok = true := fun k ok hk hki hun hno => by
        refine hfree k ok hk hki ?_ hno
        by_cases hjk : j = k
        · subst hjk; exact hjun
        · rw [getD_set_ne true hjk] at hun; exact hun
      refine wpOp_mono (fun a' w' h3 => ⟨h3.2.1, ih (done.setIfInBounds j true) a' w' (inv.set hj hjn) hfree' (ready_mono hr (Ne.symm hji)) h3.1 (h3.2.1 hjn) ?_⟩) h2
      rw [Array.setIfInBounds_comm _ _ hji]
      exact h3.2.2
/-- Operations that yield in every world that meets S, one behind the other. -/
def wpIf (P : Program) (ops : Array Oper) (S : World → Prop) (K : Act → Prop) : List Nat → Act → Prop
  | [], a => K a
  | i :: is, a => ∃ oi v, ops[i]? = some oi ∧ YieldsIf P ops S oi v a ∧ wpIf P ops S K is (a.put oi.dst v)
theorem wpIf_take {i : Nat} {is : List Nat} {oi : Oper} {v : Value} {K : Act → Prop} {a : Act} (hi : ops[i]? = some oi) (hw : Region.wanted oi (yielded ops a.tmps) = true) (hy : ∀ w, S w → (execOp a.eval oi).run P w = .ok (.value v) w)
    (h : wpIf P ops S K is (a.put oi.dst v)) : wpIf P ops S K (i :: is) a := ⟨oi, v, hi, Or.inl ⟨hw, hy⟩, h⟩
theorem wpIf_nil {K : Act → Prop} {a : Act} (h : K a) : wpIf P ops S K [] a := h
def headsB (md : Region.Mode) (ops : Array Oper) (n : Nat) : List Nat → Array Bool → Bool
  | [], _ => true
  | i :: is, done => decide (i < n) && (Region.ready md ops done).contains i && Region.free md ops done i && headsB md ops n is (done.setIfInBounds i true)
def doneBy : List Nat → Array Bool → Array Bool
  | [], done => done
  | i :: is, done => doneBy is (done.setIfInBounds i true)
theorem anyN_heads {n f : Nat} {K : Act → Prop} {w : World} (hsel : Region.noSelect ops = true) (hQ : ∀ c d v a w, Q (.panic c) (Act.put a d v) w → Q (.panic c) a w)
    (hs : Region.sinkB md ops n = true) (hc : Region.chainB md ops n = true) (hn : n < ops.size) (hS : S w) :
    ∀ (is : List Nat) (done : Array Bool) (a : Act), HeadInv md ops n done → headsB md ops n is done = true → wpIf P ops S K is a →
      (∀ a', HeadInv md ops n (doneBy is done) → K a' → wpAnyN P md ops Q S n f (doneBy is done) a' w) → wpAnyN P md ops Q S n (is.length + f) done a w
  | [], done, a, inv, _, h, H => by rw [List.length_nil, Nat.zero_add]; exact H a inv h
  | i :: is, done, a, inv, hB, h, H => by
    simp only [headsB, Bool.and_eq_true, decide_eq_true_eq] at hB
    obtain ⟨oi, v, hi, hy, h⟩ := h
    have hr : i ∈ Region.ready md ops done := by simpa using hB.1.1.2
    have e : (i :: is).length + f = (is.length + f) + 1 := by simp; omega
    rw [e]
    exact anyN_first hi (Region.noSelect_spec hsel) (fun c a w => hQ c _ _ a w) hs hc hn hB.1.1.1 _ done a w inv (Region.free_spec hi hB.1.2) hr hy hS
      (anyN_heads hsel hQ hs hc hn hS is _ _ (inv.set hr hB.1.1.1) hB.2 h H)
theorem anyN_of_seq {n : Nat} : ∀ (l : List Oper) (k : Nat) (done : Array Bool) (a : Act) (w : World), n ≤ k → (∀ j, l[j]? = ops[k + j]?) →
    Region.seqB md ops l.length k done = true → wpList P ops Q l a w → wpAnyN P md ops Q S n l.length done a w
  | [], _, _, _, _, _, _, hB, h => ⟨by simpa [Region.seqB] using hB, h⟩
  | o :: l, k, done, a, w, hk, hl, hB, h => by
    have h0 : ops[k]? = some o := by simpa using (hl 0).symm
    simp only [List.length_cons, Region.seqB, Bool.and_eq_true, decide_eq_true_eq] at hB
    refine ⟨fun h1 => (by rw [hB.1] at h1; cases h1), fun i hi => ?_⟩
    rw [hB.1] at hi
    have hik : i = k := by simpa using hi
    subst hik
    have hw : wpOp P ops Q i (wpList P ops Q l) a w := by unfold wpOp; simp only [h0]; exact h
    exact wpOp_mono (fun a' w' h' => ⟨fun h => absurd h (by omega), anyN_of_seq l (i + 1) _ a' w' (by omega) (fun j => by have := hl (j + 1); simpa [Nat.add_assoc, Nat.add_comm 1 j] using this) hB.2 h'⟩) hw
/-- A way back that no tactic looks into till it is opened. -/
def Back (p : Prop) : Prop := p
theorem Back.out {p : Prop} (h : Back p) : p := h
/-- The heads, one call, the tail. -/
def callB (md : Region.Mode) (ops : Array Oper) (is : List Nat) (c n : Nat) : Bool :=
  Region.noSelect ops && decide (n < ops.size) && Region.sinkB md ops n && Region.chainB md ops n && headsB md ops n is (Array.replicate ops.size false) &&
  decide (Region.ready md ops (doneBy is (Array.replicate ops.size false)) = [c]) && decide (c < n) &&
  Region.seqB md ops (ops.size - n) n ((doneBy is (Array.replicate ops.size false)).setIfInBounds c true) && decide (is.length + 1 + (ops.size - n) = ops.size)
theorem region_calltail {id : Nat} {a : Act} {w : World} {l : List Oper} {oc : Oper} (S : World → Prop) (is : List Nat) (c n : Nat) (hm : P.follows .mixedOrders = true) (hB : callB .any l.toArray is c n = true)
    (hQ : ∀ c d v a w, Q (.panic c) (Act.put a d v) w → Q (.panic c) a w) (hS : S w.drew) (hoc : l.toArray[c]? = some oc)
    (h : wpIf P l.toArray S (fun a' => ∀ K : Act → World → Prop, Back (∀ a2 w2, S w2 → wpList P l.toArray Q (l.drop n) a2 w2 → K a2 w2) →
      if Region.wanted oc (yielded l.toArray a'.tmps) = true then Oper.wp P oc a' w.drew K Q else K (a'.put oc.dst undef) w.drew) is a) : (Code.region id l.toArray true).wp P Q a w := by
  simp only [callB, Bool.and_eq_true, decide_eq_true_eq] at hB
  obtain ⟨⟨⟨⟨⟨⟨⟨⟨hsel, hn⟩, hs⟩, hc⟩, hh⟩, hr⟩, hcn⟩, hq⟩, hlen⟩ := hB
  have inv0 : HeadInv .any l.toArray n (Array.replicate l.toArray.size false) :=
    { size := by simp
      closed := fun j oj _ hl => by rw [getD_replicate_false] at hl; cases hl
      tail := fun t _ ht => getD_in (by simpa using ht) (getD_replicate_false _ _) }
  refine wp_region_any hm (any_of_N (S := S) (n := n) _ _ _ _ ?_)
  have hdl : (l.drop n).length = l.toArray.size - n := by simp
  have K := anyN_heads (f := 1 + (l.toArray.size - n)) (Q := Q) (w := w.drew) hsel hQ hs hc hn hS is _ a inv0 hh h (fun a' inv hK => by
    rw [Nat.add_comm 1]
    refine ⟨fun h0 => (by rw [h0] at hr; cases hr), fun i hi => ?_⟩
    rw [hr] at hi
    have hic : i = c := by simpa using hi
    subst hic
    refine wpOp_step hoc fun K' hK' => hK K' fun a2 w2 hS2 h2 => hK' a2 w2 ⟨fun _ => hS2, ?_⟩
    have k := anyN_of_seq (P := P) (Q := Q) (S := S) (md := .any) (l.drop n) n ((doneBy is (Array.replicate l.toArray.size false)).setIfInBounds i true) a2 w2 (Nat.le_refl _) (fun j => by simp [List.getElem?_drop]) (by rw [hdl]; exact hq) h2
    rwa [hdl] at k)
  rw [← Nat.add_assoc, hlen] at K
  exact K
end
end Go.Proofs.Ytlhjacgocggbcaa
