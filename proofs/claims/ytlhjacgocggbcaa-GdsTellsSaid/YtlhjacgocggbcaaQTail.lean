/- A region that draws its order: operations that are quiet in a class of worlds, and behind them all a tail whose order is forced (a store): one walk serves every order. -/
import Derived.Deep.Quiet
import Derived.StillTail
import Derived.Deep.MidRow
import Derived.Test.YtlhjacgocggbcaaBitsC
set_option linter.unusedVariables false
namespace Go.Proofs.Ytlhjacgocggbcaa
open Go.RowKit Go.Shelf

section
variable {P : Program} {ops : Array Oper} {md : Region.Mode} {C : World → Prop}
/-- Whatever order is picked: the next f operations come up out of the first n, each quiet; behind them L. -/
def Heads (P : Program) (md : Region.Mode) (ops : Array Oper) (C : World → Prop) (n : Nat) (L : Array Bool → Act → Prop) : Nat → Array Bool → Act → Prop
  | 0, done, a => L done a
  | f + 1, done, a => Region.ready md ops done ≠ [] ∧ ∀ i ∈ Region.ready md ops done, i < n ∧ qOp P ops C i (Heads P md ops C n L f (done.setIfInBounds i true)) a
theorem any_of_heads {n g : Nat} {L : Array Bool → Act → Prop} {R : Exit → Act → World → Prop} (hL : ∀ done a w, C w → L done a → wpAny P md ops R g done a w) (f : Nat) :
    ∀ (done : Array Bool) (a : Act) (w : World), C w → Heads P md ops C n L f done a → wpAny P md ops R (f + g) done a w := by
  induction f with
  | zero => intro done a w hw h; rw [Nat.zero_add]; exact hL done a w hw h
  | succ f ih =>
    intro done a w hw h
    have e : f + 1 + g = f + g + 1 := by omega
    rw [e]
    exact ⟨fun h0 => absurd h0 h.1, fun i hi => wpOp_of_qOp hw (fun a' w' hw' h' => ih _ a' w' hw' h') (h.2 i hi).2⟩
theorem heads_first {n i : Nat} {oi : Oper} {v : Value} {L : Array Bool → Act → Prop} (hi : ops[i]? = some oi) (hsel : ∀ (j : Nat) (o : Oper) cs b, ops[j]? = some o → o.op ≠ .select cs b)
    (hs : Region.sinkB md ops n = true) (hc : Region.chainB md ops n = true) (hn : n < ops.size) (hin : i < n) (hdone : ∀ done a, L done a → ∀ j ∈ Region.ready md ops done, n ≤ j) (f : Nat) :
    ∀ (done : Array Bool) (a : Act), HeadInv md ops n done →
      (∀ j oj, ops[j]? = some oj → j ≠ i → done.getD j true = false → (∀ e ∈ oj.after, Region.binds md e = true → e.on ≠ i) → oi.apart ops oj = true) →
      i ∈ Region.ready md ops done → YieldsIn P ops C oi v a → Heads P md ops C n L f (done.setIfInBounds i true) (a.put oi.dst v) → Heads P md ops C n L (f + 1) done a := by
  induction f with
  | zero =>
    intro done a inv _ hr hy H
    have hun := (mem_ready.1 hr).1
    have low : ∀ j ∈ Region.ready md ops done, j < n := fun j hj => by
      rcases Nat.lt_or_ge j n with h | h
      · exact h
      · exact absurd hj (tail_waits hs hc hn inv _ i rfl hin hun j h)
    refine ⟨fun h0 => (by rw [h0] at hr; cases hr), fun j hj => ⟨low j hj, ?_⟩⟩
    by_cases hji : j = i
    · subst hji; exact hy.qOp hi H
    · have h1 := hdone _ _ H j (ready_mono hj hji)
      have h2 := low j hj
      omega
  | succ f ih =>
    intro done a inv hfree hr hy H
    have hun := (mem_ready.1 hr).1
    have low : ∀ j ∈ Region.ready md ops done, j < n := fun j hj => by
      rcases Nat.lt_or_ge j n with h | h
      · exact h
      · exact absurd hj (tail_waits hs hc hn inv _ i rfl hin hun j h)
    refine ⟨fun h0 => (by rw [h0] at hr; cases hr), fun j hj => ⟨low j hj, ?_⟩⟩
    by_cases hji : j = i
    · subst hji; exact hy.qOp hi H
    · obtain ⟨hjun, oj, hoj, hall⟩ := mem_ready.1 hj
      have hno : ∀ e ∈ oj.after, Region.binds md e = true → e.on ≠ i := fun e he hb heq => by
        have h1 := hall e he hb
        rw [heq, getD_both hun] at h1
        cases h1
      have h1 := qOp_put hoj (hfree j oj hoj hji hjun hno) (fun cs b => hsel i oi cs b hi) (fun cs b => hsel j oj cs b hoj) hy (H.2 j (ready_mono hj hji)).2
      refine qOp_mono (fun a' h2 => ?_) h1
      refine ih _ a' (inv.set hj (low j hj)) (fun k ok hk hki hku hkn => hfree k ok hk hki ?_ hkn) (ready_mono hr (Ne.symm hji)) h2.1 ?_
      · by_cases hjk : j = k
        · subst hjk; exact hjun
        · rw [getD_set_ne true hjk] at hku; exact hku
      · rw [Array.setIfInBounds_comm _ _ hji]; exact h2.2
theorem heads_lex {n g : Nat} {S : Act → Prop} (hsel : Region.noSelect ops = true) (hs : Region.sinkB md ops n = true) (hc : Region.chainB md ops n = true) (hn : n < ops.size) :
    ∀ (l : List Oper) (k : Nat) (done : Array Bool) (a : Act), (∀ j, j < l.length → l[j]? = ops[k + j]?) → k + l.length = n → HeadInv md ops n done →
    Region.lexHead md ops g l.length k done = true → wpQuiet P ops C S l a → Heads P md ops C n (fun done' a' => Region.seqB md ops g n done' = true ∧ S a') l.length done a
  | [], k, done, a, _, hk, _, hB, h => by
    obtain rfl : k = n := by simpa using hk
    exact ⟨by simpa [Region.lexHead] using hB, h⟩
  | o :: l, k, done, a, hl, hk, inv, hB, h => by
    have h0 : ops[k]? = some o := by simpa using (hl 0 (by simp)).symm
    simp only [List.length_cons, Region.lexHead, Bool.and_eq_true] at hB hk
    have hr : k ∈ Region.ready md ops done := by simpa using hB.1.1
    have hq : qOp P ops C k (wpQuiet P ops C S l) a := by unfold qOp; simp only [h0]; exact h
    obtain ⟨v, hy, hK⟩ := yieldsIn_of_qOp h0 hq
    exact heads_first h0 (Region.noSelect_spec hsel) hs hc hn (by omega) (fun done' a' hL => seqB_ready hL.1) l.length done a inv (Region.free_spec h0 hB.1.2) hr hy
      (heads_lex hsel hs hc hn l (k + 1) _ _ (fun j hj => by have := hl (j + 1) (by simp; omega); simpa [Nat.add_assoc, Nat.add_comm 1 j] using this) (by omega) (inv.set hr (by omega)) hB.2 hK)
/-- Quiet ahead of operation n; from n on in turn, in any world under the one before. -/
theorem region_tail {id : Nat} {Q : Exit → Act → World → Prop} {a : Act} {w : World} {l : List Oper} (n : Nat) (hm : P.follows .mixedOrders = true) (hB : Region.lexTailB .any l.toArray n = true)
    (h : wpQuiet P l.toArray (fun w' => ∃ x : Under w, w' = x.w) (fun a' => ∀ w', (∃ x : Under w, w' = x.w) → wpList P l.toArray Q (l.drop n) a' w') (l.take n) a) : (Code.region id l.toArray true).wp P Q a w := by
  simp only [Region.lexTailB, Bool.and_eq_true, decide_eq_true_eq] at hB
  obtain ⟨⟨⟨⟨hsel, hn⟩, hs⟩, hc⟩, hlex⟩ := hB
  have hn' : n < l.length := by simpa using hn
  have htl : (l.take n).length = n := by simp; omega
  have hdl : (l.drop n).length = l.toArray.size - n := by simp
  have inv0 : HeadInv .any l.toArray n (Array.replicate l.toArray.size false) :=
    { size := by simp
      closed := fun j oj _ hl => by rw [getD_replicate_false] at hl; cases hl
      tail := fun t _ ht => getD_in (by simpa using ht) (getD_replicate_false _ _) }
  have H := heads_lex (md := .any) (g := l.toArray.size - n) hsel hs hc hn (l.take n) 0 _ a (fun j hj => by
    rw [htl] at hj
    simp [hj]) (by simpa using htl) inv0 (by rw [htl]; exact hlex) h
  refine wp_region_any hm ?_
  have K := any_of_heads (R := Q) (g := l.toArray.size - n) (fun done a' w' hw' hL => by
    have k := wpAny_of_seq (md := .any) (Q' := Q) (l.drop n) n done a' w' (fun j => by simp [List.getElem?_drop]) (by rw [hdl]; exact hL.1) (hL.2 w' hw')
    rwa [hdl] at k) _ _ _ _ ⟨⟨_, (Below.refl _ w).drew⟩, rfl⟩ H
  rw [htl, show n + (l.toArray.size - n) = l.toArray.size by omega] at K
  exact K
/-- A load of a row, quiet. -/
theorem quiet_load_row {o : Oper} {rest : List Oper} {a : Act} {Q : Act → Prop} (hw : Region.wanted o (yielded ops a.tmps) = true) (ty : TypeId) (x : Operand) (ho : o.op = .load ty x)
    (b off : Nat) (hx : a.eval x = .pointer (some ⟨b, off, none⟩)) (cs : Array Value) (hS : ∀ w, C w → (loadVar ty ⟨b, off, none⟩).run P w = .ok (.agg cs) w) (a' : Act) (ha : a' = a.put o.dst (.agg cs))
    (h : wpQuiet P ops C Q rest a') : wpQuiet P ops C Q (o :: rest) a := by
  refine wpQuiet_step fun K hK => ?_
  rw [if_pos hw]
  refine ⟨.agg cs, fun w hw' => ?_, hK _ (ha ▸ h)⟩
  unfold Oper.quietAt execOp
  simp only [ho, hx, Instr.loadAt, Instr.sureAddr, Sem.run_bind, Sem.run_pure, Result.andThen_ok, hS w hw']
  exact ⟨rfl, rfl⟩
/-- A part of a block that is known whole. -/
theorem load_part {w : World} {b o : Nat} {K : Array Value} {t ty : TypeId} {d : TypeDesc} (cs : Array Value) (hb : w.heap[b]? = some (.cells K t (0, 0))) (hc : ∀ j v, cs[j]? = some v → K[o + j]? = some v)
    (hu : P.underlying ty = some d) (hd : d.isRow = true) (hi : (P.info? ty).map (·.size) = some cs.size) : (loadVar ty ⟨b, o, none⟩).run P w = .ok (.agg cs) w := by
  have h := run_loadVar_mid (P := P) w b o ty cs.toList d (fun j v hv => by rw [cell_of_row w b (o + j) K t (0, 0) hb]; exact hc j v (by simpa using hv)) hu hd (by simpa using hi)
  simpa using h
end
end Go.Proofs.Ytlhjacgocggbcaa
