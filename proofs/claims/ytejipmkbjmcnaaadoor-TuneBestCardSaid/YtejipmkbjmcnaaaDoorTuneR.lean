/- The walks of the reference's Same and Few. -/
import Derived.Test.YtejipmkbjmcnaaaDoorTuneI
import Derived.Laws.StructEq
set_option linter.unusedVariables false
set_option maxRecDepth 100000
set_option maxHeartbeats 2000000
namespace Go.Proofs.YtejipmkbjmcnaaaDoor
open Go.RowKit Go.Shelf
attribute [local go_sem ↓] lt_alloc

def sameB (s t : Sn) : Bool := eqB s.key t.key && (s.size == t.size) && (s.n == t.n)
theorem sameB_refl (s : Sn) : sameB s s = true := by
  unfold sameB
  rw [eqB_iff.2 rfl]; simp
def SameP (l k : List Sn) : Prop := l.length = k.length ∧ ∀ i, i < l.length → sameB (wAt l i) (wAt k i) = true
instance (l k : List Sn) : Decidable (SameP l k) := by unfold SameP; infer_instance
theorem SameP.refl (l : List Sn) : SameP l l := ⟨rfl, fun i _ => sameB_refl _⟩
def aggS (s : Sn) : Array Value := #[.string s.key, .int .i64 s.size, .int .i64 s.n]
theorem seen_neq (s t : Sn) (w : World) : (binOp .neq 25 (.agg (aggS s)) (.agg (aggS t))).run Tryd.prog w = .ok (.bool (!sameB s t)) w := by
  have hS : Tryd.prog.underlying 25 = some (.struct (Tryd.prog.fieldsOf 25)) := by kernel_rfl
  have hp : Tryd.prog.stoodInHeld 25 = false := by kernel_rfl
  have u1 : Tryd.prog.underlying 3 = some (.int .i64) := by kernel_rfl
  have u2 : Tryd.prog.underlying 9 = some .string := by kernel_rfl
  unfold aggS sameB eqB
  rw [run_neq_struct, show (10000 : Nat) = 9999 + 1 from rfl, run_equalIn_agg w 9999 25 _ _ hS hp]
  simp only [Program.fieldsOf, Tryd.underlying25]
  go_simp
  by_cases h1 : s.key.toList = t.key.toList <;> by_cases h2 : s.size = t.size <;> by_cases h3 : s.n = t.n <;> simp [h1, h2, h3]
theorem seen_guard : Tryd.prog.eqGuardType Tryd.prog.depth 25 = false := by kernel_rfl
theorem quiet_neq {P : Program} {ops : Array Oper} {W : World → Prop} {rest : List Oper} {o : Oper} {a : Act} {Q : Act → Prop} (hw : Region.wanted o (yielded ops a.tmps) = true) (t t' : TypeId) (x y : Operand) (ho : o.op = .binOp .neq t x y t')
    (C D : Array Value) (hx : a.eval x = .agg C) (hy : a.eval y = .agg D) (hg : P.eqGuardType P.depth t = false) (b : Bool) (hE : ∀ w, (binOp .neq t (.agg C) (.agg D)).run P w = .ok (.bool b) w)
    (h : wpQuiet P ops W Q rest (a.put o.dst (.bool b))) : wpQuiet P ops W Q (o :: rest) a := by
  refine wpQuiet_step fun K hK => ?_
  rw [if_pos hw]
  refine ⟨.bool b, fun w hw' => ?_, hK _ h⟩
  unfold Oper.quietAt execOp
  simp only [ho, hx, hy, Sem.run_bind, run_eqGuard_agg w .neq t x y C D hg, Result.andThen_ok, hE w, Sem.run_pure]
  exact ⟨rfl, rfl⟩
theorem ref21_Same {a b : Option Addr} {n m ca cb : Nat} {l k : List Sn} (hn : l.length = n) (hm : k.length = m) (w : World) (iL : IsW w a l) (iK : IsW w b k) :
    Calls Tryd.prog 14 #[.slice a n ca, .slice b m cb] w fun e w' => e = .returned (.bool (decide (SameP l k))) ∧ Below w.heap.size w w' := by
  obtain ⟨r, hr⟩ : ∃ r, decide (SameP l k) = r := ⟨_, rfl⟩
  rw [hr]
  have HR := Lib.hid hr
  clear hr
  by_cases hnm : n = m
  · subst hnm
    have IL := Lib.hid iL
    have IK := Lib.hid iK
    have HN := Lib.hid hn
    have HM := Lib.hid hm
    clear iL iK hn hm
    go_enter Tryd.func14, Tryd.ntmps14
    go_wp2_with fail
    go_loopw [5] (fun iv wr => ∃ i : Nat, i ≤ n ∧ iv = .int .i64 i ∧ Below w.heap.size w wr ∧ Hid (∀ j, j < i → sameB (wAt l j) (wAt k j) = true)) (fun iv _ => n - (intOf iv).toNat)
    case atStart => exact ⟨0, Nat.zero_le _, rfl, Below.refl _ _, Lib.hid fun j hj => absurd hj (Nat.not_lt_zero j)⟩
    case round =>
      obtain ⟨i, hi, rfl, hB, HALL⟩ := hrel
      by_cases hlt : i < n
      · obtain ⟨ab, ao, rfl, h63, a0, a1, a2⟩ := (IL.out.below hB).row (i := i) (by rw [HN.out]; exact hlt)
        rw [HN.out] at h63
        obtain ⟨bb, bo, rfl, _, b0, b1, b2⟩ := (IK.out.below hB).row (i := i) (by rw [HM.out]; exact hlt)
        have p0 := Under.cell a0; have p1 := Under.cell a1; have p2 := Under.cell a2
        have q0 := Under.cell b0; have q1 := Under.cell b1; have q2 := Under.cell b2
        clear a0 a1 a2 b0 b1 b2
        generalize hs : wAt l i = s at *
        generalize ht : wAt k i = t at *
        have HS := Lib.hid hs
        have HT := Lib.hid ht
        clear hs ht
        cases he : sameB s t with
        | true =>
          have hE := fun w => seen_neq s t w
          rw [he] at hE
          have HE := Lib.hid he
          have KE := Lib.hid hE
          clear he hE
          go_wp2_with fail
          (refine region_under (by kernel_rfl) (by kernel_rfl) ?_; (repeat (first | (refine quiet_neq (by kernel_rfl) 25 _ _ _ rfl (aggS s) (aggS t) rfl rfl seen_guard _ KE.out ?_) | go_big_quiet_step (fail) | quiet_step (fail))); refine wpQuiet_nil ?_; intro _ hw'; obtain ⟨x, hw''⟩ := hw'; subst hw''; go_wp2_with fail)
          refine ⟨⟨i + 1, by omega, by go_num, hB.trans (x.2.mono hB.size), Lib.hid fun j hj => ?_⟩, by simp [intOf]; omega⟩
          rcases Nat.lt_succ_iff_lt_or_eq.1 hj with h | rfl
          · exact HALL.out j h
          · rw [HS.out, HT.out]; exact HE.out
        | false =>
          have hE := fun w => seen_neq s t w
          rw [he] at hE
          have KE := Lib.hid hE
          have HF := Lib.hid (show r = false by
            rw [← HR.out]
            exact decide_eq_false fun h => by
              have := h.2 i (by rw [HN.out]; exact hlt)
              rw [HS.out, HT.out, he] at this
              cases this)
          clear he hE
          go_wp2_with fail
          (refine region_under (by kernel_rfl) (by kernel_rfl) ?_; (repeat (first | (refine quiet_neq (by kernel_rfl) 25 _ _ _ rfl (aggS s) (aggS t) rfl rfl seen_guard _ KE.out ?_) | go_big_quiet_step (fail) | quiet_step (fail))); refine wpQuiet_nil ?_; intro _ hw'; obtain ⟨x, hw''⟩ := hw'; subst hw''; go_wp2_with fail)
          go_ret
          exact ⟨by rw [HF.out]; rfl, hB.trans (x.2.mono hB.size)⟩
      · obtain rfl : n = i := by omega
        have HT := Lib.hid (show r = true by rw [← HR.out]; exact decide_eq_true ⟨by rw [HN.out, HM.out], fun j hj => HALL.out j (by rw [← HN.out]; exact hj)⟩)
        go_wp2_with fail
        go_ret
        exact ⟨by rw [HT.out]; rfl, hB⟩
  · have HF := Lib.hid (show r = false by rw [← HR.out]; exact decide_eq_false fun h => hnm (by rw [← hn, ← hm]; exact h.1))
    have hn' : ((n : Int) == m) = false := by simp; omega
    have hn2 : ((n : Int) != m) = true := by simp; omega
    clear iL iK hn hm
    go_enter Tryd.func14, Tryd.ntmps14
    go_wp2_with fail
    go_ret
    exact ⟨by rw [HF.out]; rfl, Below.refl _ _⟩
end Go.Proofs.YtejipmkbjmcnaaaDoor
