/- Two ranks, compared. -/
import Derived.Test.YtmehejdgdjaipaaLhdG
import Derived.ChangeKeysEq
import Derived.Laws.StructEq
set_option linter.unusedVariables false
namespace Go.Proofs.Ytmehejdgdjaipaa
open Go.RowKit Go.Shelf

/-- Two rows of eight. -/
def same8 (R S : Nat → Int) : Bool := (List.range 8).all fun i => R i == S i
def sameR (R S : Nat → Int) : Bool := same8 R S && same8 (evR R) (evR S)
theorem same8_iff {R S : Nat → Int} : same8 R S = true ↔ ∀ i, i < 8 → R i = S i := by simp [same8]
theorem sameR_iff {R S : Nat → Int} : sameR R S = true ↔ ∀ i, i < 16 → R i = S i := by
  unfold sameR
  rw [Bool.and_eq_true, same8_iff, same8_iff]
  constructor
  · rintro ⟨h1, h2⟩ i hi
    by_cases h : i < 8
    · exact h1 i h
    · have := h2 (i - 8) (by omega)
      unfold evR at this
      rwa [Nat.sub_add_cancel (by omega)] at this
  · intro h
    exact ⟨fun i hi => h i (by omega), fun i hi => h (i + 8) (by omega)⟩
theorem sameR_self (R : Nat → Int) : sameR R R = true := sameR_iff.2 fun _ _ => rfl
theorem u64_under : Try.prog.underlying 22 = some (.int .u64) := by kernel_rfl
theorem u64_cells : Try.prog.cellsOf 22 = 1 := by kernel_rfl
theorem run_items (C D : Array Value) (R S : Nat → Int) (d : Nat) (w : World) : ∀ (l : List Nat), (∀ i ∈ l, C[i]? = some (.int .u64 (R i))) → (∀ i ∈ l, D[i]? = some (.int .u64 (S i))) →
    (Op.eqItems (d + 1) 22 1 C D l).run Try.prog w = .ok (l.all fun i => R i == S i) w
  | [], _, _ => by simp [Op.eqItems]
  | i :: l, hC, hD => by
    have ih := run_items C D R S d w l (fun j hj => hC j (by simp [hj])) (fun j hj => hD j (by simp [hj]))
    have h1 := hC i (by simp)
    have h2 := hD i (by simp)
    have p : ∀ (E : Array Value) (v : Int), E[i]? = some (.int .u64 v) → (part 22 E (i * 1)).run Try.prog w = .ok (.int .u64 v) w := by
      intro E v hE
      simp [part, isAgg, Sem.run_bind, run_underlying u64_under, hE]
    rw [Op.eqItems]
    simp only [Sem.run_bind, p C _ h1, p D _ h2, Result.andThen_ok, run_equalIn_int w d 22 .u64 .u64 _ _ u64_under]
    rw [List.all_cons]
    cases h : (R i == S i)
    · simp
    · simp [ih]
theorem get_of {R : Nat → Int} {n : Nat} : ∀ i ∈ List.range n, (rowC R n)[i]? = some (.int .u64 (R i)) := fun i hi => rowC_get (List.mem_range.1 hi)
theorem ext_lo (R : Nat → Int) : (rankC R).extract 0 8 = rowC R 8 := by kernel_rfl
theorem ext_hi (R : Nat → Int) : (rankC R).extract 8 16 = rowC (evR R) 8 := by kernel_rfl
theorem arr_equal (R S : Nat → Int) (d : Nat) (w : World) : (Op.equalIn (d + 2) 23 (.agg (rowC R 8)) (.agg (rowC S 8))).run Try.prog w = .ok (same8 R S) w := by
  obtain ⟨i, hi⟩ : ∃ i, Try.prog.info? 22 = some i := by
    have h : (Try.prog.info? 22).map (·.size) = some 1 := by kernel_rfl
    cases hq : Try.prog.info? 22 with
    | none => rw [hq] at h; cases h
    | some i => exact ⟨i, rfl⟩
  rw [run_equalIn_array w (d + 1) (rowC R 8) (rowC S 8) (n := 8) (e := 22) (i := i) (by kernel_rfl) hi, u64_cells]
  exact run_items _ _ R S d w _ get_of get_of
theorem rank_part (R : Nat → Int) (w : World) : (part 23 (rankC R) 0).run Try.prog w = .ok (.agg (rowC R 8)) w ∧ (part 23 (rankC R) 8).run Try.prog w = .ok (.agg (rowC (evR R) 8)) w := by
  have hu : Try.prog.underlying 23 = some (.array 8 22) := by kernel_rfl
  obtain ⟨i, hi, h8⟩ : ∃ i, Try.prog.info? 23 = some i ∧ i.size = 8 := by
    have h := arr_size
    cases hq : Try.prog.info? 23 with
    | none => rw [hq] at h; cases h
    | some i => rw [hq] at h; exact ⟨i, rfl, by simpa using h⟩
  constructor
  · simp [part, isAgg, sizeOf, typeInfo, Sem.run_bind, run_underlying hu, hi, h8]
    exact ext_lo R
  · simp [part, isAgg, sizeOf, typeInfo, Sem.run_bind, run_underlying hu, hi, h8]
    exact ext_hi R
theorem rank_equal (R S : Nat → Int) (w : World) : (binOp .eql 25 (.agg (rankC R)) (.agg (rankC S))).run Try.prog w = .ok (.bool (sameR R S)) w := by
  have hf : ∃ f0 f1, Try.prog.fieldsOf 25 = #[f0, f1] ∧ f0.name ≠ "_" ∧ f1.name ≠ "_" ∧ f0.type = 23 ∧ f1.type = 23 ∧ f0.offset = 0 ∧ f1.offset = 8 := by
    refine ⟨(Try.prog.fieldsOf 25)[0]'(of_decide_eq_true (by kernel_rfl)), (Try.prog.fieldsOf 25)[1]'(of_decide_eq_true (by kernel_rfl)), by kernel_rfl, of_decide_eq_true (by kernel_rfl), of_decide_eq_true (by kernel_rfl), by kernel_rfl, by kernel_rfl, by kernel_rfl, by kernel_rfl⟩
  obtain ⟨f0, f1, hF, n0, n1, t0, t1, o0, o1⟩ := hf
  have hu : Try.prog.underlying 25 = some (.struct (Try.prog.fieldsOf 25)) := by kernel_rfl
  have hp : Try.prog.stoodInHeld 25 = false := by kernel_rfl
  rw [run_eql_struct, run_equalIn_agg w 9999 _ _ _ hu hp, hF]
  obtain ⟨a0, a1⟩ := rank_part R w
  obtain ⟨b0, b1⟩ := rank_part S w
  have e0 := arr_equal R S 9997 w
  have e1 := arr_equal (evR R) (evR S) 9997 w
  simp only [Op.eqFields, ne_eq, n0, n1, not_false_eq_true, if_true, t0, t1, o0, o1, Sem.run_bind, a0, b0, Result.andThen_ok, e0]
  unfold sameR
  cases same8 R S
  · simp
  · simp only [Bool.not_true, Bool.false_eq_true, if_false, Sem.run_bind, a1, b1, Result.andThen_ok, e1]
    cases same8 (evR R) (evR S) <;> simp
theorem rank_guard : Try.prog.eqGuardType Try.prog.depth 25 = false := by kernel_rfl
theorem run_eql {P : Program} {t : TypeId} {x y : Operand} {C D : Array Value} {b : Bool} (hg : P.eqGuardType P.depth t = false) (hE : ∀ w, (binOp .eql t (.agg C) (.agg D)).run P w = .ok (.bool b) w) {a : Act} (hx : a.eval x = .agg C) (hy : a.eval y = .agg D) {t' : TypeId} {o : Oper} (ho : o.op = .binOp .eql t x y t') (w : World) :
    (execOp a.eval o).run P w = .ok (.value (.bool b)) w := by
  unfold execOp
  simp only [ho, hx, hy, Sem.run_bind, run_eqGuard_agg w .eql t x y C D hg, Result.andThen_ok, hE w, Sem.run_pure]
theorem wpList_eql {P : Program} {ops : Array Oper} {rest : List Oper} {o : Oper} {a : Act} {w : World} {Q : Exit → Act → World → Prop} (hgd : o.guard = none) (t t' : TypeId) (x y : Operand) (ho : o.op = .binOp .eql t x y t')
    (C D : Array Value) (hx : a.eval x = .agg C) (hy : a.eval y = .agg D) (hg : P.eqGuardType P.depth t = false) (b : Bool) (hE : ∀ w, (binOp .eql t (.agg C) (.agg D)).run P w = .ok (.bool b) w)
    (h : wpList P ops Q rest (a.put o.dst (.bool b)) w) : wpList P ops Q (o :: rest) a w :=
  wpList_plain hgd fun _ hK => by
    unfold Oper.wp
    rw [run_eql hg hE hx hy ho]
    exact hK _ _ h
/-- The same, quiet, in a region that draws its order. -/
theorem quiet_eql {P : Program} {ops : Array Oper} {W : World → Prop} {rest : List Oper} {o : Oper} {a : Act} {Q : Act → Prop} (hw : Region.wanted o (yielded ops a.tmps) = true) (t t' : TypeId) (x y : Operand) (ho : o.op = .binOp .eql t x y t')
    (C D : Array Value) (hx : a.eval x = .agg C) (hy : a.eval y = .agg D) (hg : P.eqGuardType P.depth t = false) (b : Bool) (hE : ∀ w, (binOp .eql t (.agg C) (.agg D)).run P w = .ok (.bool b) w)
    (h : wpQuiet P ops W Q rest (a.put o.dst (.bool b))) : wpQuiet P ops W Q (o :: rest) a := by
  refine wpQuiet_step fun K hK => ?_
  rw [if_pos hw]
  refine ⟨.bool b, fun w hw' => ?_, hK _ h⟩
  unfold Oper.quietAt
  rw [run_eql hg hE hx hy ho]
  exact ⟨rfl, rfl⟩
end Go.Proofs.Ytmehejdgdjaipaa
