/- The walk of LhdAges. -/
import Derived.Test.YtmehejdgdjaipaaLhdA
import Derived.Lib.ItoaNum
set_option linter.unusedVariables false
set_option maxRecDepth 100000
set_option maxHeartbeats 2000000
namespace Go.Proofs.Ytmehejdgdjaipaa
open Go.RowKit Go.Shelf
attribute [local go_sem ↓] lt_alloc

theorem wpList_eqlW {P : Program} {ops : Array Oper} {rest : List Oper} {o : Oper} {a : Act} {w : World} {Q : Exit → Act → World → Prop} (hw : Region.wanted o (yielded ops a.tmps) = true) (t t' : TypeId) (x y : Operand) (ho : o.op = .binOp .eql t x y t')
    (C D : Array Value) (hx : a.eval x = .agg C) (hy : a.eval y = .agg D) (hg : P.eqGuardType P.depth t = false) (b : Bool) (hE : ∀ w, (binOp .eql t (.agg C) (.agg D)).run P w = .ok (.bool b) w)
    (h : wpList P ops Q rest (a.put o.dst (.bool b)) w) : wpList P ops Q (o :: rest) a w := by
  refine wpList_step fun K hK => ?_
  rw [if_pos hw]
  unfold Oper.wp
  rw [run_eql hg hE hx hy ho]
  exact hK _ _ h
theorem bl_pos {x : Nat} (h0 : x ≠ 0) (hx : x < 18446744073709551616) : 1 ≤ Lib.bitLen x := by
  have := Lib.bitLen_half x h0 hx
  omega
theorem bl_one : Lib.bitLen 1 = 1 := by decide
theorem bl_at (k : Nat) {x : Nat} (h0 : 2 ^ k ≤ x) (h1 : x < 2 ^ (k + 1)) (hx : x < 18446744073709551616) : Lib.bitLen x = k + 1 := by
  rw [Lib.bitLen_shift k x h0 hx]
  have e : x / 2 ^ k = 1 := by
    have hp : 0 < 2 ^ k := Nat.pow_pos (by decide)
    rw [Nat.pow_succ] at h1
    have a := (Nat.le_div_iff_mul_le hp).2 (show 1 * 2 ^ k ≤ x by omega)
    have b := (Nat.div_lt_iff_lt_mul hp).2 (show x < 2 * 2 ^ k by omega)
    omega
  rw [e, bl_one]
theorem age_cases (a : Int) (a0 : 0 ≤ a) (a1 : a < 18446744073709551616) :
    (ageV a = 0 ∧ a = 0) ∨ (ageV a = 1 ∧ 1 ≤ a ∧ a < 2) ∨ (ageV a = 2 ∧ 2 ≤ a ∧ a < 4) ∨ (ageV a = 3 ∧ 4 ≤ a ∧ a < 8) ∨ (ageV a = 4 ∧ 8 ≤ a ∧ a < 16) ∨ (ageV a = 5 ∧ 16 ≤ a ∧ a < 32) ∨ (ageV a = 6 ∧ 32 ≤ a ∧ a < 64) ∨ (ageV a = 7 ∧ 64 ≤ a) := by
  obtain ⟨x, rfl⟩ : ∃ x : Nat, a = x := ⟨a.toNat, by omega⟩
  have hx : x < 18446744073709551616 := by omega
  have hv : ageV (x : Int) = min ((Lib.bitLen x : Nat) : Int) 7 := rfl
  rw [hv]
  by_cases h : 64 ≤ x
  · have e := Lib.bitLen_shift 6 x (by omega) hx
    have p := bl_pos (x := x / 2 ^ 6) (by omega) (by omega)
    omega
  · by_cases h0 : x = 0
    · subst h0; rw [bl_zero]; exact Or.inl ⟨by decide, rfl⟩
    · rcases (show x < 2 ∨ (2 ≤ x ∧ x < 4) ∨ (4 ≤ x ∧ x < 8) ∨ (8 ≤ x ∧ x < 16) ∨ (16 ≤ x ∧ x < 32) ∨ (32 ≤ x ∧ x < 64) by omega) with h | h | h | h | h | h
      · have := bl_at 0 (x := x) (by omega) (by omega) hx; omega
      · have := bl_at 1 (x := x) (by omega) (by omega) hx; omega
      · have := bl_at 2 (x := x) (by omega) (by omega) hx; omega
      · have := bl_at 3 (x := x) (by omega) (by omega) hx; omega
      · have := bl_at 4 (x := x) (by omega) (by omega) hx; omega
      · have := bl_at 5 (x := x) (by omega) (by omega) hx; omega
theorem age_mono {a b : Int} (a0 : 0 ≤ a) (h : a ≤ b) (b1 : b < 18446744073709551616) : ageV a ≤ ageV b := by
  have ca := age_cases a a0 (by omega)
  have cb := age_cases b (by omega) b1
  omega
theorem ages19_walk (a b : Int) (a0 : 0 ≤ a) (a1 : a < 18446744073709551616) (b0 : 0 ≤ b) (b1 : b < 18446744073709551616) (w : World) :
    Calls Try.prog 4 #[.int .u64 a, .int .u64 b] w fun r w' => r = .returned (.bool true) ∧ Below w.heap.size w w' := by
  have k1 := fun w => lhd_Age a a0 a1 w
  have k2 := fun w => lhd_Age (min a b) (by omega) (by omega) w
  have k3 := fun w => lhd_Age (max a b) (by omega) (by omega) w
  have hm := age_mono (a := min a b) (b := max a b) (by omega) (by omega) (by omega)
  have hc := age_cases a a0 a1
  generalize ageV (min a b) = m1 at *
  generalize ageV (max a b) = m2 at *
  generalize ageV a = n at *
  rcases hc with ⟨rfl, rfl⟩ | ⟨rfl, h⟩ | ⟨rfl, h⟩ | ⟨rfl, h⟩ | ⟨rfl, h⟩ | ⟨rfl, h⟩ | ⟨rfl, h⟩ | ⟨rfl, h⟩
  all_goals
    go_enter Try.func4, Try.ntmps4
    go_wp2_with fail
    refine (awake19_any _).mono ?_
    rintro r w1 ⟨rfl, hb1⟩
    have hB1 : Below w.heap.size w w1 := by repeat' (first | (with_reducible exact Below.refl _ _) | (with_reducible assumption) | (with_reducible refine Below.trans ?_ (Below.mono hb1 ?_)) | (with_reducible refine Below.alloc ?_ ?_ _) | (with_reducible refine below_drewN ?_ _) | (with_reducible refine Below.drew ?_) | (with_reducible refine Below.setCell ?_ ?_ _) | go_size | omega | (simp; omega))
    have hS1 := hB1.size
    clear hb1
    go_wp2_with fail
    refine (k1 _).mono ?_
    rintro e _ ⟨rfl, rfl⟩
    go_wp2_with fail
    refine (k2 _).mono ?_
    rintro e _ ⟨rfl, rfl⟩
    go_wp2_with fail
    refine (k3 _).mono ?_
    rintro e _ ⟨rfl, rfl⟩
    go_wp2_with fail
    go_ret
    exact ⟨rfl, hB1⟩
end Go.Proofs.Ytmehejdgdjaipaa
