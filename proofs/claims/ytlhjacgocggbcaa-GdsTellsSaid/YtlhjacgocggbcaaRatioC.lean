/- The walks of the layer ratio, but for the least of several: each function comes to the plain number of RatioS. -/
import Derived.Test.YtlhjacgocggbcaaWideX
import Derived.Test.YtlhjacgocggbcaaRatioS
set_option linter.unusedVariables false
namespace Go.Proofs.Ytlhjacgocggbcaa
open Go.RowKit Go.Shelf
attribute [local go_sem ↓] lt_alloc

theorem ret_ii {a b c d : Int} (h : a = b) (h' : c = d) : Ending.returned (.tuple #[.int .i64 a, .int .i64 c]) = .returned (.tuple #[.int .i64 b, .int .i64 d]) := by rw [h, h']
theorem part_z (a b : Int) (a0 : 0 ≤ a) (a1 : a < 18446744073709551616) (b0 : 0 ≤ b) (b1 : b < 18446744073709551616) (u : FuncId) (cap : Array Value) (w : World) :
    Calls Try.prog 50 #[.int .u64 a, .int .u64 b, .int .u64 0, .func (.func u) #[] cap] w fun e w' => e = .returned (.tuple #[.int .u64 0, .int .i64 20]) ∧ Below w.heap.size w w' := by
  go_enter Try.func50, Try.ntmps50
  go_wp2_with (first
    | (go_at_call 54; refine (wide_Mul_exact _ _ (by assumption) (by assumption) (by assumption) (by assumption) _).mono ?_; rintro e w' ⟨rfl, rfl⟩)
    | (go_at_call 53; refine (wide_Div0_exact _ _ _).mono ?_; rintro e w' ⟨rfl, rfl⟩))
  go_ret2
  exact ⟨rfl, by repeat' (first | (with_reducible exact Below.refl _ _) | (with_reducible assumption) | (with_reducible refine Below.alloc ?_ ?_ _) | (with_reducible refine below_drewN ?_ _) | (with_reducible refine Below.drew ?_) | (with_reducible refine Below.setCell ?_ ?_ _) | go_size | omega | (simp; omega))⟩
theorem up_Floor (r : Int) (w : World) : Calls Try.prog 51 #[.int .u64 r] w fun e w' => e = .returned (.bool false) ∧ w = w' := by
  go_enter Try.func51, Try.ntmps51
  go_wp2_with fail
  go_ret
  exact ⟨rfl, rfl⟩
set_option maxHeartbeats 1000000 in
theorem part_Floor (a b c : Int) (a0 : 0 ≤ a) (a1 : a < 18446744073709551616) (b0 : 0 ≤ b) (b1 : b < 18446744073709551616) (c0 : 0 < c) (c1 : c < 18446744073709551616)  (w : World) :
    Calls Try.prog 50 #[.int .u64 a, .int .u64 b, .int .u64 c, .func (.func 51) #[] #[]] w fun e w' =>
      e = .returned (.tuple #[.int .u64 (partV (a * b / c) c), .int .i64 (partE (a * b / c) c)]) ∧ Below w.heap.size w w' := by
  have p1 := mul_bd a0 a1 b0 b1
  have e1 := wN_of (n := a * b) (by omega) (by omega)
  obtain ⟨f1, f2, f3, f4, -⟩ := quo_facts p1.1 p1.2 c0
  obtain ⟨h0, h1⟩ := wHi_bd (a * b)
  obtain ⟨l0, l1⟩ := wLo_bd (a * b)
  have hd := fun w => wide_DivP (wHi (a * b)) (wLo (a * b)) c h0 h1 l0 l1 c0 c1 w
  rw [e1] at hd
  clear e1
  rcases Int.lt_or_le (a * b / c) 18446744073709551616 with hq | hq
  · rw [partV_lt c0 hq, partE_lt c0 hq]
    obtain ⟨k1, k2⟩ := hi_zero (by omega) hq
    go_enter Try.func50, Try.ntmps50
    go_wp2_with (go_at_call 54; refine (wide_Mul_exact _ _ (by assumption) (by assumption) (by assumption) (by assumption) _).mono ?_; rintro e w' ⟨rfl, rfl⟩)
    refine (hd _).mono ?_
    rintro e w1 ⟨rfl, hb1⟩
    have hB1 : Below w.heap.size w w1 := by repeat' (first | (with_reducible exact Below.refl _ _) | (with_reducible assumption) | (with_reducible refine Below.trans ?_ (Below.mono hb1 ?_)) | (with_reducible refine Below.alloc ?_ ?_ _) | (with_reducible refine below_drewN ?_ _) | (with_reducible refine Below.drew ?_) | (with_reducible refine Below.setCell ?_ ?_ _) | go_size | omega | (simp; omega))
    have hs1 : w.heap.size ≤ w1.heap.size := hB1.size
    clear hb1 hd
    go_wp2_with (first | (go_at_call 51; refine (up_Floor _ _).mono ?_; rintro e w' ⟨rfl, rfl⟩))
    all_goals
      go_ret2
      exact ⟨rfl, by repeat' (first | (with_reducible exact Below.refl _ _) | (with_reducible assumption) | (with_reducible refine Below.alloc ?_ ?_ _) | (with_reducible refine below_drewN ?_ _) | (with_reducible refine Below.drew ?_) | (with_reducible refine Below.setCell ?_ ?_ _) | go_size | omega | (simp; omega))⟩
  · rw [partV_ge c0 hq, partE_ge c0 hq]
    have k1 : (wHi (a * b / c) != 0) = true := by have := hi_pos hq (by omega); simp; omega
    go_enter Try.func50, Try.ntmps50
    go_wp2_with (go_at_call 54; refine (wide_Mul_exact _ _ (by assumption) (by assumption) (by assumption) (by assumption) _).mono ?_; rintro e w' ⟨rfl, rfl⟩)
    refine (hd _).mono ?_
    rintro e w1 ⟨rfl, hb1⟩
    have hB1 : Below w.heap.size w w1 := by repeat' (first | (with_reducible exact Below.refl _ _) | (with_reducible assumption) | (with_reducible refine Below.trans ?_ (Below.mono hb1 ?_)) | (with_reducible refine Below.alloc ?_ ?_ _) | (with_reducible refine below_drewN ?_ _) | (with_reducible refine Below.drew ?_) | (with_reducible refine Below.setCell ?_ ?_ _) | go_size | omega | (simp; omega))
    have hs1 : w.heap.size ≤ w1.heap.size := hB1.size
    clear hb1 hd
    go_wp2_with (first | (go_at_call 51; refine (up_Floor _ _).mono ?_; rintro e w' ⟨rfl, rfl⟩))
    all_goals
      go_ret2
      exact ⟨rfl, by repeat' (first | (with_reducible exact Below.refl _ _) | (with_reducible assumption) | (with_reducible refine Below.alloc ?_ ?_ _) | (with_reducible refine below_drewN ?_ _) | (with_reducible refine Below.drew ?_) | (with_reducible refine Below.setCell ?_ ?_ _) | go_size | omega | (simp; omega))⟩
theorem ratio_Floor (a b c : Int) (a0 : 0 ≤ a) (a1 : a < 18446744073709551616) (b0 : 0 ≤ b) (b1 : b < 18446744073709551616) (c0 : 0 ≤ c) (c1 : c < 18446744073709551616) (w : World) :
    Calls Try.prog 34 #[.int .u64 a, .int .u64 b, .int .u64 c] w fun e w' => e = .returned (.tuple #[.int .u64 (partV (a * b / c) c), .int .i64 (partE (a * b / c) c)]) ∧ Below w.heap.size w w' := by
  rcases Int.lt_or_eq_of_le c0 with hc | rfl
  · go_enter Try.func34, Try.ntmps34
    go_wp2_with (go_at_call 50; refine (part_Floor a b c a0 a1 b0 b1 hc c1 _).mono ?_; rintro e w' ⟨rfl, hb⟩)
    go_ret2
    exact ⟨rfl, hb⟩
  · rw [partV_z, partE_z]
    go_enter Try.func34, Try.ntmps34
    go_wp2_with (go_at_call 50; refine (part_z a b a0 a1 b0 b1 _ _ _).mono ?_; rintro e w' ⟨rfl, hb⟩)
    go_ret2
    exact ⟨rfl, hb⟩
end Go.Proofs.Ytlhjacgocggbcaa
