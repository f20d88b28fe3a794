/- The walks of the document's answer for the layer ratio, but for the least of several. -/
import Derived.Test.YtlhjacgocggbcaaRatioC
import Derived.Test.YtlhjacgocggbcaaWideR3
set_option linter.unusedVariables false
namespace Go.Proofs.Ytlhjacgocggbcaa
open Go.RowKit Go.Shelf
attribute [local go_sem ↓] lt_alloc

theorem sum_bd {a b s : Int} (a0 : 0 ≤ a) (a1 : a < 18446744073709551616) (b0 : 0 ≤ b) (b1 : b < 18446744073709551616) (s0 : 0 ≤ s) (s1 : s < 18446744073709551616) :
    wN (wHi (a * b)) (wLo (a * b)) + wN 0 s = a * b + s ∧ 0 ≤ a * b + s ∧ a * b + s < 340282366920938463463374607431768211456 ∧ wOver (a * b + s) = false := by
  have p := mul_bd a0 a1 b0 b1
  rw [wN_of p.1 (by omega)]
  generalize a * b = m at *
  refine ⟨by unfold wN; omega, by omega, by omega, ?_⟩
  unfold wOver; simp only [decide_eq_false_iff_not]; omega
theorem ref3_part_z (a b s : Int) (a0 : 0 ≤ a) (a1 : a < 18446744073709551616) (b0 : 0 ≤ b) (b1 : b < 18446744073709551616) (s0 : 0 ≤ s) (s1 : s < 18446744073709551616) (w : World) :
    Calls Try.prog 52 #[.int .u64 a, .int .u64 b, .int .u64 0, .int .u64 s] w fun e w' => e = .returned (.tuple #[.int .u64 0, .int .i64 20]) ∧ Below w.heap.size w w' := by
  go_enter Try.func52, Try.ntmps52
  go_wp2_with fail
  refine (ref2_Mul a b a0 a1 b0 b1 _).mono ?_
  rintro r w1 ⟨rfl, hb1⟩
  have hB1 : Below w.heap.size w w1 := by repeat' (first | (with_reducible exact Below.refl _ _) | (with_reducible assumption) | (with_reducible refine Below.trans ?_ (Below.mono hb1 ?_)) | (with_reducible refine Below.alloc ?_ ?_ _) | (with_reducible refine below_drewN ?_ _) | (with_reducible refine Below.drew ?_) | (with_reducible refine Below.setCell ?_ ?_ _) | go_size | omega | (simp; omega))
  have hs1 := hB1.size
  clear hb1
  go_wp2_with fail
  refine (ref2_Add _ _ 0 s (wHi_bd _).1 (wHi_bd _).2 (wLo_bd _).1 (wLo_bd _).2 (by decide) (by decide) s0 s1 _).mono ?_
  rintro r w2 ⟨rfl, hb2⟩
  have hB2 : Below w.heap.size w w2 := by repeat' (first | (with_reducible exact Below.refl _ _) | (with_reducible assumption) | (with_reducible refine Below.trans ?_ (Below.mono hb2 ?_)) | (with_reducible refine Below.alloc ?_ ?_ _) | (with_reducible refine below_drewN ?_ _) | (with_reducible refine Below.drew ?_) | (with_reducible refine Below.setCell ?_ ?_ _) | go_size | omega | (simp; omega))
  have hs2 := hB2.size
  clear hb2
  go_wp2_with fail
  refine (ref2_Div0 _ _ _).mono ?_
  rintro r w3 ⟨rfl, hb3⟩
  have hB3 : Below w.heap.size w w3 := by repeat' (first | (with_reducible exact Below.refl _ _) | (with_reducible assumption) | (with_reducible refine Below.trans ?_ (Below.mono hb3 ?_)) | (with_reducible refine Below.alloc ?_ ?_ _) | (with_reducible refine below_drewN ?_ _) | (with_reducible refine Below.drew ?_) | (with_reducible refine Below.setCell ?_ ?_ _) | go_size | omega | (simp; omega))
  have hs3 := hB3.size
  clear hb3
  go_wp2_with fail
  go_ret2
  exact ⟨rfl, by repeat' (first | (with_reducible exact Below.refl _ _) | (with_reducible assumption) | (with_reducible refine Below.alloc ?_ ?_ _) | (with_reducible refine below_drewN ?_ _) | (with_reducible refine Below.drew ?_) | (with_reducible refine Below.setCell ?_ ?_ _) | go_size | omega | (simp; omega))⟩
theorem ref3_part_p (a b c s : Int) (a0 : 0 ≤ a) (a1 : a < 18446744073709551616) (b0 : 0 ≤ b) (b1 : b < 18446744073709551616) (c0 : 0 < c) (c1 : c < 18446744073709551616) (s0 : 0 ≤ s) (s1 : s < 18446744073709551616) (w : World) :
    Calls Try.prog 52 #[.int .u64 a, .int .u64 b, .int .u64 c, .int .u64 s] w fun e w' =>
      e = .returned (.tuple #[.int .u64 (partV ((a * b + s) / c) c), .int .i64 (partE ((a * b + s) / c) c)]) ∧ Below w.heap.size w w' := by
  obtain ⟨t1, t2, t3, t4⟩ := sum_bd a0 a1 b0 b1 s0 s1
  have hadd := fun w => ref2_Add (wHi (a * b)) (wLo (a * b)) 0 s (wHi_bd _).1 (wHi_bd _).2 (wLo_bd _).1 (wLo_bd _).2 (by decide) (by decide) s0 s1 w
  rw [t1, t4] at hadd
  have hd := fun w => ref2_DivP (wHi (a * b + s)) (wLo (a * b + s)) c (wHi_bd _).1 (wHi_bd _).2 (wLo_bd _).1 (wLo_bd _).2 c0 c1 w
  rw [wN_of t2 t3] at hd
  have q0 : 0 ≤ (a * b + s) / c := Int.ediv_nonneg t2 (by omega)
  have q1 : (a * b + s) / c ≤ a * b + s := Int.ediv_le_self _ t2
  clear t1 t4
  rcases Int.lt_or_le ((a * b + s) / c) 18446744073709551616 with hq | hq
  · rw [partV_lt c0 hq, partE_lt c0 hq]
    obtain ⟨k1, k2⟩ := hi_zero q0 hq
    go_enter Try.func52, Try.ntmps52
    go_wp2_with fail
    refine (ref2_Mul a b a0 a1 b0 b1 _).mono ?_
    rintro r w1 ⟨rfl, hb1⟩
    have hB1 : Below w.heap.size w w1 := by repeat' (first | (with_reducible exact Below.refl _ _) | (with_reducible assumption) | (with_reducible refine Below.trans ?_ (Below.mono hb1 ?_)) | (with_reducible refine Below.alloc ?_ ?_ _) | (with_reducible refine below_drewN ?_ _) | (with_reducible refine Below.drew ?_) | (with_reducible refine Below.setCell ?_ ?_ _) | go_size | omega | (simp; omega))
    have hs1 := hB1.size
    clear hb1
    go_wp2_with fail
    refine (hadd _).mono ?_
    rintro r w2 ⟨rfl, hb2⟩
    have hB2 : Below w.heap.size w w2 := by repeat' (first | (with_reducible exact Below.refl _ _) | (with_reducible assumption) | (with_reducible refine Below.trans ?_ (Below.mono hb2 ?_)) | (with_reducible refine Below.alloc ?_ ?_ _) | (with_reducible refine below_drewN ?_ _) | (with_reducible refine Below.drew ?_) | (with_reducible refine Below.setCell ?_ ?_ _) | go_size | omega | (simp; omega))
    have hs2 := hB2.size
    clear hb2
    go_wp2_with fail
    refine (hd _).mono ?_
    rintro r w3 ⟨rfl, hb3⟩
    have hB3 : Below w.heap.size w w3 := by repeat' (first | (with_reducible exact Below.refl _ _) | (with_reducible assumption) | (with_reducible refine Below.trans ?_ (Below.mono hb3 ?_)) | (with_reducible refine Below.alloc ?_ ?_ _) | (with_reducible refine below_drewN ?_ _) | (with_reducible refine Below.drew ?_) | (with_reducible refine Below.setCell ?_ ?_ _) | go_size | omega | (simp; omega))
    have hs3 := hB3.size
    clear hb3
    go_wp2_with fail
    go_ret2
    exact ⟨rfl, by repeat' (first | (with_reducible exact Below.refl _ _) | (with_reducible assumption) | (with_reducible refine Below.alloc ?_ ?_ _) | (with_reducible refine below_drewN ?_ _) | (with_reducible refine Below.drew ?_) | (with_reducible refine Below.setCell ?_ ?_ _) | go_size | omega | (simp; omega))⟩
  · rw [partV_ge c0 hq, partE_ge c0 hq]
    have k1 := hi_pos hq (by omega)
    go_enter Try.func52, Try.ntmps52
    go_wp2_with fail
    refine (ref2_Mul a b a0 a1 b0 b1 _).mono ?_
    rintro r w1 ⟨rfl, hb1⟩
    have hB1 : Below w.heap.size w w1 := by repeat' (first | (with_reducible exact Below.refl _ _) | (with_reducible assumption) | (with_reducible refine Below.trans ?_ (Below.mono hb1 ?_)) | (with_reducible refine Below.alloc ?_ ?_ _) | (with_reducible refine below_drewN ?_ _) | (with_reducible refine Below.drew ?_) | (with_reducible refine Below.setCell ?_ ?_ _) | go_size | omega | (simp; omega))
    have hs1 := hB1.size
    clear hb1
    go_wp2_with fail
    refine (hadd _).mono ?_
    rintro r w2 ⟨rfl, hb2⟩
    have hB2 : Below w.heap.size w w2 := by repeat' (first | (with_reducible exact Below.refl _ _) | (with_reducible assumption) | (with_reducible refine Below.trans ?_ (Below.mono hb2 ?_)) | (with_reducible refine Below.alloc ?_ ?_ _) | (with_reducible refine below_drewN ?_ _) | (with_reducible refine Below.drew ?_) | (with_reducible refine Below.setCell ?_ ?_ _) | go_size | omega | (simp; omega))
    have hs2 := hB2.size
    clear hb2
    go_wp2_with fail
    refine (hd _).mono ?_
    rintro r w3 ⟨rfl, hb3⟩
    have hB3 : Below w.heap.size w w3 := by repeat' (first | (with_reducible exact Below.refl _ _) | (with_reducible assumption) | (with_reducible refine Below.trans ?_ (Below.mono hb3 ?_)) | (with_reducible refine Below.alloc ?_ ?_ _) | (with_reducible refine below_drewN ?_ _) | (with_reducible refine Below.drew ?_) | (with_reducible refine Below.setCell ?_ ?_ _) | go_size | omega | (simp; omega))
    have hs3 := hB3.size
    clear hb3
    go_wp2_with fail
    go_ret2
    exact ⟨rfl, by repeat' (first | (with_reducible exact Below.refl _ _) | (with_reducible assumption) | (with_reducible refine Below.alloc ?_ ?_ _) | (with_reducible refine below_drewN ?_ _) | (with_reducible refine Below.drew ?_) | (with_reducible refine Below.setCell ?_ ?_ _) | go_size | omega | (simp; omega))⟩
theorem ref3_Floor (a b c : Int) (a0 : 0 ≤ a) (a1 : a < 18446744073709551616) (b0 : 0 ≤ b) (b1 : b < 18446744073709551616) (c0 : 0 ≤ c) (c1 : c < 18446744073709551616) (w : World) :
    Calls Try.prog 36 #[.int .u64 a, .int .u64 b, .int .u64 c] w fun e w' => e = .returned (.tuple #[.int .u64 (partV (a * b / c) c), .int .i64 (partE (a * b / c) c)]) ∧ Below w.heap.size w w' := by
  rcases Int.lt_or_eq_of_le c0 with hc | rfl
  · have h := fun w => ref3_part_p a b c 0 a0 a1 b0 b1 hc c1 (by decide) (by decide) w
    rw [Int.add_zero] at h
    go_enter Try.func36, Try.ntmps36
    go_wp2_with (go_at_call 52; refine (h _).mono ?_; rintro e w' ⟨rfl, hb⟩)
    go_ret2
    exact ⟨rfl, hb⟩
  · rw [partV_z, partE_z]
    go_enter Try.func36, Try.ntmps36
    go_wp2_with (go_at_call 52; refine (ref3_part_z a b 0 a0 a1 b0 b1 (by decide) (by decide) _).mono ?_; rintro e w' ⟨rfl, hb⟩)
    go_ret2
    exact ⟨rfl, hb⟩
end Go.Proofs.Ytlhjacgocggbcaa
