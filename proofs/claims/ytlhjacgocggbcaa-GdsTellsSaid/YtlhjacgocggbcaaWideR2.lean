/- The walks of the document's answer for the layer wide, second part. -/
import Derived.Test.YtlhjacgocggbcaaWideR1
set_option linter.unusedVariables false
namespace Go.Proofs.Ytlhjacgocggbcaa
open Go.RowKit Go.Shelf

theorem part_bd {a b : Int} (a0 : 0 ≤ a) (a1 : a < 4294967296) (b0 : 0 ≤ b) (b1 : b < 4294967296) : 0 ≤ a * b ∧ a * b ≤ 18446744065119617025 := by
  have h0 := Int.mul_nonneg a0 b0
  have h1 : a * b ≤ 4294967295 * b := Int.mul_le_mul_of_nonneg_right (by omega) b0
  omega
theorem prod_parts (a b : Int) : a * b = a / 4294967296 * (b / 4294967296) * 18446744073709551616 + (a / 4294967296 * (b % 4294967296) + a % 4294967296 * (b / 4294967296)) * 4294967296 + a % 4294967296 * (b % 4294967296) := by
  have ha : a = a / 4294967296 * 4294967296 + a % 4294967296 := by omega
  have hb : b = b / 4294967296 * 4294967296 + b % 4294967296 := by omega
  generalize a / 4294967296 = x at *
  generalize a % 4294967296 = y at *
  generalize b / 4294967296 = z at *
  generalize b % 4294967296 = t at *
  subst ha hb
  grind
/-- The parts of a product, named. -/
theorem prod_named {a b : Int} (ha : 0 ≤ a) (ha' : a < 18446744073709551616) (hb : 0 ≤ b) (hb' : b < 18446744073709551616) :
    ∃ x0 x1 y0 y1 p q r s : Int, a % 4294967296 = x0 ∧ a / 4294967296 = x1 ∧ b % 4294967296 = y0 ∧ b / 4294967296 = y1 ∧ x0 * y0 = p ∧ x0 * y1 = q ∧ x1 * y0 = r ∧ x1 * y1 = s ∧
      0 ≤ p ∧ p ≤ 18446744065119617025 ∧ 0 ≤ q ∧ q ≤ 18446744065119617025 ∧ 0 ≤ r ∧ r ≤ 18446744065119617025 ∧ 0 ≤ s ∧ s ≤ 18446744065119617025 ∧ a * b = s * 18446744073709551616 + (r + q) * 4294967296 + p := by
  obtain ⟨p0, p1⟩ := part_bd (show 0 ≤ a % 4294967296 by omega) (by omega) (show 0 ≤ b % 4294967296 by omega) (by omega)
  obtain ⟨q0, q1⟩ := part_bd (show 0 ≤ a % 4294967296 by omega) (by omega) (show 0 ≤ b / 4294967296 by omega) (by omega)
  obtain ⟨r0, r1⟩ := part_bd (show 0 ≤ a / 4294967296 by omega) (by omega) (show 0 ≤ b % 4294967296 by omega) (by omega)
  obtain ⟨s0, s1⟩ := part_bd (show 0 ≤ a / 4294967296 by omega) (by omega) (show 0 ≤ b / 4294967296 by omega) (by omega)
  exact ⟨_, _, _, _, _, _, _, _, rfl, rfl, rfl, rfl, rfl, rfl, rfl, rfl, p0, p1, q0, q1, r0, r1, s0, s1, prod_parts a b⟩
theorem mul_fin_hi {p q r s : Int} (p0 : 0 ≤ p) (p1 : p ≤ 18446744065119617025) (q0 : 0 ≤ q) (q1 : q ≤ 18446744065119617025) (r0 : 0 ≤ r) (r1 : r ≤ 18446744065119617025) (s0 : 0 ≤ s) (s1 : s ≤ 18446744065119617025) :
    (s + (q + p / 4294967296) / 4294967296 + (r + (q + p / 4294967296) % 4294967296) / 4294967296) / 4294967296 * 4294967296 + (s + (q + p / 4294967296) / 4294967296 + (r + (q + p / 4294967296) % 4294967296) / 4294967296) % 4294967296 =
      wHi (s * 18446744073709551616 + (r + q) * 4294967296 + p) := by unfold wHi; omega
theorem mul_fin_lo {p q r s : Int} (p0 : 0 ≤ p) (p1 : p ≤ 18446744065119617025) (q0 : 0 ≤ q) (q1 : q ≤ 18446744065119617025) (r0 : 0 ≤ r) (r1 : r ≤ 18446744065119617025) (s0 : 0 ≤ s) (s1 : s ≤ 18446744065119617025) :
    (r + (q + p / 4294967296)) % 4294967296 * 4294967296 + p % 4294967296 = wLo (s * 18446744073709551616 + (r + q) * 4294967296 + p) := by unfold wLo; omega
set_option maxHeartbeats 2000000 in
theorem ref2_Mul (a b : Int) (ha : 0 ≤ a) (ha' : a < 18446744073709551616) (hb : 0 ≤ b) (hb' : b < 18446744073709551616) (w : World) :
    Calls Try.prog 58 #[.int .u64 a, .int .u64 b] w fun e w' => e = .returned (.agg #[.int .u64 (wHi (a * b)), .int .u64 (wLo (a * b))]) ∧ Below w.heap.size w w' := by
  obtain ⟨x0, x1, y0, y1, p, q, r, s, e1, e2, e3, e4, e5, e6, e7, e8, p0, p1, q0, q1, r0, r1, s0, s1, hab⟩ := prod_named ha ha' hb hb'
  rw [hab]
  clear hab
  go_enter Try.func58, Try.ntmps58
  go_wp2_with fail
  clear e1 e2 e3 e4
  refine wp_loop_rounds 3 ?_
  rw [rounds_succ]; go_wp2_with fail
  refine wp_loop_rounds 3 ?_
  rw [rounds_succ]; go_wp2_with fail
  go_quiet (fail)
  go_wp2_with fail
  rw [rounds_succ]; go_wp2_with fail
  go_quiet (fail)
  go_wp2_with fail
  rw [rounds_succ]; go_wp2_with fail
  rw [rounds_succ]; go_wp2_with fail
  refine wp_loop_rounds 3 ?_
  rw [rounds_succ]; go_wp2_with fail
  go_quiet (fail)
  go_wp2_with fail
  rw [rounds_succ]; go_wp2_with fail
  go_quiet (fail)
  go_wp2_with fail
  rw [rounds_succ]; go_wp2_with fail
  rw [rounds_succ]
  refine forget (fun W => W.cell? ⟨w.heap.size + 1, 0, none⟩ = some (.int .u64 (p % 4294967296)) ∧ W.cell? ⟨w.heap.size + 1, 1, none⟩ = some (.int .u64 ((r + (q + p / 4294967296)) % 4294967296)) ∧
      W.cell? ⟨w.heap.size + 1, 2, none⟩ = some (.int .u64 ((s + (q + p / 4294967296) / 4294967296 + (r + (q + p / 4294967296) % 4294967296) / 4294967296) % 4294967296)) ∧
      W.cell? ⟨w.heap.size + 1, 3, none⟩ = some (.int .u64 ((s + (q + p / 4294967296) / 4294967296 + (r + (q + p / 4294967296) % 4294967296) / 4294967296) / 4294967296)) ∧
      W.cell? ⟨w.heap.size, 0, none⟩ = some (.int .u64 0) ∧ W.cell? ⟨w.heap.size, 1, none⟩ = some (.int .u64 0) ∧ W.frozen? ⟨w.heap.size, 0, none⟩ = false ∧ W.frozen? ⟨w.heap.size, 1, none⟩ = false ∧ w.heap.size + 1 < W.heap.size ∧ Below w.heap.size w W) ⟨?_, ?_, ?_, ?_, ?_, ?_, ?_, ?_, ?_, ?_⟩ ?_
  · simp (maxDischargeDepth := 9) [go_sem]
  · simp (maxDischargeDepth := 9) [go_sem]
  · simp (maxDischargeDepth := 9) [go_sem]
  · simp (maxDischargeDepth := 9) [go_sem]
  · simp (maxDischargeDepth := 9) [go_sem]
  · simp (maxDischargeDepth := 9) [go_sem]
  · simp (maxDischargeDepth := 9) [go_sem]
  · simp (maxDischargeDepth := 9) [go_sem]
  · simp (maxDischargeDepth := 9) [go_sem]
  · repeat' (first | (with_reducible exact Below.refl _ _) | (with_reducible assumption) | (with_reducible refine Below.alloc ?_ ?_ _) | (with_reducible refine below_drewN ?_ _) | (with_reducible refine Below.drew ?_) | (with_reducible refine Below.setCell ?_ ?_ _) | go_size | omega | (simp; omega))
  · rintro W ⟨c0, c1, c2, c3, k0, k1, f0, f1, hz, hB⟩
    clear e5 e6 e7 e8
    have hz0 : w.heap.size < W.heap.size := by omega
    go_wp2_with (go_at_call 62; refine (ref2_whole _ _ _ _ (by omega) (by omega) (by omega) (by omega) (by omega) (by omega) (by omega) (by omega) _).mono ?_; rintro e w1 ⟨rfl, rfl⟩)
    refine bodyPost_ret (by simp [results, Try.results58, go_sem, hz0, k0, k1]; try rfl) rfl ?_
    refine ⟨ret_w (mul_fin_hi p0 p1 q0 q1 r0 r1 s0 s1) (mul_fin_lo p0 p1 q0 q1 r0 r1 s0 s1), ?_⟩
    repeat' (first | (with_reducible exact Below.refl _ _) | (with_reducible assumption) | (with_reducible refine Below.alloc ?_ ?_ _) | (with_reducible refine below_drewN ?_ _) | (with_reducible refine Below.drew ?_) | (with_reducible refine Below.setCell ?_ ?_ _) | go_size | omega | (simp; omega))
end Go.Proofs.Ytlhjacgocggbcaa
