/- The walks of gds.Weight, and the document's. -/
import Derived.Test.YtlhjacgocggbcaaGdsS
import Derived.Test.YtlhjacgocggbcaaRatioR
import Derived.Test.YtlhjacgocggbcaaWordR
set_option linter.unusedVariables false
set_option maxRecDepth 100000
set_option maxHeartbeats 400000
namespace Go.Proofs.Ytlhjacgocggbcaa
open Go.RowKit Go.Shelf
attribute [local go_sem ↓] lt_alloc

theorem gds_Weight (k c s f : Int) (c0 : 0 ≤ c) (c1 : c < 18446744073709551616) (s0 : 0 ≤ s) (s1 : s < 18446744073709551616) (f0 : 0 ≤ f) (f1 : f < 18446744073709551616) (w : World) :
    Calls Try.prog 15 #[.int .i64 k, .int .u64 c, .int .u64 s, .int .u64 f] w fun e w' => e = .returned (.int .u64 (weightS k c s f)) ∧ Below w.heap.size w w' := by
  have kt := fun w => word_Times c f c0 c1 f0 f1 w
  obtain ⟨v0, v1⟩ := timesV_bd c f c0 f0
  have kf := fun w => ratio_Floor c 1048576 s c0 c1 (by decide) (by decide) s0 s1 w
  have kg := fun w => ratio_Floor (timesV c f) 1048576 s v0 v1 (by decide) (by decide) s0 s1 w
  by_cases h0 : (k ≠ 1 ∧ k ≠ 2) ∨ s = 0
  · have e : weightS k c s f = 0 := by unfold weightS; rw [if_pos h0]
    rw [e]
    clear kt kf kg
    by_cases h1 : k = 1
    · obtain rfl : s = 0 := by omega
      subst h1
      go_enter Try.func15, Try.ntmps15
      go_wp2_with fail
      go_ret
      exact ⟨rfl, Below.refl _ _⟩
    · by_cases h2 : k = 2
      · obtain rfl : s = 0 := by omega
        subst h2
        go_enter Try.func15, Try.ntmps15
        go_wp2_with fail
        go_ret
        exact ⟨rfl, Below.refl _ _⟩
      · have h1' : (k == 1) = false := by simpa using h1
        have h2' : (k == 2) = false := by simpa using h2
        have h1'' : (k != 1) = true := by simpa using h1
        have h2'' : (k != 2) = true := by simpa using h2
        clear h1 h2 h0 e
        go_enter Try.func15, Try.ntmps15
        go_wp2_with fail
        go_ret
        exact ⟨rfl, Below.refl _ _⟩
  · have hs : ¬ s = 0 := fun h => h0 (Or.inr h)
    have hs' : (s == 0) = false := by simpa using hs
    by_cases h2 : k = 2
    · have e : weightS k c s f = if timesE c f = 0 then floS (timesV c f) s else 18446744073709551615 := by unfold weightS; rw [if_neg h0, if_pos h2]
      rw [e]
      subst h2
      unfold floS
      clear e kf h0
      generalize timesV c f = v at *
      generalize partV (v * 1048576 / s) s = q at *
      generalize partE (v * 1048576 / s) s = qe at *
      by_cases ht : timesE c f = 0
      · rw [if_pos ht]
        rw [ht] at kt
        by_cases hq : qe = 0
        · rw [if_pos hq]
          subst hq
          go_enter Try.func15, Try.ntmps15
          go_wp2_with fail
          refine (kt _).mono ?_
          rintro e _ ⟨rfl, rfl⟩
          go_wp2_with fail
          refine (kg _).mono ?_
          rintro r w1 ⟨rfl, hb1⟩
          have hB1 : Below w.heap.size w w1 := by repeat' (first | (with_reducible exact Below.refl _ _) | (with_reducible assumption) | (with_reducible refine Below.trans ?_ (Below.mono hb1 ?_)) | (with_reducible refine Below.alloc ?_ ?_ _) | (with_reducible refine below_drewN ?_ _) | (with_reducible refine Below.drew ?_) | (with_reducible refine Below.setCell ?_ ?_ _) | go_size | omega | (simp; omega))
          have hS1 := hB1.size
          clear hb1
          go_wp2_with fail
          go_ret
          exact ⟨rfl, hB1⟩
        · rw [if_neg hq]
          have hq' : (qe != 0) = true := by simpa using hq
          clear hq
          go_enter Try.func15, Try.ntmps15
          go_wp2_with fail
          refine (kt _).mono ?_
          rintro e _ ⟨rfl, rfl⟩
          go_wp2_with fail
          refine (kg _).mono ?_
          rintro r w1 ⟨rfl, hb1⟩
          have hB1 : Below w.heap.size w w1 := by repeat' (first | (with_reducible exact Below.refl _ _) | (with_reducible assumption) | (with_reducible refine Below.trans ?_ (Below.mono hb1 ?_)) | (with_reducible refine Below.alloc ?_ ?_ _) | (with_reducible refine below_drewN ?_ _) | (with_reducible refine Below.drew ?_) | (with_reducible refine Below.setCell ?_ ?_ _) | go_size | omega | (simp; omega))
          have hS1 := hB1.size
          clear hb1
          go_wp2_with fail
          go_ret
          exact ⟨rfl, hB1⟩
      · rw [if_neg ht]
        have ht' : (timesE c f != 0) = true := by simpa using ht
        clear ht kg
        generalize timesE c f = te at *
        go_enter Try.func15, Try.ntmps15
        go_wp2_with fail
        refine (kt _).mono ?_
        rintro e _ ⟨rfl, rfl⟩
        go_wp2_with fail
        go_ret
        exact ⟨rfl, Below.refl _ _⟩
    · obtain rfl : k = 1 := by
        refine Classical.byContradiction fun h => h0 (Or.inl ⟨h, h2⟩)
      have e : weightS 1 c s f = floS c s := by unfold weightS; rw [if_neg h0, if_neg h2]
      rw [e]
      unfold floS
      clear e kg kt h0 h2 v0 v1
      generalize partV (c * 1048576 / s) s = q at *
      generalize partE (c * 1048576 / s) s = qe at *
      by_cases hq : qe = 0
      · rw [if_pos hq]
        subst hq
        go_enter Try.func15, Try.ntmps15
        go_wp2_with fail
        refine (kf _).mono ?_
        rintro r w1 ⟨rfl, hb1⟩
        have hB1 : Below w.heap.size w w1 := by repeat' (first | (with_reducible exact Below.refl _ _) | (with_reducible assumption) | (with_reducible refine Below.trans ?_ (Below.mono hb1 ?_)) | (with_reducible refine Below.alloc ?_ ?_ _) | (with_reducible refine below_drewN ?_ _) | (with_reducible refine Below.drew ?_) | (with_reducible refine Below.setCell ?_ ?_ _) | go_size | omega | (simp; omega))
        have hS1 := hB1.size
        clear hb1
        go_wp2_with fail
        go_ret
        exact ⟨rfl, hB1⟩
      · rw [if_neg hq]
        have hq' : (qe != 0) = true := by simpa using hq
        clear hq
        go_enter Try.func15, Try.ntmps15
        go_wp2_with fail
        refine (kf _).mono ?_
        rintro r w1 ⟨rfl, hb1⟩
        have hB1 : Below w.heap.size w w1 := by repeat' (first | (with_reducible exact Below.refl _ _) | (with_reducible assumption) | (with_reducible refine Below.trans ?_ (Below.mono hb1 ?_)) | (with_reducible refine Below.alloc ?_ ?_ _) | (with_reducible refine below_drewN ?_ _) | (with_reducible refine Below.drew ?_) | (with_reducible refine Below.setCell ?_ ?_ _) | go_size | omega | (simp; omega))
        have hS1 := hB1.size
        clear hb1
        go_wp2_with fail
        go_ret
        exact ⟨rfl, hB1⟩
end Go.Proofs.Ytlhjacgocggbcaa
