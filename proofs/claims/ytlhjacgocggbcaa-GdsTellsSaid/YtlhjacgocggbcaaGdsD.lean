/- The walks of the document's Weight, and of an object's weight, both; has, may. -/
import Derived.Test.YtlhjacgocggbcaaGdsC
import Derived.Test.YtlhjacgocggbcaaKRow
import Derived.Test.YtlhjacgocggbcaaQTail
import Derived.Deep.LoopGhost
set_option linter.unusedVariables false
set_option maxRecDepth 100000
set_option maxHeartbeats 400000
namespace Go.Proofs.Ytlhjacgocggbcaa
open Go.RowKit Go.Shelf
attribute [local go_sem ↓] lt_alloc

theorem ref18_Weight (k c s f : Int) (c0 : 0 ≤ c) (c1 : c < 18446744073709551616) (s0 : 0 ≤ s) (s1 : s < 18446744073709551616) (f0 : 0 ≤ f) (f1 : f < 18446744073709551616) (w : World) :
    Calls Try.prog 16 #[.int .i64 k, .int .u64 c, .int .u64 s, .int .u64 f] w fun e w' => e = .returned (.int .u64 (weightS k c s f)) ∧ Below w.heap.size w w' := by
  have kt := fun w => ref_Times c f c0 f0 w
  obtain ⟨v0, v1⟩ := timesV_bd c f c0 f0
  have kf := fun w => ref3_Floor c 1048576 s c0 c1 (by decide) (by decide) s0 s1 w
  have kg := fun w => ref3_Floor (timesV c f) 1048576 s v0 v1 (by decide) (by decide) s0 s1 w
  by_cases h0 : (k ≠ 1 ∧ k ≠ 2) ∨ s = 0
  · have e : weightS k c s f = 0 := by unfold weightS; rw [if_pos h0]
    rw [e]
    clear kt kf kg
    by_cases h1 : k = 1
    · obtain rfl : s = 0 := by omega
      subst h1
      go_enter Try.func16, Try.ntmps16
      go_wp2_with fail
      go_ret
      exact ⟨rfl, Below.refl _ _⟩
    · by_cases h2 : k = 2
      · obtain rfl : s = 0 := by omega
        subst h2
        go_enter Try.func16, Try.ntmps16
        go_wp2_with fail
        go_ret
        exact ⟨rfl, Below.refl _ _⟩
      · have h1'' : (k != 1) = true := by simpa using h1
        have h2'' : (k != 2) = true := by simpa using h2
        clear h1 h2 h0 e
        go_enter Try.func16, Try.ntmps16
        go_wp2_with fail
        go_ret
        exact ⟨rfl, Below.refl _ _⟩
  · have hs : ¬ s = 0 := fun h => h0 (Or.inr h)
    have hs' : (s == 0) = false := by simpa using hs
    by_cases h2 : k = 2
    · have e : weightS k c s f = if timesE c f = 0 then floS (timesV c f) s else 18446744073709551615 := by unfold weightS; rw [if_neg h0, if_pos h2]
      rw [e]
      subst h2
      unfold floS
      clear e kf h0
      generalize timesV c f = v at *
      generalize partV (v * 1048576 / s) s = q at *
      generalize partE (v * 1048576 / s) s = qe at *
      by_cases ht : timesE c f = 0
      · rw [if_pos ht]
        rw [ht] at kt
        by_cases hq : qe = 0
        · rw [if_pos hq]
          subst hq
          go_enter Try.func16, Try.ntmps16
          go_wp2_with fail
          refine (kt _).mono ?_
          rintro e _ ⟨rfl, rfl⟩
          go_wp2_with fail
          refine (kg _).mono ?_
          rintro r w1 ⟨rfl, hb1⟩
          have hB1 : Below w.heap.size w w1 := by repeat' (first | (with_reducible exact Below.refl _ _) | (with_reducible assumption) | (with_reducible refine Below.trans ?_ (Below.mono hb1 ?_)) | (with_reducible refine Below.alloc ?_ ?_ _) | (with_reducible refine below_drewN ?_ _) | (with_reducible refine Below.drew ?_) | (with_reducible refine Below.setCell ?_ ?_ _) | go_size | omega | (simp; omega))
          have hS1 := hB1.size
          clear hb1
          go_wp2_with fail
          go_ret
          exact ⟨rfl, hB1⟩
        · rw [if_neg hq]
          have hq' : (qe != 0) = true := by simpa using hq
          clear hq
          go_enter Try.func16, Try.ntmps16
          go_wp2_with fail
          refine (kt _).mono ?_
          rintro e _ ⟨rfl, rfl⟩
          go_wp2_with fail
          refine (kg _).mono ?_
          rintro r w1 ⟨rfl, hb1⟩
          have hB1 : Below w.heap.size w w1 := by repeat' (first | (with_reducible exact Below.refl _ _) | (with_reducible assumption) | (with_reducible refine Below.trans ?_ (Below.mono hb1 ?_)) | (with_reducible refine Below.alloc ?_ ?_ _) | (with_reducible refine below_drewN ?_ _) | (with_reducible refine Below.drew ?_) | (with_reducible refine Below.setCell ?_ ?_ _) | go_size | omega | (simp; omega))
          have hS1 := hB1.size
          clear hb1
          go_wp2_with fail
          go_ret
          exact ⟨rfl, hB1⟩
      · rw [if_neg ht]
        have ht' : (timesE c f != 0) = true := by simpa using ht
        clear ht
        generalize timesE c f = te at *
        go_enter Try.func16, Try.ntmps16
        go_wp2_with fail
        refine (kt _).mono ?_
        rintro e _ ⟨rfl, rfl⟩
        go_wp2_with fail
        refine (kg _).mono ?_
        rintro r w1 ⟨rfl, hb1⟩
        have hB1 : Below w.heap.size w w1 := by repeat' (first | (with_reducible exact Below.refl _ _) | (with_reducible assumption) | (with_reducible refine Below.trans ?_ (Below.mono hb1 ?_)) | (with_reducible refine Below.alloc ?_ ?_ _) | (with_reducible refine below_drewN ?_ _) | (with_reducible refine Below.drew ?_) | (with_reducible refine Below.setCell ?_ ?_ _) | go_size | omega | (simp; omega))
        have hS1 := hB1.size
        clear hb1
        go_wp2_with fail
        go_ret
        exact ⟨rfl, hB1⟩
    · obtain rfl : k = 1 := by
        refine Classical.byContradiction fun h => h0 (Or.inl ⟨h, h2⟩)
      have e : weightS 1 c s f = floS c s := by unfold weightS; rw [if_neg h0, if_neg h2]
      rw [e]
      unfold floS
      clear e kg kt h0 h2 v0 v1
      generalize partV (c * 1048576 / s) s = q at *
      generalize partE (c * 1048576 / s) s = qe at *
      by_cases hq : qe = 0
      · rw [if_pos hq]
        subst hq
        go_enter Try.func16, Try.ntmps16
        go_wp2_with fail
        refine (kf _).mono ?_
        rintro r w1 ⟨rfl, hb1⟩
        have hB1 : Below w.heap.size w w1 := by repeat' (first | (with_reducible exact Below.refl _ _) | (with_reducible assumption) | (with_reducible refine Below.trans ?_ (Below.mono hb1 ?_)) | (with_reducible refine Below.alloc ?_ ?_ _) | (with_reducible refine below_drewN ?_ _) | (with_reducible refine Below.drew ?_) | (with_reducible refine Below.setCell ?_ ?_ _) | go_size | omega | (simp; omega))
        have hS1 := hB1.size
        clear hb1
        go_wp2_with fail
        go_ret
        exact ⟨rfl, hB1⟩
      · rw [if_neg hq]
        have hq' : (qe != 0) = true := by simpa using hq
        clear hq
        go_enter Try.func16, Try.ntmps16
        go_wp2_with fail
        refine (kf _).mono ?_
        rintro r w1 ⟨rfl, hb1⟩
        have hB1 : Below w.heap.size w w1 := by repeat' (first | (with_reducible exact Below.refl _ _) | (with_reducible assumption) | (with_reducible refine Below.trans ?_ (Below.mono hb1 ?_)) | (with_reducible refine Below.alloc ?_ ?_ _) | (with_reducible refine below_drewN ?_ _) | (with_reducible refine Below.drew ?_) | (with_reducible refine Below.setCell ?_ ?_ _) | go_size | omega | (simp; omega))
        have hS1 := hB1.size
        clear hb1
        go_wp2_with fail
        go_ret
        exact ⟨rfl, hB1⟩
theorem stayU {P : Program} {f : FuncId} {args : Array Value} {W : World} {x : Under W} {v : Value} (h : Calls P f args x.w fun e w' => e = .returned v ∧ x.w = w') :
    Calls P f args x.w fun e w'' => e = .returned v ∧ ∃ m : Under W, w'' = m.w :=
  h.mono fun _ w' ⟨he, hb⟩ => ⟨he, x, hb.symm⟩
theorem IsK.row {k : IntKind} {w : World} {a : Option Addr} {len i : Nat} {Z : Nat → Int} (h : IsK k w a len Z) (hi : i < len) : ∃ b off, a = some ⟨b, off, none⟩ ∧ len ≤ 9223372036854775807 ∧ w.cell? ⟨b, off + i, none⟩ = some (.int k (Z i)) := by
  rcases h with h | ⟨b, off, h1, h2, h3⟩
  · omega
  · exact ⟨b, off, h1, h2, h3 i hi⟩
theorem gds_weight {sa ca : Option Addr} {n nc cs cc i : Nat} {Z C : Nat → Int} (hZ : InK .i64 Z) (hC : InK .i64 C) (hi : i < n) (hic : i < nc) (w : World) (iZ : IsK .i64 w sa n Z) (iC : IsK .i64 w ca nc C) :
    Calls Try.prog 28 #[.agg #[.slice sa n cs, .slice ca nc cc], .int .i64 i] w fun e w' => e = .returned (.int .u64 (wgtO Z C i)) ∧ Below w.heap.size w w' := by
  obtain ⟨b1, o1, rfl, l1, q1⟩ := iZ.row hi
  obtain ⟨b2, o2, rfl, l2, q2⟩ := iC.row hic
  obtain ⟨z0, z1⟩ := hZ.i64 i
  obtain ⟨c0, c1⟩ := hC.i64 i
  have k1 := fun w => word_Of (Z i) z0 z1 w
  have k2 := fun w => word_Of (C i) c0 c1 w
  obtain ⟨oz0, oz1⟩ := ofS_bd (Z i) z1
  obtain ⟨oc0, oc1⟩ := ofS_bd (C i) c1
  have k3 := fun w => gds_Weight 1 (ofS (C i)) (ofS (Z i)) 1 oc0 oc1 oz0 oz1 (by decide) (by decide) w
  have e : wgtO Z C i = weightS 1 (ofS (C i)) (ofS (Z i)) 1 := rfl
  rw [e]
  have hin : (i : Int) < n := by omega
  have hinc : (i : Int) < nc := by omega
  have hi0 : ¬ (i : Int) < 0 := by omega
  clear e iZ iC hZ hC
  generalize weightS 1 (ofS (C i)) (ofS (Z i)) 1 = v at *
  generalize ofS (C i) = x at *
  generalize ofS (Z i) = y at *
  generalize Z i = z at *
  generalize C i = c at *
  go_enter Try.func28, Try.ntmps28
  go_wp2_with fail
  refine forget (fun W => W.cell? ⟨w.heap.size, 0, none⟩ = some (.slice (some ⟨b1, o1, none⟩) n cs) ∧ W.cell? ⟨w.heap.size, 1, none⟩ = some (.slice (some ⟨b2, o2, none⟩) nc cc) ∧ W.cell? ⟨b1, o1 + i, none⟩ = some (.int .i64 z) ∧ W.cell? ⟨b2, o2 + i, none⟩ = some (.int .i64 c) ∧ Below w.heap.size w W) ⟨?_, ?_, ?_, ?_, ?_⟩ ?_
  · repeat (first | (with_reducible assumption) | (simp (maxDischargeDepth := 9) [go_sem]; done) | refine keepA _ ?_ | refine keepD _ ?_)
  · repeat (first | (with_reducible assumption) | (simp (maxDischargeDepth := 9) [go_sem]; done) | refine keepA _ ?_ | refine keepD _ ?_)
  · repeat (first | (with_reducible assumption) | (simp (maxDischargeDepth := 9) [go_sem]; done) | refine keepA _ ?_ | refine keepD _ ?_)
  · repeat (first | (with_reducible assumption) | (simp (maxDischargeDepth := 9) [go_sem]; done) | refine keepA _ ?_ | refine keepD _ ?_)
  · repeat' (first | (with_reducible exact Below.refl _ _) | (with_reducible assumption) | (with_reducible refine Below.alloc ?_ ?_ _) | (with_reducible refine below_drewN ?_ _) | (with_reducible refine Below.drew ?_) | (with_reducible refine Below.setCell ?_ ?_ _) | go_size | omega | (simp; omega))
  rintro W ⟨r1, r2, r3, r4, hB⟩
  have p1 := Under.cell r1; have p2 := Under.cell r2; have p3 := Under.cell r3; have p4 := Under.cell r4
  clear r1 r2 r3 r4 q1 q2
  (refine region_under (by kernel_rfl) (by kernel_rfl) ?_; (repeat (first | go_big_quiet_step ((first | (go_at_call 27; first | (with_reducible exact stayU (k1 _)) | (with_reducible exact stayU (k2 _))) | (go_at_call 15; exact quietU (k3 _)))) | quiet_step ((first | (go_at_call 27; first | (with_reducible exact stayU (k1 _)) | (with_reducible exact stayU (k2 _))) | (go_at_call 15; exact quietU (k3 _)))))); refine wpQuiet_nil ?_; intro _ hw'; obtain ⟨x, hw''⟩ := hw'; subst hw''; go_wp2_with fail)
  go_ret
  exact ⟨rfl, hB.trans (x.2.mono hB.size)⟩
end Go.Proofs.Ytlhjacgocggbcaa
