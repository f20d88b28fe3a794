/- The walk of FixedSums. -/
import Derived.Test.YtgmgjbdbdekopaaFixedA
import Derived.Test.YtgmgjbdbdekopaaFixedP
set_option linter.unusedVariables false
namespace Go.Proofs.Ytgmgjbdbdekopaa
open Go.RowKit Go.Shelf
attribute [local go_sem ↓] lt_alloc
def two (a b : Int) (i : Nat) : Int := if i = 0 then a else b
theorem sumF_two {a b : Int} (a0 : 0 ≤ a) (a1 : a < 18446744073709551616) : sumF (two a b) 2 = addS a b := by
  show addS (addS 0 a) b = addS a b
  rw [show addS 0 a = a from by unfold addS; rw [if_pos (by omega)]; omega]
theorem addS_up {a b : Int} (a1 : a < 18446744073709551616) (b0 : 0 ≤ b) : a ≤ addS a b := by unfold addS; split <;> omega
set_option maxRecDepth 100000 in
set_option maxHeartbeats 1000000 in
theorem sums4_walk {s t : Option Addr} {n m c d : Nat} {Z Y : Nat → Int} (hn : n ≤ 100) (hm : m ≤ 100) (hZ : ∀ i, 0 ≤ Z i ∧ Z i < 18446744073709551616) (hY : ∀ i, 0 ≤ Y i ∧ Y i < 18446744073709551616) (w : World) (hs : IsInts w s n Z) (ht : IsInts w t m Y) :
    Calls Try.prog 8 #[.slice s n c, .slice t m d] w fun r w' => r = .returned (.bool true) ∧ Below w.heap.size w w' := by
  obtain ⟨i0, hi, hz0, hz1, hz2⟩ := info_parts u64_info
  have HS := Lib.hid hs
  have HT := Lib.hid ht
  have HI := Lib.hid hi
  have hZ0 : ∀ i, 0 ≤ Z i := fun i => (hZ i).1
  have hY0 : ∀ i, 0 ≤ Y i := fun i => (hY i).1
  have hn' : ¬ 100 < n := by omega
  have hm' : ¬ 100 < m := by omega
  obtain ⟨A0, A1⟩ := sumF_bd hZ0 n
  obtain ⟨B0, B1⟩ := sumF_bd hY0 m
  have kb := fun (g : Option Addr) (c : Nat) (w : World) (h : IsInts w g (n + m) (catI Z n Y)) => fixed_Sum (cap := c) (catI_0 hZ0 hY0 n) w h
  have kt := fun (g : Option Addr) (c : Nat) (w : World) (h : IsInts w g (m + n) (catI Y m Z)) => fixed_Sum (cap := c) (catI_0 hY0 hZ0 m) w h
  have kZ := fun (w : World) (h : IsInts w s n Z) => fixed_Sum (cap := c) hZ0 w h
  have kY := fun (w : World) (h : IsInts w t m Y) => fixed_Sum (cap := d) hY0 w h
  have k2 := fun (g : Option Addr) (c : Nat) (w : World) (h : IsInts w g 2 (two (sumF Z n) (sumF Y m))) => fixed_Sum (cap := c) (by intro i; unfold two; split <;> assumption) w h
  rw [sumF_cat hZ0 hY0] at kb
  rw [sumF_cat hY0 hZ0, addS_comm] at kt
  rw [sumF_two A0 A1] at k2
  have hAC := addS_up A1 B0
  obtain ⟨C0, C1⟩ := addS_bd _ _ A0 B0
  generalize addS (sumF Z n) (sumF Y m) = C at *
  generalize sumF Z n = A at *
  generalize sumF Y m = B at *
  clear hs ht hi
  go_enter Try.func8, Try.ntmps8
  go_wp2_with fail
  refine (awake4_any _).mono ?_
  rintro r w1 ⟨rfl, hb1⟩
  have hB1 : Below w.heap.size w w1 := by repeat' (first | (with_reducible exact Below.refl _ _) | (with_reducible assumption) | (with_reducible refine Below.trans ?_ (Below.mono hb1 ?_)) | (with_reducible refine Below.alloc ?_ ?_ _) | (with_reducible refine below_drewN ?_ _) | (with_reducible refine Below.drew ?_) | (with_reducible refine Below.setCell ?_ ?_ _) | go_size | omega | (simp; omega))
  have hS1 := hB1.size
  clear hb1
  go_wp2_with (at_builtin; refine wpList_append_ints _ rfl (.tmp 18) (.tmp 19) 23 rfl w.heap.size 22 i0 Try.underlying23 HI.out hz0 hz1 hz2 _ 0 (rowZ (fun _ => 0) 0) rfl (made0 _ hB1) s n c Z rfl ((HS.out.below hB1).below (Below.alloc (Below.refl _ _) (Nat.le_refl _) _)) (by unfold maxLen; omega) (by omega) (by simp; omega) ?_)
  intro v2 w2 ho2 hg2
  replace ho2 : w2.ownsRow w.heap.size 22 1 v2 n (rowZ Z n) := by simpa [rowZ] using ho2
  have hB2 : Below w.heap.size w w2 := (hB1.alloc hB1.size _).grown hg2 (by simp; omega) (fun k hk => by cases hk; exact hS1)
  clear hg2
  have hS2 := hB2.size
  go_wp2_with (at_builtin; refine wpList_append_ints _ rfl (.tmp 20) (.tmp 21) 23 rfl w.heap.size 22 i0 Try.underlying23 HI.out hz0 hz1 hz2 v2 n (rowZ Z n) rfl ho2 t m d Y rfl (HT.out.below hB2) (by unfold maxLen; omega) (by omega) hS2 ?_)
  intro v3 w3 ho3 hg3
  rw [rowZ_cat] at ho3
  have hB3 : Below w.heap.size w w3 := hB2.grown hg3 hS2 (fun k hk => (ho2.lt k hk).1)
  clear hg3 ho2
  have hS3 := hB3.size
  obtain ⟨g3, c3, rfl, hI3⟩ := isInts_own ho3
  clear ho3
  go_wp2_with (at_builtin; refine wpList_append_ints _ rfl (.tmp 23) (.tmp 24) 23 rfl w3.heap.size 22 i0 Try.underlying23 HI.out hz0 hz1 hz2 _ 0 (rowZ (fun _ => 0) 0) rfl (made0 _ (Below.refl _ _)) t m d Y rfl ((HT.out.below hB3).below (Below.alloc (Below.refl _ _) (Nat.le_refl _) _)) (by unfold maxLen; omega) (by omega) (by simp) ?_)
  intro v4 w4 ho4 hg4
  replace ho4 : w4.ownsRow w3.heap.size 22 1 v4 m (rowZ Y m) := by simpa [rowZ] using ho4
  have hC4 : Below w3.heap.size w3 w4 := ((Below.refl _ _).alloc (Nat.le_refl _) _).grown hg4 (by simp) (fun k hk => by cases hk; exact Nat.le_refl _)
  clear hg4
  have hB4 := hB3.trans (hC4.mono hS3)
  go_wp2_with (at_builtin; refine wpList_append_ints _ rfl (.tmp 25) (.tmp 26) 23 rfl w3.heap.size 22 i0 Try.underlying23 HI.out hz0 hz1 hz2 v4 m (rowZ Y m) rfl ho4 s n c Z rfl (HS.out.below hB4) (by unfold maxLen; omega) (by omega) hC4.size ?_)
  intro v5 w5 ho5 hg5
  rw [rowZ_cat] at ho5
  have hC5 : Below w3.heap.size w3 w5 := hC4.grown hg5 hC4.size (fun k hk => (ho4.lt k hk).1)
  have hB5 := hB3.trans (hC5.mono hS3)
  have hS5 := hB5.size
  have hI5 := hI3.below hC5
  obtain ⟨g5, c5, rfl, hJ5⟩ := isInts_own ho5
  clear ho5 ho4 hg5 hC4 hC5 hI3
  have hS4 := hB4.size
  replace hI5 := Lib.hid hI5
  replace hJ5 := Lib.hid hJ5
  go_wp2_with fail
  refine (kb _ _ _ hI5.out).mono ?_
  rintro r _ ⟨rfl, rfl⟩
  go_wp2_with fail
  refine (kt _ _ _ hJ5.out).mono ?_
  rintro r _ ⟨rfl, rfl⟩
  go_wp2_with fail
  refine (kb _ _ _ hI5.out).mono ?_
  rintro r _ ⟨rfl, rfl⟩
  go_wp2_with fail
  refine (kZ _ (HS.out.below hB5)).mono ?_
  rintro r _ ⟨rfl, rfl⟩
  go_wp2_with fail
  refine (kY _ (HT.out.below hB5)).mono ?_
  rintro r _ ⟨rfl, rfl⟩
  go_wp2_with fail
  refine (k2 _ _ _ (Or.inr ⟨w5.heap.size, 0, rfl, by decide, by intro i hi; rcases i with _ | _ | i <;> first | omega | (simp [two, go_sem]; done)⟩)).mono ?_
  rintro r _ ⟨rfl, rfl⟩
  have hB6 : ∀ o, Below w5.heap.size w5 (w5.alloc o) := fun o => Below.alloc (Below.refl _ _) (Nat.le_refl _) o
  go_wp2_with fail
  refine (kb _ _ _ (hI5.out.below (hB6 _))).mono ?_
  rintro r _ ⟨rfl, rfl⟩
  go_wp2_with fail
  refine (kZ _ ((HS.out.below hB5).below (hB6 _))).mono ?_
  rintro r _ ⟨rfl, rfl⟩
  go_wp2_with fail
  go_ret
  exact ⟨rfl, hB5.alloc hS5 _⟩
theorem sums4_law {s t : Option Addr} {n m c d : Nat} {Z Y : Nat → Int} (w : World) (hZ : ∀ i, 0 ≤ Z i ∧ Z i < 18446744073709551616) (hs : IsInts w s n Z) (hY : ∀ i, 0 ≤ Y i ∧ Y i < 18446744073709551616) (ht : IsInts w t m Y) :
    Calls Try.prog 8 #[.slice s n c, .slice t m d] w fun r w' => r = .returned (.bool true) ∧ Below w.heap.size w w' := by
  by_cases h : n ≤ 100 ∧ m ≤ 100
  · exact sums4_walk h.1 h.2 hZ hY w hs ht
  · exact sums4_out h w
end Go.Proofs.Ytgmgjbdbdekopaa
