/- The walk of serve, of one that is too big. -/
import Derived.Test.YtlhjacgocggbcaaGdsH
set_option linter.unusedVariables false
set_option maxRecDepth 100000
set_option maxHeartbeats 2000000
namespace Go.Proofs.Ytlhjacgocggbcaa
open Go.RowKit Go.Shelf
attribute [local go_sem ↓] lt_alloc

theorem gds_serve_big (g : Nat) {sa ca : Option Addr} {n cs cc i : Nat} {Z : Nat → Int} {most : Int} {s : Gd} (hi : i < n) (hn : n ≤ 64) (hin : s.inn i = false) (hbig : most < Z i) (w : World)
    (iZ : IsK .i64 w sa n Z) (hc : CourseAt w g (.slice sa n cs) (.slice ca n cc) most s) :
    Calls Try.prog 22 #[.pointer (some ⟨g, 0, none⟩), .int .i64 i] w fun e w' => e = .returned (.agg #[.bool false, .slice none 0 0]) ∧ CourseAt w' g (.slice sa n cs) (.slice ca n cc) most s ∧ Only g w w' := by
  have hg : g < w.heap.size := block_lt_of_cell (a := ⟨g, 0, none⟩) (hc.cell (i := 0) (by decide))
  obtain ⟨sb, so, rfl, _, hzi⟩ := iZ.row hi
  have hs0 := serve_start (i := i) g hc hg
  have hi64 : (i : Int) < 64 := by omega
  have hbig' : decide (most < Z i) = true := decide_eq_true hbig
  have mf := hmf
  have HS0 := Lib.hid hs0
  clear hs0 iZ
  generalize Z i = z at *
  go_enter Try.func22, Try.ntmps22
  go_wp2_with fail
  refine forget (fun W => SW w g i (.slice (some ⟨sb, so, none⟩) n cs) (.slice ca n cc) most s W ∧ Below w.heap.size w W) ?_ ?_
  · exact ⟨HS0.out, (((Below.refl _ _).alloc (Nat.le_refl _) _).alloc (by simp) _).alloc (by simp; omega) _⟩
  rintro W ⟨hW, hB⟩
  clear HS0
  have p2 := Under.cell hW.c2
  have p3 := Under.cell hW.c3
  have pin := Under.cell (hW.co.inn (i := i) (by omega))
  rw [hin] at pin
  have HW := Lib.hid hW
  clear hW
  go_step3
  go_wp2_with fail
  (refine region_under (by kernel_rfl) (by kernel_rfl) ?_; (repeat (first | go_big_quiet_step ((fail)) | quiet_step ((fail)))); refine wpQuiet_nil ?_; intro _ hw'; obtain ⟨x, hw''⟩ := hw'; subst hw''; go_wp2_with fail)
  refine forget (fun V => SW w g i (.slice (some ⟨sb, so, none⟩) n cs) (.slice ca n cc) most s V ∧ Below w.heap.size w V) ?_ ?_
  · exact ⟨HW.out.below x.2, hB.trans (x.2.mono hB.size)⟩
  clear HW p2 p3 pin hB x W
  rintro W ⟨hW, hB⟩
  have p2 := Under.cell hW.c2
  have p3 := Under.cell hW.c3
  have q0 : W.cell? ⟨g, 0, none⟩ = some (.slice (some ⟨sb, so, none⟩) n cs) := hW.co.cell (i := 0) (by decide)
  have q2 : W.cell? ⟨g, 2, none⟩ = some (.int .i64 most) := hW.co.cell (i := 2) (by decide)
  have p4 := Under.cell q0
  have p5 := Under.cell q2
  have p6 := Under.cell (keepB hB hzi)
  have g5 : ∀ x : Under W, x.w.heap[w.heap.size + 1 + 1]? = some (.cells #[.bool false, .slice none 0 0] 40 (0, 0)) := fun x => (hW.below x.2).c4
  have d0 : ∀ x : Under W, x.w.cell? ⟨w.heap.size + 1 + 1, 0, none⟩ = some (.bool false) := fun x => cell_of_row x.w _ 0 _ _ _ (g5 x)
  have d1 : ∀ x : Under W, x.w.cell? ⟨w.heap.size + 1 + 1, 1, none⟩ = some (.slice none 0 0) := fun x => cell_of_row x.w _ 1 _ _ _ (g5 x)
  have f0 : ∀ x : Under W, x.w.frozen? ⟨w.heap.size + 1 + 1, 0, none⟩ = false := fun x => frozen_of_row x.w _ _ _ _ (g5 x)
  have f1 : ∀ x : Under W, x.w.frozen? ⟨w.heap.size + 1 + 1, 1, none⟩ = false := fun x => frozen_of_row x.w _ _ _ _ (g5 x)
  have HW := Lib.hid hW
  clear hW g5
  (refine region_under (by kernel_rfl) (by kernel_rfl) ?_; (repeat (first | go_big_quiet_step ((fail)) | quiet_step ((fail)))); refine wpQuiet_nil ?_; intro _ hw'; obtain ⟨x, hw''⟩ := hw'; subst hw''; go_wp2_with fail)
  have hx := HW.out.below x.2
  have hg5 : x.w.heap[w.heap.size + 1 + 1]? = some (.cells #[.bool false, .slice none 0 0] 40 (0, 0)) := hx.c4
  have hOn := hx.on
  have HC1 := Lib.hid hx.co
  clear hx p2 p3 p4 p5 p6
  have r1 := heap_setCell_same x.w (w.heap.size + 1 + 1) 0 _ _ (.bool false) hg5
  have r2 := heap_setCell_same _ (w.heap.size + 1 + 1) 1 _ _ (.slice none 0 0) r1
  have hr : ∀ (tmps : Array Value) (w : World) (g : Nat) (cs : Array Value), tmps.getD 4 undef = .pointer (some ⟨g, 0, none⟩) → w.heap[g]? = some (.cells cs 40 (0, 0)) → cs.size = 2 → (results Try.f22 tmps).run Try.prog w = .ok (.agg cs) w := fun _ _ _ _ => ret_serve (by kernel_rfl)
  rw [Exit.noGoto_ret]
  go_at_K
  refine bodyPost_ret (hr _ _ (w.heap.size + 1 + 1) #[.bool false, .slice none 0 0] rfl r2 rfl) rfl ?_
  have hn2 : w.heap.size + 1 + 1 ≠ g := by omega
  refine ⟨rfl, ?_, ?_⟩
  · have hc := HC1.out
    unfold CourseAt at *
    rw [heap_setCell_other _ ⟨w.heap.size + 1 + 1, 1, none⟩ g _ (fun h => hn2 h.symm), heap_setCell_other _ ⟨w.heap.size + 1 + 1, 0, none⟩ g _ (fun h => hn2 h.symm)]
    exact hc
  · exact hOn.thenB (((Below.refl _ _).setCell (by show _ ≤ w.heap.size + 1 + 1; omega) _).setCell (by show _ ≤ w.heap.size + 1 + 1; omega) _)
end Go.Proofs.Ytlhjacgocggbcaa
