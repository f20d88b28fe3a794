/- The walks of within, Check, copied. -/
import Derived.Test.YtejipmkbjmcnaaaDoorTuneP
import Derived.Deep.LoopGhost
import Derived.Laws.Cover1
set_option linter.unusedVariables false
set_option maxRecDepth 100000
set_option maxHeartbeats 2000000
namespace Go.Proofs.YtejipmkbjmcnaaaDoor
open Go.RowKit Go.Shelf
attribute [local go_sem ↓] lt_alloc

def inB (low high x : Int) : Bool := decide (low ≤ x) && decide (x ≤ high)
theorem inB_iff {low high x : Int} : inB low high x = true ↔ low ≤ x ∧ x ≤ high := by unfold inB; simp
theorem inB_not {low high x : Int} (h : ¬ (low ≤ x ∧ x ≤ high)) : inB low high x = false := by
  cases hh : inB low high x
  · rfl
  · exact absurd (inB_iff.1 hh) h
theorem tune_within (x low high : Int) (w : World) : Calls Tryd.prog 28 #[.int .i64 x, .int .i64 low, .int .i64 high] w fun e w' => e = .returned (.bool (inB low high x)) ∧ w = w' := by
  have hb : inB low high x = (decide (low ≤ x) && decide (x ≤ high)) := rfl
  by_cases h1 : low ≤ x
  · have e1 : inB low high x = decide (x ≤ high) := by rw [hb, decide_eq_true h1]; rfl
    rw [e1]
    have d1 : decide (low ≤ x) = true := decide_eq_true h1
    clear e1 hb
    go_enter Tryd.func28, Tryd.ntmps28
    go_wp2_with fail
    go_ret
    exact ⟨rfl, rfl⟩
  · have e1 : inB low high x = false := by rw [hb, decide_eq_false h1]; rfl
    rw [e1]
    have d1 : decide (low ≤ x) = false := decide_eq_false h1
    clear e1 hb
    go_enter Tryd.func28, Tryd.ntmps28
    go_wp2_with fail
    go_ret
    exact ⟨rfl, rfl⟩
theorem keepIn {w w' : World} {p : Addr} {v : Value} (hb : Below w.heap.size w w') (h : w.cell? p = some v) : w'.cell? p = some v := keepB hb h
theorem tune_Check {a : Option Addr} {n cap : Nat} {l : List Sn} (hn : l.length = n) (w : World) (iW : IsW w a l) :
    Calls Tryd.prog 12 #[.slice a n cap] w fun e w' => e = .returned (.bool (decide (mayW l))) ∧ Below w.heap.size w w' := by
  obtain ⟨b, hb⟩ : ∃ b, decide (mayW l) = b := ⟨_, rfl⟩
  rw [hb]
  have HB := Lib.hid hb
  have IW := Lib.hid iW
  have HN := Lib.hid hn
  clear hb iW hn
  by_cases hl : n ≤ 1000
  · have d0 : decide ((1000 : Int) < n) = false := decide_eq_false (by omega)
    go_enter Tryd.func12, Tryd.ntmps12
    go_wp2_with fail
    go_loopw [10] (fun iv wr => ∃ i : Nat, i ≤ n ∧ iv = .int .i64 i ∧ Hid (∀ j, j < i → okAt l j) ∧ Below w.heap.size w wr) (fun iv _ => n - (intOf iv).toNat)
    case atStart => exact ⟨0, Nat.zero_le _, rfl, Lib.hid (fun j hj => absurd hj (Nat.not_lt_zero j)), Below.refl _ _⟩
    case round =>
      obtain ⟨i, hi, rfl, hall, hB⟩ := hrel
      by_cases hlt : i < n
      · obtain ⟨ab, ao, rfl, _, q0, q1, q2⟩ := (IW.out.below hB).row (i := i) (by rw [HN.out]; exact hlt)
        have bad : ¬ okAt l i → b = false := fun h => HB.out.symm.trans (decide_eq_false fun hm => h (hm.2 i (by rw [HN.out]; exact hlt)))
        have BAD := Lib.hid bad
        have good : okAt l i → ∀ j, j < i + 1 → okAt l j := fun h j hj => by
          rcases Nat.lt_succ_iff_lt_or_eq.1 hj with h1 | rfl
          · exact hall.out j h1
          · exact h
        have GOOD := Lib.hid good
        clear bad good
        clear hall
        generalize hk : (wAt l i).key = k at *
        generalize hz : (wAt l i).size = z at *
        generalize hm : (wAt l i).n = m at *
        have HK := Lib.hid hk
        have HZ := Lib.hid hz
        have HM := Lib.hid hm
        clear hk hz hm
        rcases Nat.eq_zero_or_pos i with h0 | h0
        · have d1 : decide (0 < i) = false := decide_eq_false (by omega)
          have ORD := Lib.hid (fun h : 0 < i => show ltB (wAt l (i - 1)).key (wAt l i).key = true from by omega)
          have H0 := Lib.hid h0
          clear h0
          go_wp2_with fail
          refine forget (fun W => W.cell? ⟨wr.heap.size, 0, none⟩ = some (.string k) ∧ W.cell? ⟨wr.heap.size, 1, none⟩ = some (.int .i64 z) ∧ W.cell? ⟨wr.heap.size, 2, none⟩ = some (.int .i64 m) ∧ Below w.heap.size w W ∧ Below wr.heap.size wr W) ⟨cell_of_row _ _ 0 _ _ _ (heap_alloc_new wr _), cell_of_row _ _ 1 _ _ _ (heap_alloc_new wr _), cell_of_row _ _ 2 _ _ _ (heap_alloc_new wr _), hB.alloc hB.size _, (Below.refl _ _).alloc (Nat.le_refl _) _⟩ ?_
          rintro W ⟨r0, r1, r2, hB2, hBW⟩
          have p0 := Under.cell r0
          have p1 := Under.cell r1
          have p2 := Under.cell r2
          clear r0 r1 r2 q0 q1 q2 hB
          by_cases hz1 : 1 ≤ z ∧ z ≤ 4096
          · have z1 : inB 1 4096 z = true := inB_iff.2 hz1
            by_cases hm1 : 1 ≤ m ∧ m ≤ 1000
            · have m1 : inB 1 1000 m = true := inB_iff.2 hm1
              have GD := Lib.hid (GOOD.out ⟨⟨by rw [HZ.out]; exact hz1.1, by rw [HZ.out]; exact hz1.2, by rw [HM.out]; exact hm1.1, by rw [HM.out]; exact hm1.2⟩, ORD.out⟩)
              clear hz1 hm1
              (refine region_under (by kernel_rfl) (by kernel_rfl) ?_; (repeat (first | go_big_quiet_step ((fail)) | quiet_step ((fail)))); refine wpQuiet_nil ?_; intro _ hw'; obtain ⟨x, hw''⟩ := hw'; subst hw''; go_wp2_with fail)
              go_wp2_with (go_at_call 28; refine (tune_within _ _ _ _).mono ?_; rintro e w' ⟨rfl, rfl⟩)
              exact ⟨⟨i + 1, by omega, by go_num, GD, hB2.trans (x.2.mono hB2.size)⟩, by simp [intOf]; omega⟩
            · have m1 : inB 1 1000 m = false := inB_not hm1
              have BD := Lib.hid (BAD.out fun h => hm1 ⟨by rw [← HM.out]; exact h.1.2.2.1, by rw [← HM.out]; exact h.1.2.2.2⟩)
              clear hz1 hm1
              (refine region_under (by kernel_rfl) (by kernel_rfl) ?_; (repeat (first | go_big_quiet_step ((fail)) | quiet_step ((fail)))); refine wpQuiet_nil ?_; intro _ hw'; obtain ⟨x, hw''⟩ := hw'; subst hw''; go_wp2_with fail)
              go_wp2_with (go_at_call 28; refine (tune_within _ _ _ _).mono ?_; rintro e w' ⟨rfl, rfl⟩)
              go_ret
              exact ⟨by rw [BD.out]; rfl, hB2.trans (x.2.mono hB2.size)⟩
          · have z1 : inB 1 4096 z = false := inB_not hz1
            have BD := Lib.hid (BAD.out fun h => hz1 ⟨by rw [← HZ.out]; exact h.1.1, by rw [← HZ.out]; exact h.1.2.1⟩)
            clear hz1
            (refine region_under (by kernel_rfl) (by kernel_rfl) ?_; (repeat (first | go_big_quiet_step ((fail)) | quiet_step ((fail)))); refine wpQuiet_nil ?_; intro _ hw'; obtain ⟨x, hw''⟩ := hw'; subst hw''; go_wp2_with fail)
            go_wp2_with (go_at_call 28; refine (tune_within _ _ _ _).mono ?_; rintro e w' ⟨rfl, rfl⟩)
            go_ret
            exact ⟨by rw [BD.out]; rfl, hB2.trans (x.2.mono hB2.size)⟩
        · have d1 : decide (0 < i) = true := decide_eq_true (by omega)
          obtain ⟨ab', ao', hh, _, s0, _, _⟩ := (IW.out.below hB).row (i := i - 1) (by rw [HN.out]; omega)
          cases hh
          have s0' := fun (W : World) (hb : Below wr.heap.size wr W) => keepIn hb s0
          have hi1 : 0 ≤ (i : Int) - 1 := by omega
          have hi2 : ((i : Int) - 1).toNat = i - 1 := by omega
          have hi3 : (i : Int) - 1 < n := by omega
          generalize hk' : (wAt l (i - 1)).key = k' at *
          have HK' := Lib.hid hk'
          clear hk' s0
          go_wp2_with fail
          refine forget (fun W => W.cell? ⟨wr.heap.size, 0, none⟩ = some (.string k) ∧ W.cell? ⟨wr.heap.size, 1, none⟩ = some (.int .i64 z) ∧ W.cell? ⟨wr.heap.size, 2, none⟩ = some (.int .i64 m) ∧ Below w.heap.size w W ∧ Below wr.heap.size wr W) ⟨cell_of_row _ _ 0 _ _ _ (heap_alloc_new wr _), cell_of_row _ _ 1 _ _ _ (heap_alloc_new wr _), cell_of_row _ _ 2 _ _ _ (heap_alloc_new wr _), hB.alloc hB.size _, (Below.refl _ _).alloc (Nat.le_refl _) _⟩ ?_
          rintro W ⟨r0, r1, r2, hB2, hBW⟩
          have p0 := Under.cell r0
          have p1 := Under.cell r1
          have p2 := Under.cell r2
          clear r0 r1 r2 q0 q1 q2 hB
          have p3 := Under.cell (s0' W hBW)
          clear s0'
          cases hlt2 : Op.bytesLess k'.toList k.toList with
          | true =>
            have ORD := Lib.hid (fun h : 0 < i => show ltB (wAt l (i - 1)).key (wAt l i).key = true from by rw [HK.out, HK'.out]; exact hlt2)
            by_cases hz1 : 1 ≤ z ∧ z ≤ 4096
            · have z1 : inB 1 4096 z = true := inB_iff.2 hz1
              by_cases hm1 : 1 ≤ m ∧ m ≤ 1000
              · have m1 : inB 1 1000 m = true := inB_iff.2 hm1
                have GD := Lib.hid (GOOD.out ⟨⟨by rw [HZ.out]; exact hz1.1, by rw [HZ.out]; exact hz1.2, by rw [HM.out]; exact hm1.1, by rw [HM.out]; exact hm1.2⟩, ORD.out⟩)
                clear hz1 hm1
                (refine region_under (by kernel_rfl) (by kernel_rfl) ?_; (repeat (first | go_big_quiet_step ((fail)) | quiet_step ((fail)))); refine wpQuiet_nil ?_; intro _ hw'; obtain ⟨x, hw''⟩ := hw'; subst hw''; go_wp2_with fail)
                go_wp2_with (go_at_call 28; refine (tune_within _ _ _ _).mono ?_; rintro e w' ⟨rfl, rfl⟩)
                exact ⟨⟨i + 1, by omega, by go_num, GD, hB2.trans (x.2.mono hB2.size)⟩, by simp [intOf]; omega⟩
              · have m1 : inB 1 1000 m = false := inB_not hm1
                have BD := Lib.hid (BAD.out fun h => hm1 ⟨by rw [← HM.out]; exact h.1.2.2.1, by rw [← HM.out]; exact h.1.2.2.2⟩)
                clear hz1 hm1
                (refine region_under (by kernel_rfl) (by kernel_rfl) ?_; (repeat (first | go_big_quiet_step ((fail)) | quiet_step ((fail)))); refine wpQuiet_nil ?_; intro _ hw'; obtain ⟨x, hw''⟩ := hw'; subst hw''; go_wp2_with fail)
                go_wp2_with (go_at_call 28; refine (tune_within _ _ _ _).mono ?_; rintro e w' ⟨rfl, rfl⟩)
                go_ret
                exact ⟨by rw [BD.out]; rfl, hB2.trans (x.2.mono hB2.size)⟩
            · have z1 : inB 1 4096 z = false := inB_not hz1
              have BD := Lib.hid (BAD.out fun h => hz1 ⟨by rw [← HZ.out]; exact h.1.1, by rw [← HZ.out]; exact h.1.2.1⟩)
              clear hz1
              (refine region_under (by kernel_rfl) (by kernel_rfl) ?_; (repeat (first | go_big_quiet_step ((fail)) | quiet_step ((fail)))); refine wpQuiet_nil ?_; intro _ hw'; obtain ⟨x, hw''⟩ := hw'; subst hw''; go_wp2_with fail)
              go_wp2_with (go_at_call 28; refine (tune_within _ _ _ _).mono ?_; rintro e w' ⟨rfl, rfl⟩)
              go_ret
              exact ⟨by rw [BD.out]; rfl, hB2.trans (x.2.mono hB2.size)⟩
          | false =>
            have BD := Lib.hid (BAD.out fun h => by have := h.2 h0; rw [HK.out, HK'.out] at this; exact absurd this (by unfold ltB; rw [hlt2]; decide))
            (refine region_under (by kernel_rfl) (by kernel_rfl) ?_; (repeat (first | go_big_quiet_step ((fail)) | quiet_step ((fail)))); refine wpQuiet_nil ?_; intro _ hw'; obtain ⟨x, hw''⟩ := hw'; subst hw''; go_wp2_with fail)
            go_wp2_with fail
            go_ret
            exact ⟨by rw [BD.out]; rfl, hB2.trans (x.2.mono hB2.size)⟩
      · obtain rfl : n = i := by omega
        have HT := Lib.hid (show b = true by rw [← HB.out]; exact decide_eq_true ⟨by rw [HN.out]; exact hl, fun j hj => hall.out j (by rw [← HN.out]; exact hj)⟩)
        go_wp2_with fail
        go_ret
        exact ⟨by rw [HT.out]; rfl, hB⟩
  · have HF := Lib.hid (show b = false by rw [← HB.out]; exact decide_eq_false fun h => hl (by rw [← HN.out]; exact h.1))
    have d0 : decide ((1000 : Int) < n) = true := decide_eq_true (by omega)
    go_enter Tryd.func12, Tryd.ntmps12
    go_wp2_with fail
    go_ret
    exact ⟨by rw [HF.out]; rfl, Below.refl _ _⟩
end Go.Proofs.YtejipmkbjmcnaaaDoor
