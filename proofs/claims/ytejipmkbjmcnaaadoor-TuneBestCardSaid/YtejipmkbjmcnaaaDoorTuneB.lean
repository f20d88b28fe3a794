/- The walk of awake. -/
import Derived.Test.YtejipmkbjmcnaaaDoorTuneA
set_option linter.unusedVariables false
set_option maxRecDepth 100000
set_option maxHeartbeats 4000000
namespace Go.Proofs.YtejipmkbjmcnaaaDoor
open Go.RowKit Go.Shelf
attribute [local go_sem ↓] lt_alloc

theorem noteE {w w' : World} {l : List Sn} {n : Nat} {e : Ending} (hl : l.length = n) (h : NoteEnd w l e w') : ∃ a c, e = .returned (.slice a n c) ∧ n ≤ c ∧ IsW w' a l ∧ Below w.heap.size w w' := by
  subst hl; exact h
theorem two_new (W : World) (o1 o2 : Obj) : ((W.alloc o1).alloc o2).heap[W.heap.size]? = some o1 ∧ ((W.alloc o1).alloc o2).heap[W.heap.size + 1]? = some o2 := by
  refine ⟨?_, ?_⟩
  · rw [heap_alloc_old _ _ (by simp)]; exact heap_alloc_new W o1
  · have h := heap_alloc_new (W.alloc o1) o2
    rw [World.size_alloc] at h; exact h
theorem inW_one {s : Sn} (h : (-9223372036854775808 ≤ s.size ∧ s.size < 9223372036854775808) ∧ (-9223372036854775808 ≤ s.n ∧ s.n < 9223372036854775808)) : InW [s] := fun i hi => by
  have hi : i < 1 := hi
  obtain rfl : i = 0 := by omega
  exact h
theorem inW3 : InW W3 := fun i hi => by
  have hi : i < 2 := hi
  rcases (show i = 0 ∨ i = 1 by omega) with rfl | rfl <;> exact ⟨⟨by decide, by decide⟩, ⟨by decide, by decide⟩⟩
theorem gA_row : ∀ i, i < 3 → (#[Value.int .i64 1, .int .i64 1000, .int .i64 0] : Array Value)[i]? = some (.int .i64 (gA i)) := fun i hi => by
  match i, hi with
  | 0, _ => rfl
  | 1, _ => rfl
  | 2, _ => rfl
theorem isK_lit {k : IntKind} {W : World} {g n : Nat} {c : Array Value} {t : TypeId} {Z : Nat → Int} (h : W.heap[g]? = some (.cells c t (0, 0))) (hc : ∀ i, i < n → c[i]? = some (.int k (Z i))) (hn : n ≤ 100) : IsK k W (some ⟨g, 0, none⟩) n Z :=
  Or.inr ⟨g, 0, rfl, by omega, fun i hi => by rw [Nat.zero_add]; exact (cell_of_row W g i c t (0, 0) h).trans (hc i hi)⟩
theorem gA_in : InK .i64 gA := fun i => by
  unfold gA
  rw [List.getD_eq_getElem?_getD]
  by_cases hi : i < 3
  · rcases (show i = 0 ∨ i = 1 ∨ i = 2 by omega) with rfl | rfl | rfl <;> decide
  · rw [List.getElem?_eq_none (by simp; omega)]; decide
theorem law21_awake (w : World) (hP : PW w) : Calls Tryd.prog 10 #[] w fun e w' => e = .returned (.bool true) ∧ Below w.heap.size w w' := by
  have k1 := fun w => tune_Note (a := none) (n := 0) (cap := 0) (l := []) (key := kB) (size := 10) rfl (by decide) w (Or.inl rfl)
  rw [note1] at k1
  have k2 := fun a c w iW => tune_Note (a := a) (n := 1) (cap := c) (l := W1) (key := kA) (size := 7) rfl (by decide) w iW
  rw [note2] at k2
  have k3 := fun a c w iW => tune_Note (a := a) (n := 2) (cap := c) (l := W2) (key := kB) (size := 12) rfl (by decide) w iW
  rw [note3] at k3
  have k4 := fun a ga w hP iW iG => tune_Best (a := a) (ga := ga) (n := 1) (cap := 1) (gn := 3) (gc := 3) (l := X1) (most := 100) (G := gA) rfl (inW_one ⟨⟨by decide, by decide⟩, ⟨by decide, by decide⟩⟩) (by decide) (by decide) gA_in w hP iW iG
  rw [bestX'.1, bestX'.2] at k4
  have k5 := fun a c ga w hP iW iG => tune_Best (a := a) (ga := ga) (n := 2) (cap := c) (gn := 1) (gc := 1) (l := W3) (most := 100) (G := fun _ => 0) rfl inW3 (by decide) (by decide) (fun _ => show (Lit.int .i64 0).wf = true by decide) w hP iW iG
  rw [bestY] at k5
  have k6 := fun a b c d w i1 i2 => ref21_Same (a := a) (b := b) (n := 2) (m := 2) (ca := c) (cb := d) (l := W3) (k := W3) rfl rfl w i1 i2
  rw [decide_eq_true (SameP.refl W3)] at k6
  have k7 := fun a c w iW => tune_Note (a := a) (n := 2) (cap := c) (l := W3) (key := kC) (size := 0) rfl (by decide) w iW
  rw [note4] at k7
  have k9 := fun w hP => tune_Part (s := ⟨⟨#[]⟩, 1, 1⟩) (limit := 4611686018427387904) (t := 1) (by decide) (by decide) (by decide) (by decide) (by decide) (by decide) w hP
  rw [partX] at k9
  have k10 := fun w hP => tune_Part (s := ⟨⟨#[]⟩, 0, 0⟩) (limit := 1) (t := 1) (by decide) (by decide) (by decide) (by decide) (by decide) (by decide) w hP
  rw [partY] at k10
  have k11 := fun a w hP iW => tune_Fill (a := a) (n := 1) (cap := 1) (l := X2) (limit := 4611686018427387904) (t := 1) rfl (inW_one ⟨⟨by decide, by decide⟩, ⟨by decide, by decide⟩⟩) (by decide) (by decide) (by decide) (by decide) w hP iW
  rw [fillX] at k11
  have k12 := fun a c w hP iW => tune_Time (a := a) (n := 2) (cap := c) (l := W3) (limit := 1000) (most := 19) rfl inW3 (by decide) (by decide) (by decide) (by decide) w hP iW
  rw [timeX] at k12
  have k13 := fun a c w hP iW => tune_Time (a := a) (n := 2) (cap := c) (l := W3) (limit := 1000) (most := 0) rfl inW3 (by decide) (by decide) (by decide) (by decide) w hP iW
  rw [timeY] at k13
  have k14 := fun a c w iW => tune_Check (a := a) (n := 2) (cap := c) (l := W3) rfl w iW
  rw [decide_eq_true may3] at k14
  have k15 := fun a w iW => tune_Check (a := a) (n := 1) (cap := 1) (l := X3) rfl w iW
  rw [decide_eq_false mayX3] at k15
  have HP := Lib.hid hP
  clear hP
  have K1 := Lib.hid k1
  have K2 := Lib.hid k2
  have K3 := Lib.hid k3
  have K4 := Lib.hid k4
  have K5 := Lib.hid k5
  have K6 := Lib.hid k6
  have K7 := Lib.hid k7
  have K9 := Lib.hid k9
  have K10 := Lib.hid k10
  have K11 := Lib.hid k11
  have K12 := Lib.hid k12
  have K13 := Lib.hid k13
  have K14 := Lib.hid k14
  have K15 := Lib.hid k15
  clear k1 k2 k3 k4 k5 k6 k7 k9 k10 k11 k12 k13 k14 k15
  go_enter Tryd.func10, Tryd.ntmps10
  go_wp2_with fail
  refine (K1.out w).mono ?_
  intro e w1 h
  obtain ⟨a1, c1, rfl, hc1, hW, hb⟩ := noteE (n := 1) rfl h
  have I1 := Lib.hid hW
  have B1 := Lib.hid hb
  clear K1 h hW hb
  go_wp2_with fail
  refine (K2.out _ _ _ I1.out).mono ?_
  intro e w2 h
  obtain ⟨a2, c2, rfl, hc2, hW, hb⟩ := noteE (n := 2) rfl h
  have I2 := Lib.hid hW
  have B2 := Lib.hid (B1.out.trans (hb.mono B1.out.size))
  clear K2 h hW hb I1 B1
  go_wp2_with fail
  refine (K3.out _ _ _ I2.out).mono ?_
  intro e w3 h
  obtain ⟨a3, c3, rfl, hc3, hW, hb⟩ := noteE (n := 2) rfl h
  have L3 := Lib.hid hW
  have B3 := Lib.hid (B2.out.trans (hb.mono B2.out.size))
  clear K3 h hW hb I2 B2
  go_wp2_with fail
  have t2 := two_new w3 (.cells #[.string ⟨#[]⟩, .int .i64 10, .int .i64 5] 25) (.cells #[.int .i64 1, .int .i64 1000, .int .i64 0] 3)
  have bA : Below w3.heap.size w3 ((w3.alloc (.cells #[.string ⟨#[]⟩, .int .i64 10, .int .i64 5] 25)).alloc (.cells #[.int .i64 1, .int .i64 1000, .int .i64 0] 3)) := ((Below.refl _ _).alloc (Nat.le_refl _) _).alloc (by simp) _
  have iX : IsW ((w3.alloc (.cells #[.string ⟨#[]⟩, .int .i64 10, .int .i64 5] 25)).alloc (.cells #[.int .i64 1, .int .i64 1000, .int .i64 0] 3)) (some ⟨w3.heap.size, 0, none⟩) X1 := WBlk.isW (l := X1) t2.1 (by decide)
  refine (K4.out _ _ _ (HP.out.below (B3.out.trans (bA.mono B3.out.size))) iX (isK_lit t2.2 gA_row (by decide))).mono ?_
  rintro e w4 ⟨rfl, hb⟩
  have L4 := Lib.hid ((L3.out.below bA).below hb)
  have B4 := Lib.hid ((B3.out.trans (bA.mono B3.out.size)).trans (hb.mono (B3.out.trans (bA.mono B3.out.size)).size))
  clear K4 hb t2 bA iX L3 B3
  go_wp2_with fail
  have bA : Below w4.heap.size w4 (w4.alloc (.cells #[.int .i64 0] 3)) := (Below.refl _ _).alloc (Nat.le_refl _) _
  refine (K5.out _ _ _ _ (HP.out.below (B4.out.trans (bA.mono B4.out.size))) (L4.out.below bA) (isK_lit (heap_alloc_new w4 _) (fun i hi => by
    obtain rfl : i = 0 := by omega
    rfl) (by decide))).mono ?_
  rintro e w5 ⟨rfl, hb⟩
  have L5 := Lib.hid ((L4.out.below bA).below hb)
  have B5 := Lib.hid ((B4.out.trans (bA.mono B4.out.size)).trans (hb.mono (B4.out.trans (bA.mono B4.out.size)).size))
  clear K5 hb bA L4 B4
  go_wp2_with fail
  have bA : Below w5.heap.size w5 (w5.alloc (.cells #[.string ⟨#[97]⟩, .int .i64 7, .int .i64 1, .string ⟨#[98]⟩, .int .i64 12, .int .i64 2] 25)) := (Below.refl _ _).alloc (Nat.le_refl _) _
  have iX : IsW (w5.alloc (.cells #[.string ⟨#[97]⟩, .int .i64 7, .int .i64 1, .string ⟨#[98]⟩, .int .i64 12, .int .i64 2] 25)) (some ⟨w5.heap.size, 0, none⟩) W3 := WBlk.isW (l := W3) (heap_alloc_new w5 _) (by decide)
  refine (K6.out _ _ _ _ _ (L5.out.below bA) iX).mono ?_
  rintro e w6 ⟨rfl, hb⟩
  have L6 := Lib.hid ((L5.out.below bA).below hb)
  have B6 := Lib.hid ((B5.out.trans (bA.mono B5.out.size)).trans (hb.mono (B5.out.trans (bA.mono B5.out.size)).size))
  clear hb bA iX L5 B5
  go_wp2_with fail
  refine (K7.out _ _ _ L6.out).mono ?_
  intro e w7 h
  obtain ⟨a7, c7, rfl, hc7, hW, hb⟩ := noteE (n := 2) rfl h
  have L7 := Lib.hid (L6.out.below hb)
  have I7 := Lib.hid hW
  have B7 := Lib.hid (B6.out.trans (hb.mono B6.out.size))
  clear K7 h hW hb L6 B6
  go_wp2_with fail
  refine (K6.out _ _ _ _ _ I7.out L7.out).mono ?_
  rintro e w8 ⟨rfl, hb⟩
  have L8 := Lib.hid (L7.out.below hb)
  have B8 := Lib.hid (B7.out.trans (hb.mono B7.out.size))
  clear K6 hb L7 B7 I7
  go_wp2_with fail
  refine (K9.out _ (HP.out.below B8.out)).mono ?_
  rintro e w9 ⟨rfl, hb⟩
  have L9 := Lib.hid (L8.out.below hb)
  have B9 := Lib.hid (B8.out.trans (hb.mono B8.out.size))
  clear K9 hb L8 B8
  go_wp2_with fail
  refine (K10.out _ (HP.out.below B9.out)).mono ?_
  rintro e w10 ⟨rfl, hb⟩
  have L10 := Lib.hid (L9.out.below hb)
  have B10 := Lib.hid (B9.out.trans (hb.mono B9.out.size))
  clear K10 hb L9 B9
  go_wp2_with fail
  have bA : Below w10.heap.size w10 (w10.alloc (.cells #[.string ⟨#[]⟩, .int .i64 1, .int .i64 1] 25)) := (Below.refl _ _).alloc (Nat.le_refl _) _
  have iX : IsW (w10.alloc (.cells #[.string ⟨#[]⟩, .int .i64 1, .int .i64 1] 25)) (some ⟨w10.heap.size, 0, none⟩) X2 := WBlk.isW (l := X2) (heap_alloc_new w10 _) (by decide)
  refine (K11.out _ _ (HP.out.below (B10.out.trans (bA.mono B10.out.size))) iX).mono ?_
  rintro e w11 ⟨rfl, hb⟩
  have L11 := Lib.hid ((L10.out.below bA).below hb)
  have B11 := Lib.hid ((B10.out.trans (bA.mono B10.out.size)).trans (hb.mono (B10.out.trans (bA.mono B10.out.size)).size))
  clear K11 hb bA iX L10 B10
  go_wp2_with fail
  refine (K12.out _ _ _ (HP.out.below B11.out) L11.out).mono ?_
  rintro e w12 ⟨rfl, hb⟩
  have L12 := Lib.hid (L11.out.below hb)
  have B12 := Lib.hid (B11.out.trans (hb.mono B11.out.size))
  clear K12 hb L11 B11
  go_wp2_with fail
  refine (K13.out _ _ _ (HP.out.below B12.out) L12.out).mono ?_
  rintro e w13 ⟨rfl, hb⟩
  have L13 := Lib.hid (L12.out.below hb)
  have B13 := Lib.hid (B12.out.trans (hb.mono B12.out.size))
  clear K13 hb L12 B12
  go_wp2_with fail
  refine (K14.out _ _ _ L13.out).mono ?_
  rintro e w14 ⟨rfl, hb⟩
  have B14 := Lib.hid (B13.out.trans (hb.mono B13.out.size))
  clear K14 hb L13 B13
  go_wp2_with fail
  have bA : Below w14.heap.size w14 (w14.alloc (.cells #[.string ⟨#[]⟩, .int .i64 0, .int .i64 0] 25)) := (Below.refl _ _).alloc (Nat.le_refl _) _
  have iX : IsW (w14.alloc (.cells #[.string ⟨#[]⟩, .int .i64 0, .int .i64 0] 25)) (some ⟨w14.heap.size, 0, none⟩) X3 := WBlk.isW (l := X3) (heap_alloc_new w14 _) (by decide)
  refine (K15.out _ _ iX).mono ?_
  rintro e w15 ⟨rfl, hb⟩
  have B15 := Lib.hid ((B14.out.trans (bA.mono B14.out.size)).trans (hb.mono (B14.out.trans (bA.mono B14.out.size)).size))
  clear K15 hb bA iX B14
  go_wp2_with fail
  go_ret
  exact ⟨rfl, B15.out⟩
end Go.Proofs.YtejipmkbjmcnaaaDoor
