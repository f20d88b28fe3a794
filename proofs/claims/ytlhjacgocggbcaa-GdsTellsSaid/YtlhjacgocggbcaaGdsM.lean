/- The walk of Run. -/
import Derived.Test.YtlhjacgocggbcaaGdsL
set_option linter.unusedVariables false
set_option maxRecDepth 100000
set_option maxHeartbeats 4000000
namespace Go.Proofs.Ytlhjacgocggbcaa
open Go.RowKit Go.Shelf
attribute [local go_sem ↓] lt_alloc

theorem serve_info : (Try.prog.info? 40).map (fun i => (i.zero, i.size, i.bytes)) = some (some (.agg #[.bool false, .slice none 0 0]), 2, 32) := by kernel_rfl
theorem course_new (sv cv : Value) (most : Int) : ((Try.zeroCells53.setIfInBounds 0 sv).setIfInBounds 1 cv).setIfInBounds 2 (.int .i64 most) = rowV (courseF sv cv most gd0) 133 := by kernel_rfl
theorem told_made {w : World} {base g T m : Nat} {xs : List Value} {H : Nat → Bool} {O : Nat → List Nat} (h : w.ownsRow base 40 2 (.slice (some ⟨T, 0, none⟩) m m) m xs) : ToldAt w g T m 0 H O := by
  rcases h.2 with ⟨hh, _⟩ | ⟨g', cap, cur, hh, _, hgg, _, _, hc, _⟩
  · cases hh
  · cases hh
    exact ⟨⟨cur, hgg, hc, fun j hj => absurd hj (Nat.not_lt_zero j)⟩⟩
theorem isK_ne {k : IntKind} {w : World} {a : Option Addr} {n : Nat} {Z : Nat → Int} (h : IsK k w a n Z) (hn : 0 < n) {g : Nat} (hg : w.heap.size ≤ g) : ∀ b off, a = some ⟨b, off, none⟩ → b ≠ g := by
  obtain ⟨b', o', h1, _, h2⟩ := h.row hn
  have hlt : b' < w.heap.size := block_lt_of_cell h2
  rintro b off hh rfl
  rw [h1] at hh
  cases hh
  omega
theorem gds_Run_ok {most : Int} {sa ca aa : Option Addr} {n m cs cc ac : Nat} {Z C : Nat → Int} {A : Nat → Nat} (hZ : InK .i64 Z) (hC : InK .i64 C) (hm0 : 1 ≤ most) (hm1 : most ≤ 65536) (hp : mayP Z C n n) (hA : ∀ j, j < m → A j < n) (hmm : m ≤ 1000000)
    (w : World) (iZ : IsK .i64 w sa n Z) (iC : IsK .i64 w ca n C) (iA : IsK .i64 w aa m (fun j => (A j : Nat))) :
    Calls Try.prog 10 #[.int .i64 most, .slice sa n cs, .slice ca n cc, .slice aa m ac] w fun e w' => ∃ a cap, e = .returned (.tuple #[.slice a m cap, .int .i64 0]) ∧ m ≤ cap ∧ IsS w' a m (hitG Z C n most A) (goG Z C n most A) ∧ Below w.heap.size w w' := by
  have km := fun w iZ iC => gds_may (sa := sa) (ca := ca) (n := n) (nc := n) (cs := cs) (cc := cc) hZ hC w iZ iC
  rw [decide_eq_true hp] at km
  have d1 : decide (most < 1) = false := decide_eq_false (by omega)
  have d2 : decide (65536 < most) = false := decide_eq_false (by omega)
  have HP := Lib.hid hp
  have HA := Lib.hid hA
  have IZ := Lib.hid iZ
  have IC := Lib.hid iC
  have IA := Lib.hid iA
  have HZ := Lib.hid hZ
  have HC := Lib.hid hC
  clear iZ iC iA hp hA hZ hC
  go_enter Try.func10, Try.ntmps10
  go_wp2_with fail
  refine (km _ (IZ.out.below ((Below.refl _ _).alloc (Nat.le_refl _) _)) (IC.out.below ((Below.refl _ _).alloc (Nat.le_refl _) _))).mono ?_
  rintro e w1 ⟨rfl, hb1⟩
  have q0 : w1.cell? ⟨w.heap.size, 0, none⟩ = some (.slice sa n cs) := keepB hb1 (cell_of_row _ _ 0 _ _ _ (heap_alloc_new w _))
  have q1 : w1.cell? ⟨w.heap.size, 1, none⟩ = some (.slice ca n cc) := keepB hb1 (cell_of_row _ _ 1 _ _ _ (heap_alloc_new w _))
  have hB1 : Below w.heap.size w w1 := ((Below.refl _ _).alloc (Nat.le_refl _) _).trans (hb1.mono (by simp))
  clear km hb1
  go_wp2_with fail
  go_loopw [33] (fun iv wr => ∃ i : Nat, i ≤ m ∧ iv = .int .i64 i ∧ Below w.heap.size w wr ∧ wr.cell? ⟨w.heap.size, 0, none⟩ = some (.slice sa n cs) ∧ wr.cell? ⟨w.heap.size, 1, none⟩ = some (.slice ca n cc)) (fun iv _ => m - (intOf iv).toNat)
  case atStart => exact ⟨0, Nat.zero_le _, rfl, hB1, q0, q1⟩
  case round =>
    clear q0 q1 hB1
    obtain ⟨i, hi, rfl, hB, q0, q1⟩ := hrel
    by_cases hlt : i < m
    · obtain ⟨ab, ao, rfl, _, ha⟩ := (IA.out.below hB).row hlt
      have hai := HA.out i hlt
      have kh := fun w => gds_has (sv := sa) (cv := ca) (n := n) (nc := n) (cs := cs) (cc := cc) (A i : Nat) w
      have hh : hasB n n (A i : Nat) = true := by unfold hasB; simp; omega
      rw [hh] at kh
      clear hh
      go_wp2_with fail
      refine (kh wr).mono ?_
      rintro e w2 ⟨rfl, hb2⟩
      have q0' := keepB hb2 q0
      have q1' := keepB hb2 q1
      clear q0 q1 kh ha
      go_wp2_with fail
      exact ⟨⟨i + 1, by omega, by go_num, hB.trans (hb2.mono hB.size), q0', q1'⟩, by simp [intOf]; omega⟩
    · obtain rfl : m = i := by omega
      obtain ⟨ti, ti1, ti2, ti3, ti4⟩ := info_parts serve_info
      have hco : CourseAt ((wr.alloc (.cells Try.zeroCells53 53)).setRow wr.heap.size (((Try.zeroCells53.setIfInBounds 0 (.slice sa n cs)).setIfInBounds 1 (.slice ca n cc)).setIfInBounds 2 (.int .i64 most))) wr.heap.size (.slice sa n cs) (.slice ca n cc) most gd0 := by
        unfold CourseAt
        rw [← course_new]
        exact setRow_heap _ _ _ _ _ _ (heap_alloc_new wr _)
      have hsz : ((wr.alloc (.cells Try.zeroCells53 53)).setRow wr.heap.size (((Try.zeroCells53.setIfInBounds 0 (.slice sa n cs)).setIfInBounds 1 (.slice ca n cc)).setIfInBounds 2 (.int .i64 most))).heap.size = wr.heap.size + 1 := by simp
      have hBr : Below wr.heap.size wr ((wr.alloc (.cells Try.zeroCells53 53)).setRow wr.heap.size (((Try.zeroCells53.setIfInBounds 0 (.slice sa n cs)).setIfInBounds 1 (.slice ca n cc)).setIfInBounds 2 (.int .i64 most))) :=
        ⟨rfl, rfl, rfl, by rw [hsz]; omega, fun k hk => (setRow_other _ _ _ _ (by omega)).trans (heap_alloc_old wr _ hk)⟩
      have HCo := Lib.hid hco
      have HSz := Lib.hid hsz
      have HBr := Lib.hid (hB.trans (hBr.mono hB.size))
      have hwr : w.heap.size < wr.heap.size := block_lt_of_cell q0
      clear hco hsz hBr
      go_wp2_with (first | (refine wpList_store_row rfl _ _ _ rfl wr.heap.size _ rfl rfl 53 _ (heap_alloc_new wr _) (by kernel_rfl) (by kernel_rfl) (by kernel_rfl) ?_) | (refine wpList_make_full _ rfl _ _ _ rfl 0 40 ti _ 2 (by kernel_rfl) ti1 ti2 ti3 .i64 .i64 _ _ m rfl rfl rfl rfl (by rw [ti4]; omega) (by unfold maxLen; omega) (Nat.zero_le _) ?_; intro w' ho' hg'))
      rw [HSz.out] at ho'
      have HBw := HBr.out.trans (c := w') ⟨hg'.os, hg'.tape, hg'.output, hg'.size, fun k hk => hg'.block k (by have := HSz.out; omega) (by simp)⟩
      have HCo' : CourseAt w' wr.heap.size (.slice sa n cs) (.slice ca n cc) most gd0 := by
        unfold CourseAt
        rw [hg'.block _ (by have := HSz.out; omega) (by simp)]
        exact HCo.out
      have hT := told_made (g := wr.heap.size) (H := hitG Z C n most A) (O := goG Z C n most A) ho'
      clear HCo HBr hg' ho' ti1 ti2 ti3 ti4 ti
      clear HSz hB q0 q1
      generalize wr.heap.size = g at *
      go_loopw [50] (fun iv W => ∃ i : Nat, i ≤ m ∧ iv = .int .i64 i ∧ Below w.heap.size w W ∧ CourseAt W g (.slice sa n cs) (.slice ca n cc) most (stG Z C n most A i) ∧ ToldAt W g (g + 1) m i (hitG Z C n most A) (goG Z C n most A)) (fun iv _ => m - (intOf iv).toNat)
      case atStart => exact ⟨0, Nat.zero_le _, rfl, HBw, HCo', hT⟩
      case round =>
        clear HBw HCo' hT
        obtain ⟨i, hi, rfl, hBr, hCo, hT⟩ := hrel
        by_cases hlt : i < m
        · have hai := HA.out i hlt
          have hp := HP.out
          have hI := stG_inv (Z := Z) (A := A) (C := C) (n := n) (fun j hj => by have := (hp.2.2 j hj).1; omega) hm0 i (fun k hk => HA.out k (by omega))
          have hS : Calls Try.prog 22 #[.pointer (some ⟨g, 0, none⟩), .int .i64 (A i : Nat)] wr fun e w' => ∃ ov, e = .returned (.agg #[.bool (hitG Z C n most A i), ov]) ∧ OutsAt wr.heap.size w' ov (goG Z C n most A i) ∧ CourseAt w' g (.slice sa n cs) (.slice ca n cc) most (stG Z C n most A (i + 1)) ∧ Only g wr w' :=
            gds_serve g HZ.out HC.out hai hp.1 (fun j hj => ⟨(hp.2.2 j hj).1, (hp.2.2 j hj).2.1⟩) hm1 hI wr (isK_ne IZ.out (by omega) (by omega)) (isK_ne IC.out (by omega) (by omega)) (IZ.out.below hBr) (IC.out.below hBr) hCo
          have hTs : g + 1 < wr.heap.size := by
            obtain ⟨cur, h1, _⟩ := hT.row
            exact (Array.getElem?_eq_some_iff.1 h1).1
          obtain ⟨ab, ao, rfl, _, ha⟩ := (IA.out.below hBr).row hlt
          have HS := Lib.hid hS
          have HT := Lib.hid hT
          clear hS hT hI hp hCo
          generalize A i = ai at *
          go_wp2_with fail
          refine HS.out.mono ?_
          rintro e w3 ⟨ov, rfl, ho, hc3, hon⟩
          have HT2 := HT.out.only hon (by omega)
          obtain ⟨⟨v1, t1⟩, f1⟩ := HT2.cells (k := i * 2) (by omega)
          obtain ⟨⟨v2, t2⟩, f2⟩ := HT2.cells (k := i * 2 + 1) (by omega)
          have HT3 := Lib.hid (HT2.put hlt (ho.le (by omega)))
          have hB3 : Below w.heap.size w w3 := hBr.trans (hon.below (by omega) (by have := hBr.size; omega))
          obtain ⟨oa, oc, hov, _⟩ := ho
          obtain ⟨ocp, rfl, _⟩ := hov
          have HC3 := Lib.hid hc3
          clear HT2 HT HS ha hc3
          generalize hitG Z C n most A i = hb at *
          go_wp2_with fail
          refine ⟨⟨i + 1, by omega, by go_num, ?_, ?_, HT3.out⟩, by simp [intOf]; omega⟩
          · exact (hB3.setCell (by show w.heap.size ≤ g + 1; omega) _).setCell (by show w.heap.size ≤ g + 1; omega) _
          · have h := HC3.out
            unfold CourseAt at *
            rw [heap_setCell_other _ ⟨g + 1, i * 2 + 1, none⟩ g _ (by show g ≠ g + 1; omega), heap_setCell_other _ ⟨g + 1, i * 2, none⟩ g _ (by show g ≠ g + 1; omega)]
            exact h
        · obtain rfl : m = i := by omega
          have HD := Lib.hid (hT.done (by omega))
          clear hT hCo
          go_wp2_with fail
          go_ret2
          exact ⟨_, _, rfl, Nat.le_refl _, HD.out, hBr⟩
theorem gds_Run_cfg {most : Int} {sa ca aa : Option Addr} {n nc m cs cc ac : Nat} {Z C : Nat → Int} (hZ : InK .i64 Z) (hC : InK .i64 C) (hp : ¬ (1 ≤ most ∧ most ≤ 65536 ∧ mayP Z C n nc))
    (w : World) (iZ : IsK .i64 w sa n Z) (iC : IsK .i64 w ca nc C) :
    Calls Try.prog 10 #[.int .i64 most, .slice sa n cs, .slice ca nc cc, .slice aa m ac] w fun e w' => e = .returned (.tuple #[.slice none 0 0, .int .i64 220]) ∧ Below w.heap.size w w' := by
  have km := fun w iZ iC => gds_may (sa := sa) (ca := ca) (n := n) (nc := nc) (cs := cs) (cc := cc) hZ hC w iZ iC
  have hA : Below w.heap.size w (w.alloc (.cells #[.slice sa n cs, .slice ca nc cc] 48)) := (Below.refl _ _).alloc (Nat.le_refl _) _
  have iZ' := iZ.below hA
  have iC' := iC.below hA
  have HA := Lib.hid hA
  clear hZ hC iZ iC
  by_cases h1 : most < 1
  · have d1 : decide (most < 1) = true := decide_eq_true h1
    clear hp
    go_enter Try.func10, Try.ntmps10
    go_wp2_with fail
    go_ret2
    exact ⟨rfl, HA.out⟩
  · have d1 : decide (most < 1) = false := decide_eq_false h1
    by_cases h2 : 65536 < most
    · have d2 : decide (65536 < most) = true := decide_eq_true h2
      clear hp
      go_enter Try.func10, Try.ntmps10
      go_wp2_with fail
      go_ret2
      exact ⟨rfl, HA.out⟩
    · have d2 : decide (65536 < most) = false := decide_eq_false h2
      have hm : ¬ mayP Z C n nc := fun h => hp ⟨by omega, by omega, h⟩
      rw [decide_eq_false hm] at km
      clear hp hm
      go_enter Try.func10, Try.ntmps10
      go_wp2_with fail
      refine (km _ iZ' iC').mono ?_
      rintro e w1 ⟨rfl, hb1⟩
      have HB := HA.out.trans (hb1.mono (by simp))
      go_wp2_with fail
      go_ret2
      exact ⟨rfl, HB⟩
theorem gds_Run_call {most : Int} {sa ca aa : Option Addr} {n m cs cc ac : Nat} {Z C A : Nat → Int} (hZ : InK .i64 Z) (hC : InK .i64 C) (hm0 : 1 ≤ most) (hm1 : most ≤ 65536) (hp : mayP Z C n n) (hA : ∃ j, j < m ∧ ¬ (0 ≤ A j ∧ A j < n)) (hmm : m ≤ 1000000)
    (w : World) (iZ : IsK .i64 w sa n Z) (iC : IsK .i64 w ca n C) (iA : IsK .i64 w aa m A) :
    Calls Try.prog 10 #[.int .i64 most, .slice sa n cs, .slice ca n cc, .slice aa m ac] w fun e w' => e = .returned (.tuple #[.slice none 0 0, .int .i64 221]) ∧ Below w.heap.size w w' := by
  have km := fun w iZ iC => gds_may (sa := sa) (ca := ca) (n := n) (nc := n) (cs := cs) (cc := cc) hZ hC w iZ iC
  rw [decide_eq_true hp] at km
  have d1 : decide (most < 1) = false := decide_eq_false (by omega)
  have d2 : decide (65536 < most) = false := decide_eq_false (by omega)
  have HP := Lib.hid hp
  have IZ := Lib.hid iZ
  have IC := Lib.hid iC
  have IA := Lib.hid iA
  have HAA := Lib.hid hA
  clear iZ iC iA hp hZ hC hA
  go_enter Try.func10, Try.ntmps10
  go_wp2_with fail
  refine (km _ (IZ.out.below ((Below.refl _ _).alloc (Nat.le_refl _) _)) (IC.out.below ((Below.refl _ _).alloc (Nat.le_refl _) _))).mono ?_
  rintro e w1 ⟨rfl, hb1⟩
  have q0 : w1.cell? ⟨w.heap.size, 0, none⟩ = some (.slice sa n cs) := keepB hb1 (cell_of_row _ _ 0 _ _ _ (heap_alloc_new w _))
  have q1 : w1.cell? ⟨w.heap.size, 1, none⟩ = some (.slice ca n cc) := keepB hb1 (cell_of_row _ _ 1 _ _ _ (heap_alloc_new w _))
  have hB1 : Below w.heap.size w w1 := ((Below.refl _ _).alloc (Nat.le_refl _) _).trans (hb1.mono (by simp))
  clear km hb1
  go_wp2_with fail
  go_loopw [33] (fun iv wr => ∃ i : Nat, i ≤ m ∧ iv = .int .i64 i ∧ Below w.heap.size w wr ∧ wr.cell? ⟨w.heap.size, 0, none⟩ = some (.slice sa n cs) ∧ wr.cell? ⟨w.heap.size, 1, none⟩ = some (.slice ca n cc) ∧ ∀ j, j < i → 0 ≤ A j ∧ A j < n) (fun iv _ => m - (intOf iv).toNat)
  case atStart => exact ⟨0, Nat.zero_le _, rfl, hB1, q0, q1, fun j hj => absurd hj (Nat.not_lt_zero j)⟩
  case round =>
    clear q0 q1 hB1
    obtain ⟨i, hi, rfl, hB, q0, q1, hall⟩ := hrel
    have HALL := Lib.hid hall
    clear hall
    by_cases hlt : i < m
    · obtain ⟨ab, ao, rfl, _, ha⟩ := (IA.out.below hB).row hlt
      have kh := fun w => gds_has (sv := sa) (cv := ca) (n := n) (nc := n) (cs := cs) (cc := cc) (A i) w
      by_cases hai : 0 ≤ A i ∧ A i < n
      · have hh : hasB n n (A i) = true := by unfold hasB; simp; omega
        rw [hh] at kh
        clear hh
        go_wp2_with fail
        refine (kh wr).mono ?_
        rintro e w2 ⟨rfl, hb2⟩
        have q0' := keepB hb2 q0
        have q1' := keepB hb2 q1
        clear q0 q1 kh ha
        go_wp2_with fail
        refine ⟨⟨i + 1, by omega, by go_num, hB.trans (hb2.mono hB.size), q0', q1', fun j hj => ?_⟩, by simp [intOf]; omega⟩
        rcases Nat.lt_succ_iff_lt_or_eq.1 hj with h | rfl
        · exact HALL.out j h
        · exact hai
      · have hh : hasB n n (A i) = false := by
          cases h : hasB n n (A i)
          · rfl
          · exfalso; unfold hasB at h; simp at h; omega
        rw [hh] at kh
        clear hh hai
        go_wp2_with fail
        refine (kh wr).mono ?_
        rintro e w2 ⟨rfl, hb2⟩
        have hBB := hB.trans (hb2.mono hB.size)
        clear q0 q1 kh ha
        go_wp2_with fail
        go_ret2
        exact ⟨rfl, hBB⟩
    · exfalso
      obtain ⟨j, h1, h2⟩ := HAA.out
      exact h2 (HALL.out j (by omega))
end Go.Proofs.Ytlhjacgocggbcaa
