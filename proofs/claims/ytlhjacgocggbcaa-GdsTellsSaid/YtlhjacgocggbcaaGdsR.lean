/- Printed by gen_gdsR.py. The walks of the references' Same and Numbers. -/
import Derived.Test.YtlhjacgocggbcaaGdsQ
set_option linter.unusedVariables false
set_option maxRecDepth 100000
set_option maxHeartbeats 1000000
namespace Go.Proofs.Ytlhjacgocggbcaa
open Go.RowKit Go.Shelf
attribute [local go_sem ↓] lt_alloc

def SameK (n m : Nat) (Z Y : Nat → Int) : Prop := n = m ∧ ∀ i, i < n → Z i = Y i
instance (n m : Nat) (Z Y : Nat → Int) : Decidable (SameK n m Z Y) := by unfold SameK; infer_instance
theorem ref8_Same {sa ta : Option Addr} {n m sc tc : Nat} {Z Y : Nat → Int} (w : World) (iZ : IsK .i64 w sa n Z) (iY : IsK .i64 w ta m Y) :
    Calls Try.prog 24 #[.slice sa n sc, .slice ta m tc] w fun e w' => e = .returned (.bool (decide (SameK n m Z Y))) ∧ Below w.heap.size w w' := by
  obtain ⟨r, hr⟩ : ∃ r, decide (SameK n m Z Y) = r := ⟨_, rfl⟩
  rw [hr]
  have HR := Lib.hid hr
  clear hr
  by_cases hnm : n = m
  · subst hnm
    have IZ := Lib.hid iZ
    have IY := Lib.hid iY
    clear iZ iY
    go_enter Try.func24, Try.ntmps24
    go_wp2_with fail
    go_loopw [5] (fun iv wr => ∃ i : Nat, i ≤ n ∧ iv = .int .i64 i ∧ Below w.heap.size w wr ∧ ∀ j, j < i → Z j = Y j) (fun iv _ => n - (intOf iv).toNat)
    case atStart => exact ⟨0, Nat.zero_le _, rfl, Below.refl _ _, fun j hj => absurd hj (Nat.not_lt_zero j)⟩
    case round =>
      obtain ⟨i, hi, rfl, hB, hall⟩ := hrel
      have HALL := Lib.hid hall
      clear hall
      by_cases hlt : i < n
      · obtain ⟨ab, ao, rfl, _, ha⟩ := (IZ.out.below hB).row hlt
        obtain ⟨bb, bo, rfl, _, hb⟩ := (IY.out.below hB).row hlt
        have p1 := Under.cell ha
        have p2 := Under.cell hb
        by_cases he : Z i = Y i
        · have he' : (Z i == Y i) = true := by simpa using he
          have HE := Lib.hid he
          rw [he] at p1
          clear ha hb he he'
          generalize hy : Y i = y at *
          have he' : (y == y) = true := by simp
          go_wp2_with fail
          (refine region_under (by kernel_rfl) (by kernel_rfl) ?_; (repeat (first | go_big_quiet_step ((fail)) | quiet_step ((fail)))); refine wpQuiet_nil ?_; intro _ hw'; obtain ⟨x, hw''⟩ := hw'; subst hw''; go_wp2_with fail)
          refine ⟨⟨i + 1, by omega, by go_num, hB.trans (x.2.mono hB.size), fun j hj => ?_⟩, by simp [intOf]; omega⟩
          rcases Nat.lt_succ_iff_lt_or_eq.1 hj with h | rfl
          · exact HALL.out j h
          · rw [hy]; exact HE.out
        · have HF := Lib.hid (show r = false by rw [← HR.out]; exact decide_eq_false fun h => he (h.2 i hlt))
          have he' : (Z i == Y i) = false := by simpa using he
          have he2 : (Z i != Y i) = true := by simpa using he
          clear ha hb
          generalize Y i = y at *
          generalize Z i = z at *
          go_wp2_with fail
          (refine region_under (by kernel_rfl) (by kernel_rfl) ?_; (repeat (first | go_big_quiet_step ((fail)) | quiet_step ((fail)))); refine wpQuiet_nil ?_; intro _ hw'; obtain ⟨x, hw''⟩ := hw'; subst hw''; go_wp2_with fail)
          go_ret
          exact ⟨by rw [HF.out]; rfl, hB.trans (x.2.mono hB.size)⟩
      · obtain rfl : n = i := by omega
        have HT := Lib.hid (show r = true by rw [← HR.out]; exact decide_eq_true ⟨rfl, HALL.out⟩)
        go_wp2_with fail
        go_ret
        exact ⟨by rw [HT.out]; rfl, hB⟩
  · have HF := Lib.hid (show r = false by rw [← HR.out]; exact decide_eq_false fun h => hnm h.1)
    have hn' : ((n : Int) == m) = false := by simp; omega
    clear iZ iY
    go_enter Try.func24, Try.ntmps24
    go_wp2_with fail
    go_ret
    exact ⟨by rw [HF.out]; rfl, Below.refl _ _⟩
theorem ref18_Numbers {sa ta : Option Addr} {n m sc tc : Nat} {Z Y : Nat → Int} (w : World) (iZ : IsK .u64 w sa n Z) (iY : IsK .u64 w ta m Y) :
    Calls Try.prog 17 #[.slice sa n sc, .slice ta m tc] w fun e w' => e = .returned (.bool (decide (SameK n m Z Y))) ∧ Below w.heap.size w w' := by
  obtain ⟨r, hr⟩ : ∃ r, decide (SameK n m Z Y) = r := ⟨_, rfl⟩
  rw [hr]
  have HR := Lib.hid hr
  clear hr
  by_cases hnm : n = m
  · subst hnm
    have IZ := Lib.hid iZ
    have IY := Lib.hid iY
    clear iZ iY
    go_enter Try.func17, Try.ntmps17
    go_wp2_with fail
    go_loopw [5] (fun iv wr => ∃ i : Nat, i ≤ n ∧ iv = .int .i64 i ∧ Below w.heap.size w wr ∧ ∀ j, j < i → Z j = Y j) (fun iv _ => n - (intOf iv).toNat)
    case atStart => exact ⟨0, Nat.zero_le _, rfl, Below.refl _ _, fun j hj => absurd hj (Nat.not_lt_zero j)⟩
    case round =>
      obtain ⟨i, hi, rfl, hB, hall⟩ := hrel
      have HALL := Lib.hid hall
      clear hall
      by_cases hlt : i < n
      · obtain ⟨ab, ao, rfl, _, ha⟩ := (IZ.out.below hB).row hlt
        obtain ⟨bb, bo, rfl, _, hb⟩ := (IY.out.below hB).row hlt
        have p1 := Under.cell ha
        have p2 := Under.cell hb
        by_cases he : Z i = Y i
        · have he' : (Z i == Y i) = true := by simpa using he
          have HE := Lib.hid he
          rw [he] at p1
          clear ha hb he he'
          generalize hy : Y i = y at *
          have he' : (y == y) = true := by simp
          go_wp2_with fail
          (refine region_under (by kernel_rfl) (by kernel_rfl) ?_; (repeat (first | go_big_quiet_step ((fail)) | quiet_step ((fail)))); refine wpQuiet_nil ?_; intro _ hw'; obtain ⟨x, hw''⟩ := hw'; subst hw''; go_wp2_with fail)
          refine ⟨⟨i + 1, by omega, by go_num, hB.trans (x.2.mono hB.size), fun j hj => ?_⟩, by simp [intOf]; omega⟩
          rcases Nat.lt_succ_iff_lt_or_eq.1 hj with h | rfl
          · exact HALL.out j h
          · rw [hy]; exact HE.out
        · have HF := Lib.hid (show r = false by rw [← HR.out]; exact decide_eq_false fun h => he (h.2 i hlt))
          have he' : (Z i == Y i) = false := by simpa using he
          have he2 : (Z i != Y i) = true := by simpa using he
          clear ha hb
          generalize Y i = y at *
          generalize Z i = z at *
          go_wp2_with fail
          (refine region_under (by kernel_rfl) (by kernel_rfl) ?_; (repeat (first | go_big_quiet_step ((fail)) | quiet_step ((fail)))); refine wpQuiet_nil ?_; intro _ hw'; obtain ⟨x, hw''⟩ := hw'; subst hw''; go_wp2_with fail)
          go_ret
          exact ⟨by rw [HF.out]; rfl, hB.trans (x.2.mono hB.size)⟩
      · obtain rfl : n = i := by omega
        have HT := Lib.hid (show r = true by rw [← HR.out]; exact decide_eq_true ⟨rfl, HALL.out⟩)
        go_wp2_with fail
        go_ret
        exact ⟨by rw [HT.out]; rfl, hB⟩
  · have HF := Lib.hid (show r = false by rw [← HR.out]; exact decide_eq_false fun h => hnm h.1)
    have hn' : ((n : Int) == m) = false := by simp; omega
    clear iZ iY
    go_enter Try.func17, Try.ntmps17
    go_wp2_with fail
    go_ret
    exact ⟨by rw [HF.out]; rfl, Below.refl _ _⟩
theorem sameK_list (a b : List Nat) : decide (SameK a.length b.length (fun k => (a.getD k 0 : Nat)) (fun k => (b.getD k 0 : Nat))) = decide (a = b) := by
  rw [decide_eq_decide]
  constructor
  · rintro ⟨h1, h2⟩
    apply List.ext_getElem h1
    intro i hi hi'
    have h := h2 i hi
    simp only [List.getD_eq_getElem?_getD, List.getElem?_eq_getElem hi, List.getElem?_eq_getElem hi', Option.getD_some] at h
    omega
  · rintro rfl
    exact ⟨rfl, fun _ _ => rfl⟩
theorem ref8_outs {v u : Value} {a b : List Nat} {B B' : Nat} (w : World) (h : OutsAt B w v a) (k : OutsAt B' w u b) :
    Calls Try.prog 24 #[v, u] w fun e w' => e = .returned (.bool (decide (a = b))) ∧ Below w.heap.size w w' := by
  obtain ⟨a1, c1, rfl, i1, _⟩ := h
  obtain ⟨a2, c2, rfl, i2, _⟩ := k
  rw [← sameK_list]
  exact ref8_Same w i1 i2
def SameS (n m : Nat) (H : Nat → Bool) (O : Nat → List Nat) (H' : Nat → Bool) (O' : Nat → List Nat) : Prop := n = m ∧ ∀ i, i < n → O i = O' i ∧ H i = H' i
instance (n m : Nat) (H : Nat → Bool) (O : Nat → List Nat) (H' : Nat → Bool) (O' : Nat → List Nat) : Decidable (SameS n m H O H' O') := by unfold SameS; infer_instance
theorem IsS.row {w : World} {a : Option Addr} {m : Nat} {H : Nat → Bool} {O : Nat → List Nat} (h : IsS w a m H O) {i : Nat} (hi : i < m) : ∃ b off, a = some ⟨b, off, none⟩ ∧ m ≤ 9223372036854775807 ∧ w.cell? ⟨b, off + i * 2, none⟩ = some (.bool (H i)) ∧ ∃ oa oc, w.cell? ⟨b, off + i * 2 + 1, none⟩ = some (.slice oa (O i).length oc) ∧ IsK .i64 w oa (O i).length (fun k => ((O i).getD k 0 : Nat)) := by
  rcases h with h | ⟨b, off, h1, h2, h3⟩
  · omega
  · obtain ⟨a1, ov, a2, oa, oc, rfl, a3, _⟩ := h3 i hi
    exact ⟨b, off, h1, h2, a1, oa, oc, a2, a3⟩
theorem ref18_Same {sa ta : Option Addr} {n m sc tc : Nat} {H H' : Nat → Bool} {O O' : Nat → List Nat} (w : World) (iZ : IsS w sa n H O) (iY : IsS w ta m H' O') :
    Calls Try.prog 12 #[.slice sa n sc, .slice ta m tc] w fun e w' => e = .returned (.bool (decide (SameS n m H O H' O'))) ∧ Below w.heap.size w w' := by
  obtain ⟨r, hr⟩ : ∃ r, decide (SameS n m H O H' O') = r := ⟨_, rfl⟩
  rw [hr]
  have HR := Lib.hid hr
  clear hr
  by_cases hnm : n = m
  · subst hnm
    have IZ := Lib.hid iZ
    have IY := Lib.hid iY
    clear iZ iY
    go_enter Try.func12, Try.ntmps12
    go_wp2_with fail
    go_loopw [5] (fun iv wr => ∃ i : Nat, i ≤ n ∧ iv = .int .i64 i ∧ Below w.heap.size w wr ∧ ∀ j, j < i → O j = O' j ∧ H j = H' j) (fun iv _ => n - (intOf iv).toNat)
    case atStart => exact ⟨0, Nat.zero_le _, rfl, Below.refl _ _, fun j hj => absurd hj (Nat.not_lt_zero j)⟩
    case round =>
      obtain ⟨i, hi, rfl, hB, hall⟩ := hrel
      have HALL := Lib.hid hall
      clear hall
      by_cases hlt : i < n
      · obtain ⟨ab, ao, rfl, _, ha, oa, oc, ha2, hoa⟩ := (IZ.out.below hB).row hlt
        obtain ⟨bb, bo, rfl, _, hb, ob, od, hb2, hob⟩ := (IY.out.below hB).row hlt
        have p1 := Under.cell ha
        have p2 := Under.cell hb
        have p3 := Under.cell ha2
        have p4 := Under.cell hb2
        have kS := fun x : Under wr => ref8_outs x.w (B := 0) (B' := 0) (a := O i) (b := O' i) ⟨oa, oc, rfl, hoa.below x.2, fun _ _ _ => Nat.zero_le _⟩ ⟨ob, od, rfl, hob.below x.2, fun _ _ _ => Nat.zero_le _⟩
        by_cases he : O i = O' i
        · have HO := Lib.hid he
          rw [decide_eq_true he] at kS
          clear hoa hob he
          by_cases hh : H i = H' i
          · have HH := Lib.hid hh
            rw [hh] at p1
            generalize (O i).length = l1 at *
            generalize (O' i).length = l2 at *
            clear ha hb ha2 hb2 hh
            generalize hbe : H' i = b at *
            have hbb : (b == b) = true := by simp
            go_wp2_with fail
            (refine region_under (by kernel_rfl) (by kernel_rfl) ?_; (repeat (first | go_big_quiet_step ((go_at_call 24; with_reducible exact quietU (kS _))) | quiet_step ((go_at_call 24; with_reducible exact quietU (kS _))))); refine wpQuiet_nil ?_; intro _ hw'; obtain ⟨x, hw''⟩ := hw'; subst hw''; go_wp2_with fail)
            refine forget (fun V => Below wr.heap.size wr V) x.2 ?_
            intro V hV
            have e1 : V.cell? ⟨ab, ao + i * 2, none⟩ = some (.bool b) := p1 ⟨V, hV⟩
            have e2 : V.cell? ⟨bb, bo + i * 2, none⟩ = some (.bool b) := p2 ⟨V, hV⟩
            have q1 := Under.cell e1
            have q2 := Under.cell e2
            clear p1 p2 p3 p4 kS
            (refine region_under (by kernel_rfl) (by kernel_rfl) ?_; (repeat (first | go_big_quiet_step ((fail)) | quiet_step ((fail)))); refine wpQuiet_nil ?_; intro _ hw'; obtain ⟨x, hw''⟩ := hw'; subst hw''; go_wp2_with fail)
            refine ⟨⟨i + 1, by omega, by go_num, hB.trans ((hV.trans (x.2.mono hV.size)).mono hB.size), fun j hj => ?_⟩, by simp [intOf]; omega⟩
            rcases Nat.lt_succ_iff_lt_or_eq.1 hj with h | rfl
            · exact HALL.out j h
            · exact ⟨HO.out, HH.out.trans hbe.symm⟩
          · have HF := Lib.hid (show r = false by rw [← HR.out]; exact decide_eq_false fun h => hh (h.2 i hlt).2)
            generalize (O i).length = l1 at *
            generalize (O' i).length = l2 at *
            clear ha hb ha2 hb2
            generalize H' i = b at *
            generalize H i = c at *
            have hbb : (c == b) = false := by simpa using hh
            have hb2 : (c != b) = true := by simpa using hh
            go_wp2_with fail
            (refine region_under (by kernel_rfl) (by kernel_rfl) ?_; (repeat (first | go_big_quiet_step ((go_at_call 24; with_reducible exact quietU (kS _))) | quiet_step ((go_at_call 24; with_reducible exact quietU (kS _))))); refine wpQuiet_nil ?_; intro _ hw'; obtain ⟨x, hw''⟩ := hw'; subst hw''; go_wp2_with fail)
            refine forget (fun V => Below wr.heap.size wr V) x.2 ?_
            intro V hV
            have e1 : V.cell? ⟨ab, ao + i * 2, none⟩ = some (.bool c) := p1 ⟨V, hV⟩
            have e2 : V.cell? ⟨bb, bo + i * 2, none⟩ = some (.bool b) := p2 ⟨V, hV⟩
            have q1 := Under.cell e1
            have q2 := Under.cell e2
            clear p1 p2 p3 p4 kS
            (refine region_under (by kernel_rfl) (by kernel_rfl) ?_; (repeat (first | go_big_quiet_step ((fail)) | quiet_step ((fail)))); refine wpQuiet_nil ?_; intro _ hw'; obtain ⟨x, hw''⟩ := hw'; subst hw''; go_wp2_with fail)
            go_ret
            exact ⟨by rw [HF.out]; rfl, hB.trans ((hV.trans (x.2.mono hV.size)).mono hB.size)⟩
        · have HF := Lib.hid (show r = false by rw [← HR.out]; exact decide_eq_false fun h => he (h.2 i hlt).1)
          rw [decide_eq_false he] at kS
          clear hoa hob he
          generalize (O i).length = l1 at *
          generalize (O' i).length = l2 at *
          clear ha hb ha2 hb2
          go_wp2_with fail
          (refine region_under (by kernel_rfl) (by kernel_rfl) ?_; (repeat (first | go_big_quiet_step ((go_at_call 24; with_reducible exact quietU (kS _))) | quiet_step ((go_at_call 24; with_reducible exact quietU (kS _))))); refine wpQuiet_nil ?_; intro _ hw'; obtain ⟨x, hw''⟩ := hw'; subst hw''; go_wp2_with fail)
          refine forget (fun V => Below wr.heap.size wr V) x.2 ?_
          intro V hV
          clear p1 p2 p3 p4 kS
          (refine region_under (by kernel_rfl) (by kernel_rfl) ?_; (repeat (first | go_big_quiet_step ((fail)) | quiet_step ((fail)))); refine wpQuiet_nil ?_; intro _ hw'; obtain ⟨x, hw''⟩ := hw'; subst hw''; go_wp2_with fail)
          go_ret
          exact ⟨by rw [HF.out]; rfl, hB.trans ((hV.trans (x.2.mono hV.size)).mono hB.size)⟩
      · obtain rfl : n = i := by omega
        have HT := Lib.hid (show r = true by rw [← HR.out]; exact decide_eq_true ⟨rfl, HALL.out⟩)
        go_wp2_with fail
        go_ret
        exact ⟨by rw [HT.out]; rfl, hB⟩
  · have HF := Lib.hid (show r = false by rw [← HR.out]; exact decide_eq_false fun h => hnm h.1)
    have hn' : ((n : Int) == m) = false := by simp; omega
    clear iZ iY
    go_enter Try.func12, Try.ntmps12
    go_wp2_with fail
    go_ret
    exact ⟨by rw [HF.out]; rfl, Below.refl _ _⟩
end Go.Proofs.Ytlhjacgocggbcaa
