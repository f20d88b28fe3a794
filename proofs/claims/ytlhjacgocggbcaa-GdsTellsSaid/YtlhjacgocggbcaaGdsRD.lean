/- The walk of the reference's Paid. -/
import Derived.Test.YtlhjacgocggbcaaGdsRA
set_option linter.unusedVariables false
set_option maxRecDepth 100000
set_option maxHeartbeats 2000000
namespace Go.Proofs.Ytlhjacgocggbcaa
open Go.RowKit Go.Shelf
attribute [local go_sem ↓] lt_alloc

theorem paidS_past {Z C : Nat → Int} {n nc ml : Nat} {A : Nat → Int} {H : Nat → Bool} {i : Nat} (h : ml ≤ i) : ∀ d, paidS Z C n nc ml A H (i + d) = paidS Z C n nc ml A H i
  | 0 => rfl
  | d + 1 => by
    have e : paidS Z C n nc ml A H (i + d + 1) = if paidB n nc ml A H (i + d) = true then addS (paidS Z C n nc ml A H (i + d)) (payOne Z C (A (i + d)).toNat) else paidS Z C n nc ml A H (i + d) := rfl
    rw [← Nat.add_assoc, e, if_neg (by unfold paidB; simp; omega)]
    exact paidS_past h d
theorem ref18_Paid {sa ca aa la : Option Addr} {n nc m ml cs cc ac lc : Nat} {Z C A : Nat → Int} {H : Nat → Bool} {O : Nat → List Nat} (hZ : InK .i64 Z) (hC : InK .i64 C) (w : World) (iZ : IsK .i64 w sa n Z) (iC : IsK .i64 w ca nc C) (iA : IsK .i64 w aa m A) (iL : IsS w la ml H O) (hml : ml ≤ 1000000) (hm : m ≤ 1000000) :
    Calls Try.prog 14 #[.slice sa n cs, .slice ca nc cc, .slice aa m ac, .slice la ml lc] w fun e w' => e = .returned (.int .u64 (paidS Z C n nc ml A H m)) ∧ Below w.heap.size w w' := by
  have HZ := Lib.hid hZ
  have HC := Lib.hid hC
  have IZ := Lib.hid iZ
  have IC := Lib.hid iC
  have IA := Lib.hid iA
  have IL := Lib.hid iL
  obtain ⟨r, hr⟩ : ∃ r, paidS Z C n nc ml A H m = r := ⟨_, rfl⟩
  rw [hr]
  have HR := Lib.hid hr
  clear hZ hC iZ iC iA iL hr
  go_enter Try.func14, Try.ntmps14
  go_wp2_with fail
  go_loopw [9, 10] (fun sv iv wr => ∃ i : Nat, i ≤ m ∧ iv = .int .i64 i ∧ sv = .int .u64 (paidS Z C n nc ml A H i) ∧ Below w.heap.size w wr) (fun _ iv _ => m - (intOf iv).toNat)
  case atStart => exact ⟨0, Nat.zero_le _, rfl, rfl, Below.refl _ _⟩
  case round =>
    obtain ⟨i, hi, rfl, rfl, hB⟩ := hrel
    have hb0 := paidS_bd Z C HZ.out HC.out n nc ml A H i
    have hst : paidS Z C n nc ml A H (i + 1) = if paidB n nc ml A H i = true then addS (paidS Z C n nc ml A H i) (payOne Z C (A i).toNat) else paidS Z C n nc ml A H i := rfl
    by_cases hlt : i < m
    · obtain ⟨ab, ao, rfl, _, ha⟩ := (IA.out.below hB).row hlt
      by_cases hil : i < ml
      · have hl : ∃ lb lo, la = some ⟨lb, lo, none⟩ ∧ wr.cell? ⟨lb, lo + i * 2, none⟩ = some (.bool (H i)) := by
          rcases IL.out.below hB with h | ⟨lb, lo, h1, _, h3⟩
          · omega
          · exact ⟨lb, lo, h1, (h3 i hil).1⟩
        obtain ⟨lb, lo, rfl, hl⟩ := hl
        have hil' : decide ((i : Int) < ml) = true := decide_eq_true (by omega)
        by_cases hh : H i = true
        · have HS := Lib.hid (show paidS Z C n nc ml A H i = paidS Z C n nc ml A H (i + 1) by rw [hst, if_neg (by unfold paidB; simp [hh])])
          rw [hh] at hl
          clear hst hh
          go_wp2_with fail
          exact ⟨⟨i + 1, by omega, by go_num, by rw [HS.out], hB⟩, by simp [intOf]; omega⟩
        · have hh : H i = false := by simpa using hh
          rw [hh] at hl
          by_cases hha : hasB n nc (A i) = true
          · have hHa := hha
            unfold hasB at hHa
            simp only [Bool.and_eq_true, decide_eq_true_eq] at hHa
            obtain ⟨⟨h1, h2⟩, h3⟩ := hHa
            obtain ⟨id, hid⟩ : ∃ id : Nat, A i = id := ⟨(A i).toNat, by omega⟩
            have HS := Lib.hid (show addS (paidS Z C n nc ml A H i) (mulS (ofS (Z id)) (wgtO Z C id)) = paidS Z C n nc ml A H (i + 1) by
              rw [hst, if_pos (by unfold paidB; simp [hh, hha, hil]), hid]; rfl)
            rw [hid] at ha h1 h2 h3
            have hp1 := payOne_0 Z C HZ.out HC.out id
            have e5 : payOne Z C id = mulS (ofS (Z id)) (wgtO Z C id) := rfl
            rw [e5] at hp1
            clear hst hh hha hid e5
            have hz := HZ.out.i64 id
            have b1 := ofS_bd (Z id) hz.2
            have b2 := wgtO_bd HZ.out HC.out id
            have k1 := fun w => ref_Of (Z id) hz.1 hz.2 w
            have k2 := fun (x : Under wr) => ref18_weight (cs := cs) (cc := cc) (i := id) HZ.out HC.out (by omega) (by omega) x.w ((IZ.out.below hB).below x.2) ((IC.out.below hB).below x.2)
            have k3 := fun w => ref_Mul (ofS (Z id)) (wgtO Z C id) b1.1 b2.1 w
            have k4 := fun w => ref_Add (paidS Z C n nc ml A H i) (mulS (ofS (Z id)) (wgtO Z C id)) hb0.1 hp1.1 hp1.2 w
            obtain ⟨sb, so, rfl, _, hzr⟩ := (IZ.out.below hB).row (i := id) (by omega)
            have p0 := Under.cell ha
            have p1 := Under.cell hl
            have p2 := Under.cell hzr
            generalize mulS (ofS (Z id)) (wgtO Z C id) = v at *
            generalize wgtO Z C id = u at *
            generalize ofS (Z id) = y at *
            generalize Z id = z at *
            generalize paidS Z C n nc ml A H i = s at *
            go_wp2_with (go_at_call 31; refine (k1 _).mono ?_; rintro e w' ⟨rfl, rfl⟩)
            refine (k2 ⟨wr, Below.refl _ _⟩).mono ?_
            rintro e w2 ⟨rfl, hb⟩
            have HB2 := Lib.hid (hB.trans (hb.mono hB.size))
            clear hb
            go_wp2_with (first | (go_at_call 30; refine (k3 _).mono ?_; rintro e w' ⟨rfl, rfl⟩) | (go_at_call 29; refine (k4 _).mono ?_; rintro e w' ⟨rfl, rfl⟩))
            exact ⟨⟨i + 1, by omega, by go_num, by rw [HS.out], HB2.out⟩, by simp [intOf]; omega⟩
          · have hha : hasB n nc (A i) = false := by simpa using hha
            have HS := Lib.hid (show paidS Z C n nc ml A H i = paidS Z C n nc ml A H (i + 1) by rw [hst, if_neg (by unfold paidB; simp [hha])])
            have hor : A i < 0 ∨ (n : Int) ≤ A i ∨ (nc : Int) ≤ A i := by
              rcases Int.lt_or_le (A i) 0 with h | h
              · exact Or.inl h
              · rcases Int.lt_or_le (A i) n with h' | h'
                · rcases Int.lt_or_le (A i) nc with h2 | h2
                  · exfalso
                    have : hasB n nc (A i) = true := by unfold hasB; simp; omega
                    rw [hha] at this; cases this
                  · exact Or.inr (Or.inr h2)
                · exact Or.inr (Or.inl h')
            clear hst hh hha
            generalize A i = z at *
            by_cases d1 : z < 0
            · have e1 : decide (z < 0) = true := decide_eq_true d1
              clear hor d1
              go_wp2_with fail
              exact ⟨⟨i + 1, by omega, by go_num, by rw [HS.out], hB⟩, by simp [intOf]; omega⟩
            · have e1 : decide (z < 0) = false := decide_eq_false d1
              by_cases d2 : (n : Int) ≤ z
              · have e2 : decide ((n : Int) ≤ z) = true := decide_eq_true d2
                clear hor d1 d2
                go_wp2_with fail
                exact ⟨⟨i + 1, by omega, by go_num, by rw [HS.out], hB⟩, by simp [intOf]; omega⟩
              · have e2 : decide ((n : Int) ≤ z) = false := decide_eq_false d2
                have e3 : decide ((nc : Int) ≤ z) = true := decide_eq_true (by omega)
                clear hor d1 d2
                go_wp2_with fail
                exact ⟨⟨i + 1, by omega, by go_num, by rw [HS.out], hB⟩, by simp [intOf]; omega⟩
      · have hil' : decide ((i : Int) < ml) = false := decide_eq_false (by omega)
        have HS := Lib.hid (show paidS Z C n nc ml A H i = r by
          have := paidS_past (Z := Z) (C := C) (n := n) (nc := nc) (A := A) (H := H) (show ml ≤ i by omega) (m - i)
          rw [← HR.out, ← this]; congr 1; omega)
        clear hst
        go_wp2_with fail
        go_ret
        exact ⟨by rw [HS.out]; rfl, hB⟩
    · obtain rfl : m = i := by omega
      clear hst
      go_wp2_with fail
      go_ret
      first | exact ⟨rfl, hB⟩ | exact ⟨by rw [HR.out]; rfl, hB⟩
end Go.Proofs.Ytlhjacgocggbcaa
