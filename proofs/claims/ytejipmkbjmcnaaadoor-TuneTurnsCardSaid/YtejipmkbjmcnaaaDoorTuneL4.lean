/- The walk of TuneTurns. -/
import Derived.Test.YtejipmkbjmcnaaaDoorTuneL1
import Derived.Test.YtejipmkbjmcnaaaDoorTuneX
set_option linter.unusedVariables false
set_option maxRecDepth 100000
set_option maxHeartbeats 4000000
namespace Go.Proofs.YtejipmkbjmcnaaaDoor
open Go.RowKit Go.Shelf
attribute [local go_sem ↓] lt_alloc

theorem turns_main {p : Option Addr} {n cap : Nat} {l : List Sn} {a b : ByteArray} {s t : Int} (hn : l.length = n) (hmay : mayW l) (hf : FewP l 30) (ha : a.size ≤ 100) (hb : b.size ≤ 100) (w : World) (hP : PW w) (iW : IsW w p l) :
    Calls Tryd.prog 9 #[.slice p n cap, .string a, .int .i64 s, .string b, .int .i64 t] w fun e w' => e = .returned (.bool true) ∧ Below w.heap.size w w' := by
  have kw := fun w iW => ref21_Few (a := p) (cap := cap) (most := 30) hn w iW
  rw [decide_eq_true hf] at kw
  have kc := fun w iW => tune_Check (a := p) (cap := cap) hn w iW
  rw [decide_eq_true hmay] at kc
  have hn30 : n ≤ 30 := by have := hf.2; omega
  have l1 := noteW_len (key := a) (size := s) hmay
  have l2 := noteW_len (key := b) (size := t) hmay
  have l3 := noteW_len (key := b) (size := t) (noteW_may (key := a) (size := s) hmay)
  have l4 := noteW_len (key := a) (size := s) (noteW_may (key := b) (size := t) hmay)
  have hcomm : a ≠ b → noteW (noteW l a s) b t = noteW (noteW l b t) a s := fun h => noteW_turns hmay (by omega) h
  obtain ⟨N1, hN1⟩ : ∃ N1, (noteW l a s).length = N1 := ⟨_, rfl⟩
  obtain ⟨N2, hN2⟩ : ∃ N2, (noteW l b t).length = N2 := ⟨_, rfl⟩
  obtain ⟨N3, hN3⟩ : ∃ N3, (noteW (noteW l a s) b t).length = N3 := ⟨_, rfl⟩
  obtain ⟨N4, hN4⟩ : ∃ N4, (noteW (noteW l b t) a s).length = N4 := ⟨_, rfl⟩
  rw [hN1, hn] at l1
  rw [hN2, hn] at l2
  rw [hN3, hN1] at l3
  rw [hN4, hN2] at l4
  have k1 := fun w iW => tune_Note (a := p) (cap := cap) (key := a) (size := s) hn (by omega) w iW
  have k2 := fun q c w iW => tune_Note (a := q) (cap := c) (key := b) (size := t) hN1 (by omega) w iW
  have k3 := fun w iW => tune_Note (a := p) (cap := cap) (key := b) (size := t) hn (by omega) w iW
  have k4 := fun q c w iW => tune_Note (a := q) (cap := c) (key := a) (size := s) hN2 (by omega) w iW
  have ks := fun q r c d w i1 i2 => ref21_Same (a := q) (b := r) (ca := c) (cb := d) hN3 hN4 w i1 i2
  have H1 := Lib.hid hN1
  have H2 := Lib.hid hN2
  have H3 := Lib.hid hN3
  have H4 := Lib.hid hN4
  have K1 := Lib.hid k1
  have K2 := Lib.hid k2
  have K3 := Lib.hid k3
  have K4 := Lib.hid k4
  have KS := Lib.hid ks
  have KW := Lib.hid kw
  have KC := Lib.hid kc
  have HP := Lib.hid hP
  have IW := Lib.hid iW
  have HCM := Lib.hid hcomm
  have d1 : decide ((100 : Int) < a.size) = false := decide_eq_false (by omega)
  have d2 : decide (100 < a.size) = false := decide_eq_false (by omega)
  have d3 : decide ((100 : Int) < b.size) = false := decide_eq_false (by omega)
  have d4 : decide (100 < b.size) = false := decide_eq_false (by omega)
  have d5 : decide ((N3 : Int) - n ≤ 2) = true := decide_eq_true (by omega)
  have d6 : decide (n ≤ N3) = true := decide_eq_true (by omega)
  have d7 : decide ((n : Int) ≤ N3) = true := decide_eq_true (by omega)
  clear hN1 hN2 hN3 hN4 k1 k2 k3 k4 ks kw kc hP iW hf hmay hn ha hb hcomm
  go_enter Tryd.func9, Tryd.ntmps9
  go_wp2_with fail
  refine (law21_awake w HP.out).mono ?_
  rintro e w1 ⟨rfl, hb⟩
  have B1 := Lib.hid hb
  clear hb
  go_wp2_with fail
  refine (KW.out _ (IW.out.below B1.out)).mono ?_
  rintro e w2 ⟨rfl, hb⟩
  have B2 := Lib.hid (B1.out.trans (hb.mono B1.out.size))
  clear hb B1
  go_wp2_with fail
  refine (KC.out _ (IW.out.below B2.out)).mono ?_
  rintro e w3 ⟨rfl, hb⟩
  have B3 := Lib.hid (B2.out.trans (hb.mono B2.out.size))
  clear hb B2
  go_wp2_with fail
  refine (K1.out _ (IW.out.below B3.out)).mono ?_
  intro e w4 h
  obtain ⟨a1, c1, rfl, hc1, hW, hb⟩ := noteE H1.out h
  have I1 := Lib.hid hW
  have B4 := Lib.hid (B3.out.trans (hb.mono B3.out.size))
  clear h hW hb B3
  go_wp2_with fail
  refine (K2.out _ _ _ I1.out).mono ?_
  intro e w5 h
  obtain ⟨a2, c2, rfl, hc2, hW, hb⟩ := noteE H3.out h
  have I2 := Lib.hid hW
  have B5 := Lib.hid (B4.out.trans (hb.mono B4.out.size))
  clear h hW hb B4 I1
  go_wp2_with fail
  refine (K3.out _ (IW.out.below B5.out)).mono ?_
  intro e w6 h
  obtain ⟨a3, c3, rfl, hc3, hW, hb⟩ := noteE H2.out h
  have I3 := Lib.hid hW
  have I2b := Lib.hid (I2.out.below hb)
  have B6 := Lib.hid (B5.out.trans (hb.mono B5.out.size))
  clear h hW hb B5 I2
  go_wp2_with fail
  refine (K4.out _ _ _ I3.out).mono ?_
  intro e w7 h
  obtain ⟨a4, c4, rfl, hc4, hW, hb⟩ := noteE H4.out h
  have I4 := Lib.hid hW
  have I2c := Lib.hid (I2b.out.below hb)
  have B7 := Lib.hid (B6.out.trans (hb.mono B6.out.size))
  clear h hW hb B6 I3 I2b
  by_cases hab : a = b
  · have e1 : (a.toList == b.toList) = true := by rw [hab]; simp
    clear hab
    go_wp2_with fail
    go_ret
    exact ⟨rfl, B7.out⟩
  · have e1 : (a.toList == b.toList) = false := by
      cases h : (a.toList == b.toList)
      · rfl
      · exact absurd (eqB_iff.1 h) hab
    have hs := HCM.out hab
    have ks := KS.out a2 a4 c2 c4 w7 I2c.out I4.out
    rw [decide_eq_true (by rw [hs]; exact SameP.refl _)] at ks
    clear hab hs
    go_wp2_with fail
    refine ks.mono ?_
    rintro e w8 ⟨rfl, hb⟩
    have B8 := Lib.hid (B7.out.trans (hb.mono B7.out.size))
    clear hb ks
    go_wp2_with fail
    go_ret
    exact ⟨rfl, B8.out⟩
theorem turns_walk {p : Option Addr} {n cap : Nat} {l : List Sn} {a b : ByteArray} {s t : Int} (hn : l.length = n) (w : World) (hP : PW w) (iW : IsW w p l) :
    Calls Tryd.prog 9 #[.slice p n cap, .string a, .int .i64 s, .string b, .int .i64 t] w fun e w' => e = .returned (.bool true) ∧ Below w.heap.size w w' := by
  have kw := fun w iW => ref21_Few (a := p) (cap := cap) (most := 30) hn w iW
  have kc := fun w iW => tune_Check (a := p) (cap := cap) hn w iW
  have HP := Lib.hid hP
  have IW := Lib.hid iW
  by_cases hf : FewP l 30
  · by_cases ha : a.size ≤ 100
    · by_cases hb : b.size ≤ 100
      · by_cases hmay : mayW l
        · exact turns_main hn hmay hf ha hb w hP iW
        · rw [decide_eq_true hf] at kw
          rw [decide_eq_false hmay] at kc
          have KW := Lib.hid kw
          have KC := Lib.hid kc
          have d1 : decide ((100 : Int) < a.size) = false := decide_eq_false (by omega)
          have d2 : decide (100 < a.size) = false := decide_eq_false (by omega)
          have d3 : decide ((100 : Int) < b.size) = false := decide_eq_false (by omega)
          have d4 : decide (100 < b.size) = false := decide_eq_false (by omega)
          clear kw kc hP iW hf hmay hn ha hb
          go_enter Tryd.func9, Tryd.ntmps9
          go_wp2_with fail
          refine (law21_awake w HP.out).mono ?_
          rintro e w1 ⟨rfl, hb⟩
          have B1 := Lib.hid hb
          clear hb
          go_wp2_with fail
          refine (KW.out _ (IW.out.below B1.out)).mono ?_
          rintro e w2 ⟨rfl, hb⟩
          have B2 := Lib.hid (B1.out.trans (hb.mono B1.out.size))
          clear hb B1
          go_wp2_with fail
          refine (KC.out _ (IW.out.below B2.out)).mono ?_
          rintro e w3 ⟨rfl, hb⟩
          have B3 := Lib.hid (B2.out.trans (hb.mono B2.out.size))
          clear hb B2
          go_wp2_with fail
          go_ret
          exact ⟨rfl, B3.out⟩
      · rw [decide_eq_true hf] at kw
        have KW := Lib.hid kw
        have d1 : decide ((100 : Int) < a.size) = false := decide_eq_false (by omega)
        have d2 : decide (100 < a.size) = false := decide_eq_false (by omega)
        have d3 : decide ((100 : Int) < b.size) = true := decide_eq_true (by omega)
        have d4 : decide (100 < b.size) = true := decide_eq_true (by omega)
        clear kw kc hP iW hf hn ha hb
        go_enter Tryd.func9, Tryd.ntmps9
        go_wp2_with fail
        refine (law21_awake w HP.out).mono ?_
        rintro e w1 ⟨rfl, hb⟩
        have B1 := Lib.hid hb
        clear hb
        go_wp2_with fail
        refine (KW.out _ (IW.out.below B1.out)).mono ?_
        rintro e w2 ⟨rfl, hb⟩
        have B2 := Lib.hid (B1.out.trans (hb.mono B1.out.size))
        clear hb B1
        go_wp2_with fail
        go_ret
        exact ⟨rfl, B2.out⟩
    · rw [decide_eq_true hf] at kw
      have KW := Lib.hid kw
      have d1 : decide ((100 : Int) < a.size) = true := decide_eq_true (by omega)
      have d2 : decide (100 < a.size) = true := decide_eq_true (by omega)
      clear kw kc hP iW hf hn ha
      go_enter Tryd.func9, Tryd.ntmps9
      go_wp2_with fail
      refine (law21_awake w HP.out).mono ?_
      rintro e w1 ⟨rfl, hb⟩
      have B1 := Lib.hid hb
      clear hb
      go_wp2_with fail
      refine (KW.out _ (IW.out.below B1.out)).mono ?_
      rintro e w2 ⟨rfl, hb⟩
      have B2 := Lib.hid (B1.out.trans (hb.mono B1.out.size))
      clear hb B1
      go_wp2_with fail
      go_ret
      exact ⟨rfl, B2.out⟩
  · rw [decide_eq_false hf] at kw
    have KW := Lib.hid kw
    clear kw kc hP iW hf hn
    go_enter Tryd.func9, Tryd.ntmps9
    go_wp2_with fail
    refine (law21_awake w HP.out).mono ?_
    rintro e w1 ⟨rfl, hb⟩
    have B1 := Lib.hid hb
    clear hb
    go_wp2_with fail
    refine (KW.out _ (IW.out.below B1.out)).mono ?_
    rintro e w2 ⟨rfl, hb⟩
    have B2 := Lib.hid (B1.out.trans (hb.mono B1.out.size))
    clear hb B1
    go_wp2_with fail
    go_ret
    exact ⟨rfl, B2.out⟩
end Go.Proofs.YtejipmkbjmcnaaaDoor
