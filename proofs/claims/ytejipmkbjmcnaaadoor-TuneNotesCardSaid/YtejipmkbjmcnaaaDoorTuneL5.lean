/- The walk of TuneNotes. -/
import Derived.Test.YtejipmkbjmcnaaaDoorTuneL1
import Derived.Test.YtejipmkbjmcnaaaDoorTuneY
set_option linter.unusedVariables false
set_option maxRecDepth 100000
set_option maxHeartbeats 4000000
namespace Go.Proofs.YtejipmkbjmcnaaaDoor
open Go.RowKit Go.Shelf
attribute [local go_sem ↓] lt_alloc

/-- Strings, one behind the other. -/
def IsStr (w : World) (a : Option Addr) (n : Nat) (K : Nat → ByteArray) : Prop := n = 0 ∨ ∃ b off, a = some ⟨b, off, none⟩ ∧ n ≤ 9223372036854775807 ∧ ∀ i, i < n → w.cell? ⟨b, off + i, none⟩ = some (.string (K i))
theorem IsStr.below {w w' : World} {a : Option Addr} {n : Nat} {K : Nat → ByteArray} (h : IsStr w a n K) (hb : Below w.heap.size w w') : IsStr w' a n K := by
  rcases h with h | ⟨b, off, h1, h2, h3⟩
  · exact Or.inl h
  · exact Or.inr ⟨b, off, h1, h2, fun i hi => keepB hb (h3 i hi)⟩
theorem IsStr.row {w : World} {a : Option Addr} {n i : Nat} {K : Nat → ByteArray} (h : IsStr w a n K) (hi : i < n) : ∃ b off, a = some ⟨b, off, none⟩ ∧ n ≤ 9223372036854775807 ∧ w.cell? ⟨b, off + i, none⟩ = some (.string (K i)) := by
  rcases h with h | ⟨b, off, h1, h2, h3⟩
  · omega
  · exact ⟨b, off, h1, h2, h3 i hi⟩
section
open Go.ChangeShapes Go.WideShapes
variable {H : Type} {enc : TypeId × Value → H} {P : Program} {w : World} {base : Nat} {spare : Nat → Bool} {held : Bool}
theorem isStr_of {t e : TypeId} (ht : P.underlying t = some (.slice e)) (he : P.underlying e = some .string) (ce : P.cellsOf e = 1) {a : Option Addr} {len cap : Nat} {d : DataW H} {ps : List MemPlace}
    (h : DataW.Trod enc P w base spare held t (.slice a len cap) d ps) : ∃ K : Nat → ByteArray, IsStr w a len K := by
  obtain ⟨n, h⟩ := h
  have h' : DataW.trod enc P w base spare held n t [.slice a len cap] = some (d, ps) := h
  rcases Go.Deep.open_slice ht h' with ⟨h0, _⟩ | ⟨A, len', cap', m, n', D, Pl, hcs, hb, hl, hc, hm, hx, hf⟩
  · simp at h0
    exact ⟨fun _ => ByteArray.empty, Or.inl h0.2.1⟩
  · simp at hcs
    obtain ⟨rfl, rfl, rfl⟩ := hcs
    have hlm : len ≤ m := by rw [hm]; split <;> omega
    have each : ∀ i, i < len → ∃ s : ByteArray, w.cell? (A.add i) = some (.string s) := by
      intro i hi
      obtain ⟨cs', hc', ht'⟩ := hf i (by omega)
      rw [ce, Nat.mul_one] at hc'
      obtain ⟨_, hcl, hat⟩ := World.cells?_some hc'
      obtain ⟨s, rfl, _, _⟩ := DataW.trod_string he ht'
      have a0 := hat 0 (by omega)
      have e : ((A.add i).add 0) = A.add i := by simp [Addr.add]
      rw [e] at a0
      exact ⟨s, a0⟩
    have hne : Inhabited ByteArray := ⟨ByteArray.empty⟩
    obtain ⟨q, hq⟩ := Go.Deep.choose_lt each
    refine ⟨q, ?_⟩
    rcases Nat.eq_zero_or_pos len with hz | hz
    · exact Or.inl hz
    · obtain ⟨b, off, spot⟩ := A
      have hspot : spot = none := by simpa [Addr.add] using World.cell?_spot (hq 0 (by omega))
      subst hspot
      refine Or.inr ⟨b, off, rfl, by unfold maxLen at hc; omega, fun i hi => ?_⟩
      have e0 := hq i hi
      rw [add_plain] at e0
      exact e0
end
theorem ofW_drop {key : ByteArray} {l : List Sn} {i : Nat} (hi : i < l.length) : ofW key (l.drop i) = if eqB (wAt l i).key key = true then (wAt l i).size else ofW key (l.drop (i + 1)) := by
  have e : l.drop i = wAt l i :: l.drop (i + 1) := by
    rw [List.drop_eq_getElem_cons hi]
    have := wAt_of (List.getElem?_eq_getElem hi)
    rw [this]
  rw [e]; rfl
theorem law21_of {a : Option Addr} {n cap : Nat} {l : List Sn} {key : ByteArray} (hn : l.length = n) (w : World) (iW : IsW w a l) :
    Calls Tryd.prog 27 #[.slice a n cap, .string key] w fun e w' => e = .returned (.int .i64 (ofW key l)) ∧ Below w.heap.size w w' := by
  obtain ⟨r, hr⟩ : ∃ r, ofW key l = r := ⟨_, rfl⟩
  rw [hr]
  have HR := Lib.hid hr
  have IW := Lib.hid iW
  have HN := Lib.hid hn
  clear hr iW hn
  go_enter Tryd.func27, Tryd.ntmps27
  go_wp2_with fail
  go_loopw [5] (fun iv wr => ∃ i : Nat, i ≤ n ∧ iv = .int .i64 i ∧ Below w.heap.size w wr ∧ Hid (ofW key (l.drop i) = r)) (fun iv _ => n - (intOf iv).toNat)
  case atStart => exact ⟨0, Nat.zero_le _, rfl, Below.refl _ _, Lib.hid HR.out⟩
  case round =>
    obtain ⟨i, hi, rfl, hB, HD⟩ := hrel
    by_cases hlt : i < n
    · obtain ⟨ab, ao, rfl, h63, a0, a1, _⟩ := (IW.out.below hB).row (i := i) (by rw [HN.out]; exact hlt)
      rw [HN.out] at h63
      have hst := ofW_drop (key := key) (l := l) (i := i) (by rw [HN.out]; exact hlt)
      have HST := Lib.hid hst
      clear hst
      cases he : eqB (wAt l i).key key with
      | true =>
        have HV := Lib.hid (show (wAt l i).size = r by rw [← HD.out, HST.out, if_pos he])
        have e1 : ((wAt l i).key.toList == key.toList) = true := he
        clear he
        generalize (wAt l i).key = k at *
        generalize (wAt l i).size = z at *
        go_wp2_with fail
        go_ret
        exact ⟨by rw [← HV.out]; rfl, hB⟩
      | false =>
        have HV := Lib.hid (show ofW key (l.drop (i + 1)) = r by rw [← HD.out, HST.out, if_neg (by rw [he]; decide)])
        have e1 : ((wAt l i).key.toList == key.toList) = false := he
        clear he
        generalize (wAt l i).key = k at *
        generalize (wAt l i).size = z at *
        go_wp2_with fail
        exact ⟨⟨i + 1, by omega, by go_num, hB, Lib.hid HV.out⟩, by simp [intOf]; omega⟩
    · obtain rfl : n = i := by omega
      have HV := Lib.hid (show 0 = r by rw [← HD.out, List.drop_of_length_le (by rw [HN.out]; exact Nat.le_refl _)]; rfl)
      go_wp2_with fail
      go_ret
      exact ⟨by rw [← HV.out]; rfl, hB⟩
theorem notes_main {ka za : Option Addr} {kn zn kc zc n : Nat} {K : Nat → ByteArray} {Z : Nat → Int} (hZ : InK .u16 Z) (hmin : min kn zn = n) (hn : n ≤ 60) (w : World) (hP : PW w) (iK : IsStr w ka kn K) (iZ : IsK .u16 w za zn Z) :
    Calls Tryd.prog 5 #[.slice ka kn kc, .slice za zn zc] w fun e w' => e = .returned (.bool true) ∧ Below w.heap.size w w' := by
  have HP := Lib.hid hP
  have IK := Lib.hid iK
  have IZ := Lib.hid iZ
  have HZ := Lib.hid hZ
  have hm : min (kn : Int) (zn : Int) = (n : Int) := by omega
  have hkn : n ≤ kn := by omega
  have hzn : n ≤ zn := by omega
  have d60 : decide ((60 : Int) < n) = false := decide_eq_false (by omega)
  clear hP iK iZ hZ hmin
  go_enter Tryd.func5, Tryd.ntmps5
  go_wp2_with fail
  refine (law21_awake w HP.out).mono ?_
  rintro e w1 ⟨rfl, hb⟩
  have B1 := Lib.hid hb
  clear hb
  go_wp2_with fail
  go_loopw [7, 8, 9] (fun lv mv iv W => ∃ (i : Nat) (a : Option Addr) (c : Nat), i ≤ n ∧ iv = .int .i64 i ∧ mv = .int .i64 (manyW Z i : Nat) ∧ lv = .slice a (runW K Z i).length c ∧ IsW W a (runW K Z i) ∧ Below w.heap.size w W) (fun _ _ iv _ => n - (intOf iv).toNat)
  case atStart => exact ⟨0, none, 0, Nat.zero_le _, rfl, rfl, rfl, Or.inl rfl, B1.out⟩
  case round =>
    obtain ⟨i, a, c, hi, rfl, rfl, rfl, iW, hB⟩ := hrel
    by_cases hlt : i < n
    · obtain ⟨kb, ko, rfl, _, q0⟩ := (IK.out.below hB).row (i := i) (by omega)
      obtain ⟨zb, zo, rfl, _, q1⟩ := (IZ.out.below hB).row (i := i) (by omega)
      have hz := u16t (HZ.out i)
      have hS := runS (K := K) (Z := Z) (i := i) (by omega)
      have hS2 := runS (K := K) (Z := Z) (i := i + 1) (by omega)
      have hst := runW_step hS (by omega)
      have hml := manyW_le Z i
      have hmst : manyW Z (i + 1) = manyW Z i + if 1 ≤ Z i ∧ Z i ≤ 4096 then 1 else 0 := rfl
      have hl := hS.len
      have kn := fun w iW => tune_Note (a := a) (cap := c) (l := runW K Z i) (key := K i) (size := Z i) rfl (by omega) w iW
      have en : noteW (runW K Z i) (K i) (Z i) = runW K Z (i + 1) := rfl
      rw [en] at kn
      have hmay2 := hS2.may
      have kc := fun q d w iW => tune_Check (a := q) (cap := d) (l := runW K Z (i + 1)) rfl w iW
      rw [decide_eq_true hmay2] at kc
      have IW := Lib.hid iW
      have HB := Lib.hid hB
      have HST := Lib.hid hst
      have KN := Lib.hid kn
      have KC := Lib.hid kc
      have HMS := Lib.hid hmst
      clear iW hB hst kn kc hS hS2 hmay2 hmst en hl
      generalize hll : runW K Z (i + 1) = l' at *
      have HLL := Lib.hid hll
      clear hll
      generalize runW K Z i = l at *
      generalize manyW Z i = mi at *
      generalize Z i = z at *
      generalize K i = k at *
      by_cases hk : k.size ≤ 100
      · have d1 : decide ((100 : Int) < k.size) = false := decide_eq_false (by omega)
        have d2 : decide (100 < k.size) = false := decide_eq_false (by omega)
        clear hk
        have kks := fun q d w i1 i2 => ref21_Same (a := q) (b := a) (ca := d) (cb := c) (l := l') (k := l) rfl rfl w i1 i2
        have kko := fun q d w iW => law21_of (a := q) (cap := d) (l := l') (key := k) rfl w iW
        by_cases hr1 : 1 ≤ z
        · have e1 : decide (1 ≤ z) = true := decide_eq_true hr1
          by_cases hr2 : z ≤ 4096
          · have e2 : decide (z ≤ 4096) = true := decide_eq_true hr2
            have hput : l' = putW l k z := by rw [HST.out, if_pos ⟨hr1, hr2⟩]
            have hof : ofW k l' = z := by rw [hput]; exact ofW_put
            rw [hof] at kko
            have HM2 := Lib.hid (show manyW Z (i + 1) = mi + 1 by rw [HMS.out, if_pos ⟨hr1, hr2⟩])
            clear hput hof hr1 hr2 kks
            go_wp2_with fail
            refine (KN.out _ IW.out).mono ?_
            intro e w2 h
            obtain ⟨a2, c2, rfl, hc2, hW, hb⟩ := h
            have I2 := Lib.hid hW
            have B2 := Lib.hid (HB.out.trans (hb.mono HB.out.size))
            have q2 := keepB hb q0
            clear hW hb
            generalize hN : l'.length = N at *
            have HN := Lib.hid hN
            clear hN
            go_wp2_with fail
            refine (KC.out a2 c2 _ I2.out).mono ?_
            rintro e w3 ⟨rfl, hb⟩
            have I3 := Lib.hid (I2.out.below hb)
            have B3 := Lib.hid (B2.out.trans (hb.mono B2.out.size))
            have q3 := keepB hb q2
            clear hb B2 I2 q2
            go_wp2_with fail
            refine (kko a2 c2 _ I3.out).mono ?_
            rintro e w4 ⟨rfl, hb⟩
            have I4 := Lib.hid (I3.out.below hb)
            have B4 := Lib.hid (B3.out.trans (hb.mono B3.out.size))
            clear hb B3 I3 q3 kko
            go_wp2_with fail
            exact ⟨⟨i + 1, a2, c2, by omega, by go_num, by rw [HM2.out]; go_num, by rw [HLL.out, HN.out], by rw [HLL.out]; exact I4.out, B4.out⟩, by simp [intOf]; omega⟩
          · have e2 : decide (z ≤ 4096) = false := decide_eq_false hr2
            have hput : l' = l := by rw [HST.out, if_neg (fun h => hr2 h.2)]
            have HM2 := Lib.hid (show manyW Z (i + 1) = mi by rw [HMS.out, if_neg (fun h => hr2 h.2)]; rfl)
            rw [decide_eq_true (by rw [hput]; exact SameP.refl _)] at kks
            clear hput hr1 hr2 kko
            go_wp2_with fail
            refine (KN.out _ IW.out).mono ?_
            intro e w2 h
            obtain ⟨a2, c2, rfl, hc2, hW, hb⟩ := h
            have I2 := Lib.hid hW
            have J2 := Lib.hid (IW.out.below hb)
            have B2 := Lib.hid (HB.out.trans (hb.mono HB.out.size))
            clear hW hb
            generalize hN : l'.length = N at *
            have HN := Lib.hid hN
            clear hN
            go_wp2_with fail
            refine (kks a2 c2 _ I2.out J2.out).mono ?_
            rintro e w3 ⟨rfl, hb⟩
            have I3 := Lib.hid (I2.out.below hb)
            have B3 := Lib.hid (B2.out.trans (hb.mono B2.out.size))
            clear hb B2 I2 J2 kks
            go_wp2_with fail
            refine (KC.out a2 c2 _ I3.out).mono ?_
            rintro e w4 ⟨rfl, hb⟩
            have I4 := Lib.hid (I3.out.below hb)
            have B4 := Lib.hid (B3.out.trans (hb.mono B3.out.size))
            clear hb B3 I3
            go_wp2_with fail
            exact ⟨⟨i + 1, a2, c2, by omega, by go_num, by rw [HM2.out], by rw [HLL.out, HN.out], by rw [HLL.out]; exact I4.out, B4.out⟩, by simp [intOf]; omega⟩
        · have e1 : decide (1 ≤ z) = false := decide_eq_false hr1
          have hput : l' = l := by rw [HST.out, if_neg (fun h => hr1 h.1)]
          have HM2 := Lib.hid (show manyW Z (i + 1) = mi by rw [HMS.out, if_neg (fun h => hr1 h.1)]; rfl)
          rw [decide_eq_true (by rw [hput]; exact SameP.refl _)] at kks
          clear hput hr1 kko
          go_wp2_with fail
          refine (KN.out _ IW.out).mono ?_
          intro e w2 h
          obtain ⟨a2, c2, rfl, hc2, hW, hb⟩ := h
          have I2 := Lib.hid hW
          have J2 := Lib.hid (IW.out.below hb)
          have B2 := Lib.hid (HB.out.trans (hb.mono HB.out.size))
          clear hW hb
          generalize hN : l'.length = N at *
          have HN := Lib.hid hN
          clear hN
          go_wp2_with fail
          refine (kks a2 c2 _ I2.out J2.out).mono ?_
          rintro e w3 ⟨rfl, hb⟩
          have I3 := Lib.hid (I2.out.below hb)
          have B3 := Lib.hid (B2.out.trans (hb.mono B2.out.size))
          clear hb B2 I2 J2 kks
          go_wp2_with fail
          refine (KC.out a2 c2 _ I3.out).mono ?_
          rintro e w4 ⟨rfl, hb⟩
          have I4 := Lib.hid (I3.out.below hb)
          have B4 := Lib.hid (B3.out.trans (hb.mono B3.out.size))
          clear hb B3 I3
          go_wp2_with fail
          exact ⟨⟨i + 1, a2, c2, by omega, by go_num, by rw [HM2.out], by rw [HLL.out, HN.out], by rw [HLL.out]; exact I4.out, B4.out⟩, by simp [intOf]; omega⟩
      · have d1 : decide ((100 : Int) < k.size) = true := decide_eq_true (by omega)
        have d2 : decide (100 < k.size) = true := decide_eq_true (by omega)
        clear hk
        go_wp2_with fail
        go_ret
        exact ⟨rfl, HB.out⟩
    · obtain rfl : n = i := by omega
      have hS := runS (K := K) (Z := Z) (i := n) (by omega)
      have hm := (mayW_iff _).1 hS.may
      have hml := manyW_le Z n
      have hle := fun j => sumN_take_le (l := runW K Z n) (fun s hs => by have := (hm.2.1 s hs).2.2.1; omega) j
      have hsum := hS.sum
      have hlen := hS.len
      have htk := fun j hj => sumN_take (l := runW K Z n) (i := j) hj
      have HLE := Lib.hid hle
      have HTK := Lib.hid htk
      have HTA := Lib.hid (show sumN ((runW K Z n).take (runW K Z n).length) = sumN (runW K Z n) by rw [List.take_length])
      have IW := Lib.hid iW
      have HB := Lib.hid hB
      clear hS hm hle htk iW hB
      generalize runW K Z n = l at *
      generalize manyW Z n = mi at *
      have HSUM := Lib.hid hsum
      clear hsum
      generalize hN : l.length = N at *
      have HN := Lib.hid hN
      clear hN
      go_wp2_with fail
      go_loopw [13, 14] (fun sv jv W => ∃ j : Nat, j ≤ N ∧ jv = .int .i64 j ∧ sv = .int .i64 (sumN (l.take j)) ∧ Below w.heap.size w W ∧ IsW W a l) (fun _ jv _ => N - (intOf jv).toNat)
      case atStart => exact ⟨0, Nat.zero_le _, rfl, rfl, HB.out, IW.out⟩
      case round =>
        obtain ⟨j, hj, rfl, rfl, hB2, iW2⟩ := hrel
        by_cases hlt2 : j < N
        · obtain ⟨lb, lo, rfl, _, _, _, r2⟩ := iW2.row (i := j) (by rw [HN.out]; exact hlt2)
          have h1 := HLE.out j
          have h2 := HLE.out (j + 1)
          have h3 := HTK.out j hlt2
          have hs := HSUM.out
          rw [hs] at h1 h2
          rw [h3] at h2
          have H3 := Lib.hid h3
          have IW2 := Lib.hid iW2
          clear h3 hs iW2
          generalize sumN (l.take j) = s at *
          generalize (wAt l j).n = m at *
          go_wp2_with fail
          exact ⟨⟨j + 1, by omega, by go_num, by rw [H3.out], hB2, IW2.out⟩, by simp [intOf]; omega⟩
        · obtain rfl : N = j := by omega
          have e : sumN (l.take N) = mi := by rw [HTA.out, HSUM.out]
          rw [e]
          clear e
          go_wp2_with fail
          go_ret
          exact ⟨rfl, hB2⟩
theorem notes_walk {ka za : Option Addr} {kn zn kc zc : Nat} {K : Nat → ByteArray} {Z : Nat → Int} (hZ : InK .u16 Z) (w : World) (hP : PW w) (iK : IsStr w ka kn K) (iZ : IsK .u16 w za zn Z) :
    Calls Tryd.prog 5 #[.slice ka kn kc, .slice za zn zc] w fun e w' => e = .returned (.bool true) ∧ Below w.heap.size w w' := by
  by_cases hn : min kn zn ≤ 60
  · exact notes_main hZ rfl hn w hP iK iZ
  · obtain ⟨n, hmn⟩ : ∃ n, min kn zn = n := ⟨_, rfl⟩
    have hm : min (kn : Int) (zn : Int) = (n : Int) := by omega
    have d60 : decide ((60 : Int) < n) = true := decide_eq_true (by omega)
    have HP := Lib.hid hP
    clear hP iK iZ hZ hn hmn
    go_enter Tryd.func5, Tryd.ntmps5
    go_wp2_with fail
    refine (law21_awake w HP.out).mono ?_
    rintro e w1 ⟨rfl, hb⟩
    have B1 := Lib.hid hb
    clear hb
    go_wp2_with fail
    go_ret
    exact ⟨rfl, B1.out⟩
end Go.Proofs.YtejipmkbjmcnaaaDoor
