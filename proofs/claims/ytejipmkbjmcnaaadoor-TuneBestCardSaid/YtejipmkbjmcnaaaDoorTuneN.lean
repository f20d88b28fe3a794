/- The walks of Part, Fill, Time, Score. -/
import Derived.Test.YtejipmkbjmcnaaaDoorTuneK
set_option linter.unusedVariables false
set_option maxRecDepth 100000
set_option maxHeartbeats 2000000
namespace Go.Proofs.YtejipmkbjmcnaaaDoor
open Go.RowKit Go.Shelf
attribute [local go_sem ↓] lt_alloc

theorem tune_Part {s : Sn} {limit t : Int} (hs : -9223372036854775808 ≤ s.size ∧ s.size < 9223372036854775808) (hn : -9223372036854775808 ≤ s.n ∧ s.n < 9223372036854775808) (l0 : 0 ≤ limit) (l1 : limit < 18446744073709551616) (t0 : 0 ≤ t) (t1 : t < 18446744073709551616) (w : World) (hP : PW w) :
    Calls Tryd.prog 17 #[.agg #[.string s.key, .int .i64 s.size, .int .i64 s.n], .int .u64 limit, .int .u64 t] w fun e w' => e = .returned (.int .u64 (partO (oddsW s limit) t)) ∧ Below w.heap.size w w' := by
  have k1 := fun w hP => tune_odds (s := s) (limit := limit) hs hn l0 l1 w hP
  have hb := oddsW_bd (s := s) (limit := limit) l0 hs.2 hn.2
  have k2 := fun w => tune_part (o := oddsW s limit) (t := t) hb.1 hb.2 t0 t1 w
  have HP := Lib.hid hP
  clear hP hs hn
  generalize hv : partO (oddsW s limit) t = v at *
  have HV := Lib.hid hv
  clear hv
  generalize oddsW s limit = o at *
  generalize s.size = z at *
  generalize s.n = m at *
  generalize s.key = k at *
  go_enter Tryd.func17, Tryd.ntmps17
  go_wp2_with fail
  have b0 : Below w.heap.size w w := Below.refl _ _
  first
    | (refine (k1 _ HP.out).mono ?_)
    | (refine (k1 _ (HP.out.below ((Below.refl _ _).alloc (Nat.le_refl _) _))).mono ?_)
  rintro e w1 ⟨rfl, hb1⟩
  have HB1 := Lib.hid (show Below w.heap.size w w1 by first | exact hb1 | exact ((Below.refl _ _).alloc (Nat.le_refl _) _).trans (hb1.mono (by simp)))
  clear hb1 k1 b0
  go_wp2_with fail
  refine (k2 _).mono ?_
  rintro e w2 ⟨rfl, hb2⟩
  have HB2 := Lib.hid (HB1.out.trans (hb2.mono HB1.out.size))
  clear hb2 k2
  go_wp2_with fail
  go_ret
  exact ⟨by first | rfl | (rw [HV.out]; rfl), HB2.out⟩
theorem oddsL_bd {l : List Sn} {n : Nat} {limit : Int} (hn : l.length = n) (hi : InW l) (l0 : 0 ≤ limit) : ∀ i, i < n → 0 ≤ oddsW (wAt l i) limit ∧ oddsW (wAt l i) limit < 18446744073709551616 := fun i h =>
  oddsW_bd l0 (hi i (by omega)).1.2 (hi i (by omega)).2.2
theorem tune_Fill {a : Option Addr} {n cap : Nat} {l : List Sn} {limit t : Int} (hn : l.length = n) (hi : InW l) (l0 : 0 ≤ limit) (l1 : limit < 18446744073709551616) (t0 : 0 ≤ t) (t1 : t < 18446744073709551616) (w : World) (hP : PW w) (iW : IsW w a l) :
    Calls Tryd.prog 19 #[.slice a n cap, .int .u64 limit, .int .u64 t] w fun e w' => e = .returned (.int .u64 (if mayW l then fillW l limit t else 0)) ∧ Below w.heap.size w w' := by
  have k1 := fun w iW => tune_Check (a := a) (cap := cap) hn w iW
  have HP := Lib.hid hP
  have IW := Lib.hid iW
  by_cases hmay : mayW l
  · rw [if_pos hmay]
    rw [decide_eq_true hmay] at k1
    have hm : n ≤ 1000000 := by have := hmay.1; omega
    have k2 := fun w hP iW => tune_all (a := a) (cap := cap) (limit := limit) hn hm hi l0 l1 w hP iW
    have k3 := fun oa w iW iO => tune_fill (a := a) (oa := oa) (cap := cap) (oc := n) (O := fun i => oddsW (wAt l i) limit) (t := t) hn hm hi (oddsL_bd hn hi l0) t0 t1 w iW iO
    have e : sumW (fun i => mulS (ofS (wAt l i).size) (partO ((fun i => oddsW (wAt l i) limit) i) t)) n = fillW l limit t := by rw [← hn]; rfl
    rw [e] at k3
    have K2 := Lib.hid k2
    have K3 := Lib.hid k3
    clear k2 k3 e hP iW hi hmay hn
    generalize fillW l limit t = v at *
    go_enter Tryd.func19, Tryd.ntmps19
    go_wp2_with fail
    refine (k1 _ IW.out).mono ?_
    rintro e w1 ⟨rfl, hb⟩
    have HB1 := Lib.hid hb
    clear hb k1
    go_wp2_with fail
    refine (K2.out _ (HP.out.below HB1.out) (IW.out.below HB1.out)).mono ?_
    rintro e w2 ⟨oa, rfl, iO, hb⟩
    have HB2 := Lib.hid (HB1.out.trans (hb.mono HB1.out.size))
    have IO := Lib.hid iO
    clear hb iO K2
    go_wp2_with fail
    refine (K3.out oa _ (IW.out.below HB2.out) IO.out).mono ?_
    rintro e w3 ⟨rfl, hb⟩
    have HB3 := Lib.hid (HB2.out.trans (hb.mono HB2.out.size))
    clear hb IO K3
    go_wp2_with fail
    go_ret
    exact ⟨rfl, HB3.out⟩
  · rw [if_neg hmay]
    rw [decide_eq_false hmay] at k1
    clear hP iW hmay hi hn
    go_enter Tryd.func19, Tryd.ntmps19
    go_wp2_with fail
    refine (k1 _ IW.out).mono ?_
    rintro e w1 ⟨rfl, hb⟩
    have HB1 := Lib.hid hb
    clear hb k1
    go_wp2_with fail
    go_ret
    exact ⟨rfl, HB1.out⟩
theorem timeO_eq {l : List Sn} {n : Nat} {limit most : Int} (hn : l.length = n) : leadG (fun k => fillO l (fun i => oddsW (wAt l i) limit) n (2 ^ k)) (roomW most) 0 33 - 1 = timeW l limit most := by
  rw [← hn]; rfl
theorem tune_Time {a : Option Addr} {n cap : Nat} {l : List Sn} {limit most : Int} (hn : l.length = n) (hi : InW l) (l0 : 0 ≤ limit) (l1 : limit < 18446744073709551616) (m0 : 0 ≤ most) (m1 : most < 18446744073709551616) (w : World) (hP : PW w) (iW : IsW w a l) :
    Calls Tryd.prog 23 #[.slice a n cap, .int .u64 limit, .int .u64 most] w fun e w' => e = .returned (.int .u64 ((if mayW l then timeW l limit most else 0 : Nat) : Int)) ∧ Below w.heap.size w w' := by
  have k1 := fun w iW => tune_Check (a := a) (cap := cap) hn w iW
  have HP := Lib.hid hP
  have IW := Lib.hid iW
  by_cases hmay : mayW l
  · rw [if_pos hmay]
    rw [decide_eq_true hmay] at k1
    have hm : n ≤ 1000000 := by have := hmay.1; omega
    have k2 := fun w hP iW => tune_all (a := a) (cap := cap) (limit := limit) hn hm hi l0 l1 w hP iW
    have k3 := fun oa w iW iO => tune_time (a := a) (oa := oa) (cap := cap) (oc := n) (O := fun i => oddsW (wAt l i) limit) (most := most) hn hm hi (oddsL_bd hn hi l0) m0 m1 w iW iO
    rw [timeO_eq hn] at k3
    have K2 := Lib.hid k2
    have K3 := Lib.hid k3
    clear k2 k3 hP iW hi hmay hn
    generalize timeW l limit most = v at *
    go_enter Tryd.func23, Tryd.ntmps23
    go_wp2_with fail
    refine (k1 _ IW.out).mono ?_
    rintro e w1 ⟨rfl, hb⟩
    have HB1 := Lib.hid hb
    clear hb k1
    go_wp2_with fail
    refine (K2.out _ (HP.out.below HB1.out) (IW.out.below HB1.out)).mono ?_
    rintro e w2 ⟨oa, rfl, iO, hb⟩
    have HB2 := Lib.hid (HB1.out.trans (hb.mono HB1.out.size))
    have IO := Lib.hid iO
    clear hb iO K2
    go_wp2_with fail
    refine (K3.out oa _ (IW.out.below HB2.out) IO.out).mono ?_
    rintro e w3 ⟨rfl, hb⟩
    have HB3 := Lib.hid (HB2.out.trans (hb.mono HB2.out.size))
    clear hb IO K3
    go_wp2_with fail
    go_ret
    exact ⟨rfl, HB3.out⟩
  · rw [if_neg hmay]
    rw [decide_eq_false hmay] at k1
    clear hP iW hmay hi hn
    go_enter Tryd.func23, Tryd.ntmps23
    go_wp2_with fail
    refine (k1 _ IW.out).mono ?_
    rintro e w1 ⟨rfl, hb⟩
    have HB1 := Lib.hid hb
    clear hb k1
    go_wp2_with fail
    go_ret
    exact ⟨rfl, HB1.out⟩
end Go.Proofs.YtejipmkbjmcnaaaDoor
