/- The walk of TuneBest. -/
import Derived.Test.YtejipmkbjmcnaaaDoorTuneL1
import Derived.Test.YtejipmkbjmcnaaaDoorTuneRH
set_option linter.unusedVariables false
set_option maxRecDepth 100000
set_option maxHeartbeats 4000000
namespace Go.Proofs.YtejipmkbjmcnaaaDoor
open Go.RowKit Go.Shelf
attribute [local go_sem ↓] lt_alloc

theorem bestT_walk {a ga : Option Addr} {n cap gn gc : Nat} {l : List Sn} {limit most : Int} {G : Nat → Int} (hn : l.length = n) (hi : InW l) (hl : 0 ≤ limit ∧ limit < 18446744073709551616) (hm : 0 ≤ most ∧ most < 18446744073709551616) (hG : InK .i64 G) (w : World) (hP : PW w) (iW : IsW w a l) (iG : IsK .i64 w ga gn G) :
    Calls Tryd.prog 4 #[.slice a n cap, .int .u64 limit, .int .u64 most, .slice ga gn gc] w fun e w' => e = .returned (.bool true) ∧ Below w.heap.size w w' := by
  have kw := fun w iW => ref21_Few (a := a) (cap := cap) (most := 10) hn w iW
  have HP := Lib.hid hP
  have IW := Lib.hid iW
  have IG := Lib.hid iG
  clear hP iW iG
  by_cases hf : FewP l 10
  · rw [decide_eq_true hf] at kw
    have KW := Lib.hid kw
    clear kw hf
    by_cases h5 : gn ≤ 5
    · have d5 : decide ((5 : Int) < gn) = false := decide_eq_false (by omega)
      have kb := fun w hP iW iG => tune_Best (a := a) (ga := ga) (cap := cap) (gn := gn) (gc := gc) (most := most) (G := G) hn hi hm.1 hm.2 hG w hP iW iG
      have kb2 := fun w iW iG => ref21_Best (a := a) (ga := ga) (cap := cap) (gn := gn) (gc := gc) (most := most) (G := G) hn hi hm.1 hm.2 hG h5 w iW iG
      have kt := fun w hP iW => tune_Time (a := a) (cap := cap) (limit := limit) (most := most) hn hi hl.1 hl.2 hm.1 hm.2 w hP iW
      have kt2 := fun w iW => ref21_Time (a := a) (cap := cap) (limit := limit) (most := most) hn hi hl.1 hl.2 hm.1 hm.2 w iW
      have ks := fun w hP iW => tune_Score (a := a) (cap := cap) (limit := limit) (most := most) hn hi hl.1 hl.2 hm.1 hm.2 w hP iW
      have ks2 := fun w iW => ref21_Score (a := a) (cap := cap) (limit := limit) (most := most) hn hi hl.1 hl.2 hm.1 hm.2 w iW
      generalize bestR l most G gn = r at *
      obtain ⟨best, high, ok⟩ := r
      dsimp only at kb kb2
      generalize (if mayW l then timeW l limit most else 0 : Nat) = tm at *
      generalize scoreW l limit most = sc at *
      have KB := Lib.hid kb
      have KB2 := Lib.hid kb2
      have KT := Lib.hid kt
      have KT2 := Lib.hid kt2
      have KS := Lib.hid ks
      have KS2 := Lib.hid ks2
      clear kb kb2 kt kt2 ks ks2 hi hn hG
      go_enter Tryd.func4, Tryd.ntmps4
      go_wp2_with fail
      refine (law21_awake w HP.out).mono ?_
      rintro e w1 ⟨rfl, hb⟩
      have B1 := Lib.hid hb
      clear hb
      go_wp2_with fail
      refine (KW.out _ (IW.out.below B1.out)).mono ?_
      rintro e w2 ⟨rfl, hb⟩
      have B2 := Lib.hid (B1.out.trans (hb.mono B1.out.size))
      clear hb B1
      go_wp2_with fail
      refine (KB.out _ (HP.out.below B2.out) (IW.out.below B2.out) (IG.out.below B2.out)).mono ?_
      rintro e w3 ⟨rfl, hb⟩
      have B3 := Lib.hid (B2.out.trans (hb.mono B2.out.size))
      clear hb B2
      go_wp2_with fail
      refine (KB2.out _ (IW.out.below B3.out) (IG.out.below B3.out)).mono ?_
      rintro e w4 ⟨rfl, hb⟩
      have B4 := Lib.hid (B3.out.trans (hb.mono B3.out.size))
      clear hb B3
      go_wp2_with fail
      refine (KT.out _ (HP.out.below B4.out) (IW.out.below B4.out)).mono ?_
      rintro e w5 ⟨rfl, hb⟩
      have B5 := Lib.hid (B4.out.trans (hb.mono B4.out.size))
      clear hb B4
      go_wp2_with fail
      refine (KT2.out _ (IW.out.below B5.out)).mono ?_
      rintro e w6 ⟨rfl, hb⟩
      have B6 := Lib.hid (B5.out.trans (hb.mono B5.out.size))
      clear hb B5
      go_wp2_with fail
      refine (KS.out _ (HP.out.below B6.out) (IW.out.below B6.out)).mono ?_
      rintro e w7 ⟨rfl, hb⟩
      have B7 := Lib.hid (B6.out.trans (hb.mono B6.out.size))
      clear hb B6
      go_wp2_with fail
      refine (KS2.out _ (IW.out.below B7.out)).mono ?_
      rintro e w8 ⟨rfl, hb⟩
      have B8 := Lib.hid (B7.out.trans (hb.mono B7.out.size))
      clear hb B7
      go_wp2_with fail
      go_ret
      exact ⟨by first | rfl | (cases ok <;> simp), B8.out⟩
    · have d5 : decide ((5 : Int) < gn) = true := decide_eq_true (by omega)
      clear hi hn
      go_enter Tryd.func4, Tryd.ntmps4
      go_wp2_with fail
      refine (law21_awake w HP.out).mono ?_
      rintro e w1 ⟨rfl, hb⟩
      have B1 := Lib.hid hb
      clear hb
      go_wp2_with fail
      refine (KW.out _ (IW.out.below B1.out)).mono ?_
      rintro e w2 ⟨rfl, hb⟩
      have B2 := Lib.hid (B1.out.trans (hb.mono B1.out.size))
      clear hb B1
      go_wp2_with fail
      go_ret
      exact ⟨rfl, B2.out⟩
  · rw [decide_eq_false hf] at kw
    have KW := Lib.hid kw
    clear kw hf hi hn
    go_enter Tryd.func4, Tryd.ntmps4
    go_wp2_with fail
    refine (law21_awake w HP.out).mono ?_
    rintro e w1 ⟨rfl, hb⟩
    have B1 := Lib.hid hb
    clear hb
    go_wp2_with fail
    refine (KW.out _ (IW.out.below B1.out)).mono ?_
    rintro e w2 ⟨rfl, hb⟩
    have B2 := Lib.hid (B1.out.trans (hb.mono B1.out.size))
    clear hb B1
    go_wp2_with fail
    go_ret
    exact ⟨rfl, B2.out⟩
end Go.Proofs.YtejipmkbjmcnaaaDoor
