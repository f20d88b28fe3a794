/- The walk of TuneFits. -/
import Derived.Test.YtejipmkbjmcnaaaDoorTuneB
import Derived.Test.YtejipmkbjmcnaaaDoorTuneV
set_option linter.unusedVariables false
set_option maxRecDepth 100000
set_option maxHeartbeats 4000000
namespace Go.Proofs.YtejipmkbjmcnaaaDoor
open Go.RowKit Go.Shelf
attribute [local go_sem ↓] lt_alloc

theorem u64t {a : Int} (h : (Lit.int .u64 a).wf = true) : 0 ≤ a ∧ a < 18446744073709551616 := by have := bounds_u64 h; omega
theorem u16t {a : Int} (h : (Lit.int .u16 a).wf = true) : 0 ≤ a ∧ a < 65536 := by have := bounds_u16 h; omega
theorem i64t {a : Int} (h : (Lit.int .i64 a).wf = true) : -9223372036854775808 ≤ a ∧ a < 9223372036854775808 := by have := bounds_i64 h; omega
theorem fits_walk {a : Option Addr} {n cap : Nat} {l : List Sn} {limit most : Int} (hn : l.length = n) (hi : InW l) (hl : 0 ≤ limit ∧ limit < 18446744073709551616) (hm : 0 ≤ most ∧ most < 65536) (w : World) (hP : PW w) (iW : IsW w a l) :
    Calls Tryd.prog 7 #[.slice a n cap, .int .u64 limit, .int .u16 most] w fun e w' => e = .returned (.bool true) ∧ Below w.heap.size w w' := by
  have kw := fun w iW => ref21_Few (a := a) (cap := cap) (most := 30) hn w iW
  have kc := fun w iW => tune_Check (a := a) (cap := cap) hn w iW
  have HP := Lib.hid hP
  have IW := Lib.hid iW
  clear hP iW
  by_cases hf : FewP l 30
  · rw [decide_eq_true hf] at kw
    by_cases hmay : mayW l
    · rw [decide_eq_true hmay] at kc
      have kt := fun w hP iW => tune_Time (a := a) (cap := cap) (limit := limit) (most := most) hn hi hl.1 hl.2 (by omega) (by omega) w hP iW
      rw [if_pos hmay] at kt
      have kf := fun t t0 t1 w hP iW => tune_Fill (a := a) (cap := cap) (limit := limit) (t := t) hn hi hl.1 hl.2 t0 t1 w hP iW
      have kf' : ∀ t (t0 : 0 ≤ t) (t1 : t < 18446744073709551616) (w : World) (hP : PW w) (iW : IsW w a l), Calls Tryd.prog 19 #[.slice a n cap, .int .u64 limit, .int .u64 t] w fun e w' => e = .returned (.int .u64 (fillW l limit t)) ∧ Below w.heap.size w w' := fun t t0 t1 w hP iW => by
        have h := kf t t0 t1 w hP iW
        rw [if_pos hmay] at h
        exact h
      obtain ⟨f1, f2⟩ := time_fits (l := l) (limit := limit) (most := most) hi hl.1
      have htl := timeW_le l limit most
      have hroom : roomW most = most * 4294967296 := by unfold roomW mulS; rw [if_pos (by omega)]
      rw [hroom] at f1 f2
      have KW := Lib.hid kw
      have KC := Lib.hid kc
      have KT := Lib.hid kt
      have KF := Lib.hid kf'
      clear kw kc kt kf kf' hf hmay hi hn hroom
      generalize timeW l limit most = tm at *
      have hp := powT_bd (i := tm) (by omega)
      have htm : decide ((32 : Int) < tm) = false := decide_eq_false (by omega)
      go_enter Tryd.func7, Tryd.ntmps7
      go_wp2_with fail
      refine (law21_awake w HP.out).mono ?_
      rintro e w1 ⟨rfl, hb⟩
      have B1 := Lib.hid hb
      clear hb
      go_wp2_with fail
      refine (KW.out _ (IW.out.below B1.out)).mono ?_
      rintro e w2 ⟨rfl, hb⟩
      have B2 := Lib.hid (B1.out.trans (hb.mono B1.out.size))
      clear hb B1
      go_wp2_with fail
      refine (KC.out _ (IW.out.below B2.out)).mono ?_
      rintro e w3 ⟨rfl, hb⟩
      have B3 := Lib.hid (B2.out.trans (hb.mono B2.out.size))
      clear hb B2
      go_wp2_with fail
      refine (KT.out _ (HP.out.below B3.out) (IW.out.below B3.out)).mono ?_
      rintro e w4 ⟨rfl, hb⟩
      have B4 := Lib.hid (B3.out.trans (hb.mono B3.out.size))
      clear hb B3
      have hm1 := hm.1
      have hm2 := hm.2
      go_wp2_with fail
      refine (KF.out _ (by omega) hp.2 _ (HP.out.below B4.out) (IW.out.below B4.out)).mono ?_
      rintro e w5 ⟨rfl, hb⟩
      have B5 := Lib.hid (B4.out.trans (hb.mono B4.out.size))
      clear hb B4
      have hend : ∀ fd : Bool, fd = true → True := fun _ _ => trivial
      by_cases h32 : tm = 32
      · have e32 : ((tm : Int) == 32) = true := by simp; omega
        by_cases hle : fillW l limit (2 ^ tm) ≤ most * 4294967296
        · have d1 : decide (fillW l limit (2 ^ tm) ≤ most * 4294967296) = true := decide_eq_true hle
          generalize fillW l limit (2 ^ tm) = fv at *
          clear f1 f2 hle h32 hend
          go_wp2_with fail
          go_ret
          exact ⟨rfl, B5.out⟩
        · omega
      · have e32 : ((tm : Int) == 32) = false := by simp; omega
        have hp2 := powT_bd (i := tm + 1) (by omega)
        have f2' : most * 4294967296 < fillW l limit (2 ^ (tm + 1)) := by rcases f2 with h | h; exact absurd h h32; exact h
        have d2 : decide (most * 4294967296 < fillW l limit (2 ^ (tm + 1))) = true := decide_eq_true f2'
        have kk := KF.out (2 ^ (tm + 1)) (by omega) hp2.2 w5 (HP.out.below B5.out) (IW.out.below B5.out)
        generalize hfv2 : fillW l limit (2 ^ (tm + 1)) = fv2 at *
        clear hfv2
        by_cases hle : fillW l limit (2 ^ tm) ≤ most * 4294967296
        · have d1 : decide (fillW l limit (2 ^ tm) ≤ most * 4294967296) = true := decide_eq_true hle
          generalize fillW l limit (2 ^ tm) = fv at *
          clear f1 f2 f2' hle h32 hend
          go_wp2_with fail
          refine kk.mono ?_
          rintro e w6 ⟨rfl, hb⟩
          have B6 := Lib.hid (B5.out.trans (hb.mono B5.out.size))
          clear hb
          go_wp2_with fail
          go_ret
          exact ⟨rfl, B6.out⟩
        · have d1 : decide (fillW l limit (2 ^ tm) ≤ most * 4294967296) = false := decide_eq_false hle
          have d0 : ((tm : Int) == 0) = true := by simp; omega
          generalize fillW l limit (2 ^ tm) = fv at *
          clear f1 f2 f2' hle h32 hend
          go_wp2_with fail
          refine kk.mono ?_
          rintro e w6 ⟨rfl, hb⟩
          have B6 := Lib.hid (B5.out.trans (hb.mono B5.out.size))
          clear hb
          go_wp2_with fail
          go_ret
          exact ⟨rfl, B6.out⟩
    · rw [decide_eq_false hmay] at kc
      have KW := Lib.hid kw
      have KC := Lib.hid kc
      clear kw kc hf hmay hi hn
      go_enter Tryd.func7, Tryd.ntmps7
      go_wp2_with fail
      refine (law21_awake w HP.out).mono ?_
      rintro e w1 ⟨rfl, hb⟩
      have B1 := Lib.hid hb
      clear hb
      go_wp2_with fail
      refine (KW.out _ (IW.out.below B1.out)).mono ?_
      rintro e w2 ⟨rfl, hb⟩
      have B2 := Lib.hid (B1.out.trans (hb.mono B1.out.size))
      clear hb B1
      go_wp2_with fail
      refine (KC.out _ (IW.out.below B2.out)).mono ?_
      rintro e w3 ⟨rfl, hb⟩
      have B3 := Lib.hid (B2.out.trans (hb.mono B2.out.size))
      clear hb B2
      go_wp2_with fail
      go_ret
      exact ⟨rfl, B3.out⟩
  · rw [decide_eq_false hf] at kw
    have KW := Lib.hid kw
    clear kw kc hf hi hn
    go_enter Tryd.func7, Tryd.ntmps7
    go_wp2_with fail
    refine (law21_awake w HP.out).mono ?_
    rintro e w1 ⟨rfl, hb⟩
    have B1 := Lib.hid hb
    clear hb
    go_wp2_with fail
    refine (KW.out _ (IW.out.below B1.out)).mono ?_
    rintro e w2 ⟨rfl, hb⟩
    have B2 := Lib.hid (B1.out.trans (hb.mono B1.out.size))
    clear hb B1
    go_wp2_with fail
    go_ret
    exact ⟨rfl, B2.out⟩
end Go.Proofs.YtejipmkbjmcnaaaDoor
