/- The walk of TuneTells. -/
import Derived.Test.YtejipmkbjmcnaaaDoorTuneL2
import Derived.Test.YtejipmkbjmcnaaaDoorTuneRG
import Derived.Deep.RegionHeld3
set_option linter.unusedVariables false
set_option maxRecDepth 100000
set_option maxHeartbeats 4000000
namespace Go.Proofs.YtejipmkbjmcnaaaDoor
open Go.RowKit Go.Shelf
attribute [local go_sem ↓] lt_alloc

theorem tells_B {w W : World} {k : ByteArray} {z m : Int} (h : W.cell? ⟨w.heap.size, 0, none⟩ = some (.string k) ∧ W.cell? ⟨w.heap.size, 1, none⟩ = some (.int .i64 z) ∧ W.cell? ⟨w.heap.size, 2, none⟩ = some (.int .i64 m) ∧ Hid (Below w.heap.size w W)) : Below w.heap.size w W := h.2.2.2.out
theorem tells_next {w W w' : World} {k : ByteArray} {z m : Int} (h : W.cell? ⟨w.heap.size, 0, none⟩ = some (.string k) ∧ W.cell? ⟨w.heap.size, 1, none⟩ = some (.int .i64 z) ∧ W.cell? ⟨w.heap.size, 2, none⟩ = some (.int .i64 m) ∧ Hid (Below w.heap.size w W)) (hb : Below W.heap.size W w') :
    w'.cell? ⟨w.heap.size, 0, none⟩ = some (.string k) ∧ w'.cell? ⟨w.heap.size, 1, none⟩ = some (.int .i64 z) ∧ w'.cell? ⟨w.heap.size, 2, none⟩ = some (.int .i64 m) ∧ Hid (Below w.heap.size w w') :=
  ⟨keepB hb h.1, keepB hb h.2.1, keepB hb h.2.2.1, Lib.hid (h.2.2.2.out.trans (hb.mono h.2.2.2.out.size))⟩
theorem tells_main {a : Option Addr} {n cap : Nat} {l : List Sn} {key : ByteArray} {size limit x : Int} {k : ByteArray} {z m : Int} (hn : l.length = n) (hnc : n ≤ cap) (hi : InW l) (hf : FewP l 30) (hky : key.size ≤ 100) (hk : k.size ≤ 100) (hz : -9223372036854775808 ≤ z ∧ z < 9223372036854775808) (hm : -9223372036854775808 ≤ m ∧ m < 9223372036854775808)
    (hl : 0 ≤ limit ∧ limit < 18446744073709551616) (hx : 0 ≤ x ∧ x < 18446744073709551616) (w : World) (hP : PW w) (iW : IsW w a l) :
    Calls Tryd.prog 3 #[.slice a n cap, .string key, .int .i64 size, .int .u64 limit, .int .u64 x, .agg #[.string k, .int .i64 z, .int .i64 m]] w fun e w' => e = .returned (.bool true) ∧ Below w.heap.size w w' := by
  have kw := fun w iW => ref21_Few (a := a) (cap := cap) (most := 30) hn w iW
  rw [decide_eq_true hf] at kw
  have hn30 : n ≤ 30 := by have := hf.2; omega
  have d1 : decide ((100 : Int) < k.size) = false := decide_eq_false (by omega)
  have d2 : decide (100 < k.size) = false := decide_eq_false (by omega)
  have d3 : decide ((100 : Int) < key.size) = false := decide_eq_false (by omega)
  have d4 : decide (100 < key.size) = false := decide_eq_false (by omega)
  have kc := fun w iW => tune_Check (a := a) (cap := cap) hn w iW
  have kc2 := fun w iW => ref21_Check (a := a) (cap := cap) hn w iW
  have k1 := fun w hP => tune_Part (s := ⟨k, z, m⟩) (limit := limit) (t := x) hz hm hl.1 hl.2 hx.1 hx.2 w hP
  have k2 := fun w => ref21_Part (s := ⟨k, z, m⟩) (limit := limit) (t := x) hz hm hl.1 hl.2 hx.1 hx.2 w
  have k3 := fun w hP iW => tune_Fill (a := a) (cap := cap) (limit := limit) (t := x) hn hi hl.1 hl.2 hx.1 hx.2 w hP iW
  have k4 := fun w iW => ref21_Fill (a := a) (cap := cap) (limit := limit) (t := x) hn hi hl.1 hl.2 hx.1 hx.2 w iW
  have n1 := fun w iW => tune_Note (a := a) (cap := cap) (key := key) (size := size) hn (by omega) w iW
  have n2 := fun w iW => ref21_Note (a := a) (key := key) (size := size) hn hnc w iW
  dsimp only at k1 k2
  generalize decide (mayW l) = may at *
  generalize (if mayW l then fillW l limit x else 0) = fv at *
  generalize partO (oddsW ⟨k, z, m⟩ limit) x = pv at *
  obtain ⟨N, hN⟩ : ∃ N, (noteW l key size).length = N := ⟨_, rfl⟩
  have ks := fun q r c d w i1 i2 => ref21_Same (a := q) (b := r) (ca := c) (cb := d) hN hN w i1 i2
  rw [decide_eq_true (SameP.refl _)] at ks
  have HNL := Lib.hid hN
  have HP := Lib.hid hP
  have IW := Lib.hid iW
  have KW := Lib.hid kw
  have KC := Lib.hid kc
  have KC2 := Lib.hid kc2
  have K1 := Lib.hid k1
  have K2 := Lib.hid k2
  have K3 := Lib.hid k3
  have K4 := Lib.hid k4
  have N1 := Lib.hid n1
  have N2 := Lib.hid n2
  have KS := Lib.hid ks
  clear hP iW kw kc kc2 k1 k2 k3 k4 n1 n2 ks hf hky hk hi hn hN
  have b0 : Below w.heap.size w (w.alloc (.cells #[.string k, .int .i64 z, .int .i64 m] 25)) := (Below.refl _ _).alloc (Nat.le_refl _) _
  have q0 : WBlk (w.alloc (.cells #[.string k, .int .i64 z, .int .i64 m] 25)) w.heap.size [⟨k, z, m⟩] := heap_alloc_new w _
  have B0 := Lib.hid b0
  have Q0 := Lib.hid q0
  clear b0 q0
  go_enter Tryd.func3, Tryd.ntmps3
  go_wp2_with fail
  refine (law21_awake _ (HP.out.below B0.out)).mono ?_
  rintro e w1 ⟨rfl, hb⟩
  have B1 := Lib.hid (B0.out.trans (hb.mono B0.out.size))
  have q1 : w1.heap[w.heap.size]? = some (.cells #[.string k, .int .i64 z, .int .i64 m] 25 (0, 0)) := (hb.block _ (by simp)).trans Q0.out
  have Q1 := Lib.hid q1
  clear hb q1
  go_wp2_with fail
  refine (KW.out _ (IW.out.below B1.out)).mono ?_
  rintro e w2 ⟨rfl, hb⟩
  have B2 := Lib.hid (B1.out.trans (hb.mono B1.out.size))
  have q2 : w2.heap[w.heap.size]? = some (.cells #[.string k, .int .i64 z, .int .i64 m] 25 (0, 0)) := (hb.block _ (by exact (Array.getElem?_eq_some_iff.1 Q1.out).1)).trans Q1.out
  have r0 : w2.cell? ⟨w.heap.size, 0, none⟩ = some (.string k) := cell_of_row _ _ 0 _ _ _ q2
  have r1 : w2.cell? ⟨w.heap.size, 1, none⟩ = some (.int .i64 z) := cell_of_row _ _ 1 _ _ _ q2
  have r2 : w2.cell? ⟨w.heap.size, 2, none⟩ = some (.int .i64 m) := cell_of_row _ _ 2 _ _ _ q2
  clear hb B1 Q1 q2
  go_wp2_with fail
  have hS0 : w2.cell? ⟨w.heap.size, 0, none⟩ = some (.string k) ∧ w2.cell? ⟨w.heap.size, 1, none⟩ = some (.int .i64 z) ∧ w2.cell? ⟨w.heap.size, 2, none⟩ = some (.int .i64 m) ∧ Hid (Below w.heap.size w w2) := ⟨r0, r1, r2, B2⟩
  have hS1 := tells_next hS0 (Below.refl w2.heap.size w2).drew
  clear hS0 r0 r1 r2 B2
  go_region_held3 (fun W => W.cell? ⟨w.heap.size, 0, none⟩ = some (.string k) ∧ W.cell? ⟨w.heap.size, 1, none⟩ = some (.int .i64 z) ∧ W.cell? ⟨w.heap.size, 2, none⟩ = some (.int .i64 m) ∧ Hid (Below w.heap.size w W)) (assumption)
    (first
      | (go_at_call 12; refine (KC.out _ (IW.out.below (tells_B (k := k) (z := z) (m := m) (by assumption)))).mono ?_; rintro e w' ⟨rfl, hb⟩; have hS' := tells_next (k := k) (z := z) (m := m) (by assumption) hb; clear hb)
      | (go_at_call 13; refine (KC2.out _ (IW.out.below (tells_B (k := k) (z := z) (m := m) (by assumption)))).mono ?_; rintro e w' ⟨rfl, hb⟩; have hS' := tells_next (k := k) (z := z) (m := m) (by assumption) hb; clear hb)
      | (go_at_call 15; refine (N1.out _ (IW.out.below (tells_B (k := k) (z := z) (m := m) (by assumption)))).mono ?_; intro e w' h; obtain ⟨a1, c1, rfl, hc1, hW1, hb⟩ := noteE HNL.out h; have hS' := tells_next (k := k) (z := z) (m := m) (by assumption) hb; clear hb h; have I1 := Lib.hid hW1; clear hW1)
      | (go_at_call 16; refine (N2.out _ (IW.out.below (tells_B (k := k) (z := z) (m := m) (by assumption)))).mono ?_; intro e w' h; obtain ⟨a2, c2, rfl, hc2, hW2, hb⟩ := noteE HNL.out h; have hS' := tells_next (k := k) (z := z) (m := m) (by assumption) hb; have I1b := Lib.hid (I1.out.below hb); have I2 := Lib.hid hW2; clear hb h hW2)
      | (go_at_call 14; refine (KS.out _ _ _ _ _ I1b.out I2.out).mono ?_; rintro e w' ⟨rfl, hb⟩; have hS' := tells_next (k := k) (z := z) (m := m) (by assumption) hb; clear hb)
      | (go_at_call 17; refine (K1.out _ (HP.out.below (tells_B (k := k) (z := z) (m := m) (by assumption)))).mono ?_; rintro e w' ⟨rfl, hb⟩; have hS' := tells_next (k := k) (z := z) (m := m) (by assumption) hb; clear hb)
      | (go_at_call 18; refine (K2.out _).mono ?_; rintro e w' ⟨rfl, hb⟩; have hS' := tells_next (k := k) (z := z) (m := m) (by assumption) hb; clear hb)
      | (go_at_call 19; refine (K3.out _ (HP.out.below (tells_B (k := k) (z := z) (m := m) (by assumption))) (IW.out.below (tells_B (k := k) (z := z) (m := m) (by assumption)))).mono ?_; rintro e w' ⟨rfl, hb⟩; have hS' := tells_next (k := k) (z := z) (m := m) (by assumption) hb; clear hb)
      | (go_at_call 20; refine (K4.out _ (IW.out.below (tells_B (k := k) (z := z) (m := m) (by assumption)))).mono ?_; rintro e w' ⟨rfl, hb⟩; have hS' := tells_next (k := k) (z := z) (m := m) (by assumption) hb; clear hb))
  all_goals
    go_wp2_with fail
    go_ret
    exact ⟨rfl, tells_B (k := k) (z := z) (m := m) (by assumption)⟩
theorem tells_walk {a : Option Addr} {n cap : Nat} {l : List Sn} {key : ByteArray} {size limit x : Int} {k : ByteArray} {z m : Int} (hn : l.length = n) (hnc : n ≤ cap) (hi : InW l) (hz : -9223372036854775808 ≤ z ∧ z < 9223372036854775808) (hm : -9223372036854775808 ≤ m ∧ m < 9223372036854775808)
    (hl : 0 ≤ limit ∧ limit < 18446744073709551616) (hx : 0 ≤ x ∧ x < 18446744073709551616) (w : World) (hP : PW w) (iW : IsW w a l) :
    Calls Tryd.prog 3 #[.slice a n cap, .string key, .int .i64 size, .int .u64 limit, .int .u64 x, .agg #[.string k, .int .i64 z, .int .i64 m]] w fun e w' => e = .returned (.bool true) ∧ Below w.heap.size w w' := by
  have kw := fun w iW => ref21_Few (a := a) (cap := cap) (most := 30) hn w iW
  have b0 : Below w.heap.size w (w.alloc (.cells #[.string k, .int .i64 z, .int .i64 m] 25)) := (Below.refl _ _).alloc (Nat.le_refl _) _
  have q0 : WBlk (w.alloc (.cells #[.string k, .int .i64 z, .int .i64 m] 25)) w.heap.size [⟨k, z, m⟩] := heap_alloc_new w _
  have B0 := Lib.hid b0
  have Q0 := Lib.hid q0
  clear b0 q0
  by_cases hf : FewP l 30
  · by_cases hky : key.size ≤ 100
    · by_cases hk : k.size ≤ 100
      · exact tells_main hn hnc hi hf hky hk hz hm hl hx w hP iW
      · rw [decide_eq_true hf] at kw
        have HP := Lib.hid hP
        have IW := Lib.hid iW
        have KW := Lib.hid kw
        have d1 : decide ((100 : Int) < k.size) = true := decide_eq_true (by omega)
        have d2 : decide (100 < k.size) = true := decide_eq_true (by omega)
        have d3 : decide ((100 : Int) < key.size) = false := decide_eq_false (by omega)
        have d4 : decide (100 < key.size) = false := decide_eq_false (by omega)
        clear kw hP iW hf hi hn hky hk
        go_enter Tryd.func3, Tryd.ntmps3
        go_wp2_with fail
        refine (law21_awake _ (HP.out.below B0.out)).mono ?_
        rintro e w1 ⟨rfl, hb⟩
        have B1 := Lib.hid (B0.out.trans (hb.mono B0.out.size))
        have q1 : w1.heap[w.heap.size]? = some (.cells #[.string k, .int .i64 z, .int .i64 m] 25 (0, 0)) := (hb.block _ (by simp)).trans Q0.out
        have Q1 := Lib.hid q1
        clear hb q1
        go_wp2_with fail
        refine (KW.out _ (IW.out.below B1.out)).mono ?_
        rintro e w2 ⟨rfl, hb⟩
        have B2 := Lib.hid (B1.out.trans (hb.mono B1.out.size))
        have q2 : w2.heap[w.heap.size]? = some (.cells #[.string k, .int .i64 z, .int .i64 m] 25 (0, 0)) := (hb.block _ (by exact (Array.getElem?_eq_some_iff.1 Q1.out).1)).trans Q1.out
        have r0 : w2.cell? ⟨w.heap.size, 0, none⟩ = some (.string k) := cell_of_row _ _ 0 _ _ _ q2
        clear hb B1 Q1 q2
        go_wp2_with fail
        go_ret
        exact ⟨rfl, B2.out⟩
    · rw [decide_eq_true hf] at kw
      have HP := Lib.hid hP
      have IW := Lib.hid iW
      have KW := Lib.hid kw
      have d3 : decide ((100 : Int) < key.size) = true := decide_eq_true (by omega)
      have d4 : decide (100 < key.size) = true := decide_eq_true (by omega)
      clear kw hP iW hf hi hn hky
      go_enter Tryd.func3, Tryd.ntmps3
      go_wp2_with fail
      refine (law21_awake _ (HP.out.below B0.out)).mono ?_
      rintro e w1 ⟨rfl, hb⟩
      have B1 := Lib.hid (B0.out.trans (hb.mono B0.out.size))
      have q1 : w1.heap[w.heap.size]? = some (.cells #[.string k, .int .i64 z, .int .i64 m] 25 (0, 0)) := (hb.block _ (by simp)).trans Q0.out
      have Q1 := Lib.hid q1
      clear hb q1
      go_wp2_with fail
      refine (KW.out _ (IW.out.below B1.out)).mono ?_
      rintro e w2 ⟨rfl, hb⟩
      have B2 := Lib.hid (B1.out.trans (hb.mono B1.out.size))
      clear hb B1 Q1
      go_wp2_with fail
      go_ret
      exact ⟨rfl, B2.out⟩
  · rw [decide_eq_false hf] at kw
    have HP := Lib.hid hP
    have IW := Lib.hid iW
    have KW := Lib.hid kw
    clear kw hP iW hf hi hn
    go_enter Tryd.func3, Tryd.ntmps3
    go_wp2_with fail
    refine (law21_awake _ (HP.out.below B0.out)).mono ?_
    rintro e w1 ⟨rfl, hb⟩
    have B1 := Lib.hid (B0.out.trans (hb.mono B0.out.size))
    have q1 : w1.heap[w.heap.size]? = some (.cells #[.string k, .int .i64 z, .int .i64 m] 25 (0, 0)) := (hb.block _ (by simp)).trans Q0.out
    have Q1 := Lib.hid q1
    clear hb q1
    go_wp2_with fail
    refine (KW.out _ (IW.out.below B1.out)).mono ?_
    rintro e w2 ⟨rfl, hb⟩
    have B2 := Lib.hid (B1.out.trans (hb.mono B1.out.size))
    clear hb B1 Q1
    go_wp2_with fail
    go_ret
    exact ⟨rfl, B2.out⟩
end Go.Proofs.YtejipmkbjmcnaaaDoor
