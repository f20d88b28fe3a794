/- The walk of Score. -/
import Derived.Test.YtejipmkbjmcnaaaDoorTuneN
set_option linter.unusedVariables false
set_option maxRecDepth 100000
set_option maxHeartbeats 2000000
namespace Go.Proofs.YtejipmkbjmcnaaaDoor
open Go.RowKit Go.Shelf
attribute [local go_sem ↓] lt_alloc

theorem leadG_le (F : Nat → Int) (room : Int) : ∀ f i, leadG F room i f ≤ i + f
  | 0, i => Nat.le_refl _
  | f + 1, i => by
    rw [leadG_step]
    split
    · have := leadG_le F room f (i + 1); omega
    · omega
theorem timeW_le (l : List Sn) (limit most : Int) : timeW l limit most ≤ 32 := by
  have := leadG_le (fun n => fillW l limit (2 ^ n)) (roomW most) 33 0
  unfold timeW; omega
theorem tune_Score {a : Option Addr} {n cap : Nat} {l : List Sn} {limit most : Int} (hn : l.length = n) (hi : InW l) (l0 : 0 ≤ limit) (l1 : limit < 18446744073709551616) (m0 : 0 ≤ most) (m1 : most < 18446744073709551616) (w : World) (hP : PW w) (iW : IsW w a l) :
    Calls Tryd.prog 25 #[.slice a n cap, .int .u64 limit, .int .u64 most] w fun e w' => e = .returned (.int .u64 (scoreW l limit most)) ∧ Below w.heap.size w w' := by
  have k1 := fun w iW => tune_Check (a := a) (cap := cap) hn w iW
  have HP := Lib.hid hP
  have IW := Lib.hid iW
  have b0 : Below w.heap.size w (w.alloc (.cells #[.slice a n cap] 22)) := (Below.refl _ _).alloc (Nat.le_refl _) _
  have q0 : (w.alloc (.cells #[.slice a n cap] 22)).cell? ⟨w.heap.size, 0, none⟩ = some (.slice a n cap) := cell_of_row _ _ 0 _ _ _ (heap_alloc_new w _)
  have B0 := Lib.hid b0
  have Q0 := Lib.hid q0
  clear b0 q0
  by_cases hmay : mayW l
  · have e : scoreW l limit most = sumW (fun i => mulS (ofS (wAt l i).n) (partO ((fun i => oddsW (wAt l i) limit) i) (2 ^ timeW l limit most))) n := by
      unfold scoreW
      rw [if_pos hmay, hn]; rfl
    rw [e]
    rw [decide_eq_true hmay] at k1
    have hm : n ≤ 1000000 := by have := hmay.1; omega
    have hob := oddsL_bd (limit := limit) hn hi l0
    have hp := powT_bd (i := timeW l limit most) (by have := timeW_le l limit most; omega)
    have k2 := fun w hP iW => tune_all (a := a) (cap := cap) (limit := limit) hn hm hi l0 l1 w hP iW
    have k3 := fun oa w iW iO => tune_time (a := a) (oa := oa) (cap := cap) (oc := n) (O := fun i => oddsW (wAt l i) limit) (most := most) hn hm hi hob m0 m1 w iW iO
    rw [timeO_eq hn] at k3
    have kf := fun oa b1 b2 b3 i hin w iW iO q1 q2 q3 => tune_Score1 (a := a) (oa := oa) (cap := cap) (oc := n) (b1 := b1) (b2 := b2) (b3 := b3) (i := i) (t := 2 ^ timeW l limit most) (O := fun i => oddsW (wAt l i) limit) hn hi hob (by omega) hp.2 hin w iW iO q1 q2 q3
    have hF : ∀ i, i < n → 0 ≤ mulS (ofS (wAt l i).n) (partO ((fun i => oddsW (wAt l i) limit) i) (2 ^ timeW l limit most)) ∧ mulS (ofS (wAt l i).n) (partO ((fun i => oddsW (wAt l i) limit) i) (2 ^ timeW l limit most)) < 18446744073709551616 := fun i h =>
      mulS_bd _ _ (ofS_bd _ (hi i (by rw [hn]; exact h)).2.2).1 (partO_bd (hob i h).1 (by omega)).1
    have ks := fun c1 c2 c3 w hf => tune_sum_score (a := a) (cap := cap) (c1 := c1) (c2 := c2) (c3 := c3) hF hm w hf
    have htl := timeW_le l limit most
    have K2 := Lib.hid k2
    have K3 := Lib.hid k3
    have KF := Lib.hid kf
    have KS := Lib.hid ks
    clear k2 k3 kf ks hF hob e hP iW hi hmay hn
    generalize timeW l limit most = tm at *
    have mf : ∀ (fn : Fn) (first cap : Array Value) (w : World), (Instr.makeFunc fn first cap).run Tryd.prog w = .ok (.func fn first cap) w := fun _ _ _ _ => rfl
    go_enter Tryd.func25, Tryd.ntmps25
    go_wp2_with fail
    refine (k1 _ (IW.out.below B0.out)).mono ?_
    rintro e w1 ⟨rfl, hb⟩
    have HB1 := Lib.hid (B0.out.trans (hb.mono B0.out.size))
    have q1 := keepB hb Q0.out
    clear hb k1
    go_wp2_with fail
    refine (K2.out _ (HP.out.below HB1.out) (IW.out.below HB1.out)).mono ?_
    rintro e w2 ⟨oa, rfl, iO, hb⟩
    have HB2 := Lib.hid (HB1.out.trans (hb.mono HB1.out.size))
    have q2 := keepB hb q1
    have IO := Lib.hid iO
    clear hb iO K2 q1
    have b2 : Below w2.heap.size w2 (w2.alloc (.cells #[.slice oa n n] 61)) := (Below.refl _ _).alloc (Nat.le_refl _) _
    have q3 := keepB b2 q2
    have r3 : (w2.alloc (.cells #[.slice oa n n] 61)).cell? ⟨w2.heap.size, 0, none⟩ = some (.slice oa n n) := cell_of_row _ _ 0 _ _ _ (heap_alloc_new w2 _)
    have HB3 := Lib.hid (HB2.out.trans (b2.mono HB2.out.size))
    have IO3 := Lib.hid (IO.out.below b2)
    clear b2 IO q2
    go_wp2_with fail
    refine (K3.out oa _ (IW.out.below HB3.out) IO3.out).mono ?_
    rintro e w4 ⟨rfl, hb⟩
    have HB4 := Lib.hid (HB3.out.trans (hb.mono HB3.out.size))
    have q4 := keepB hb q3
    have r4 := keepB hb r3
    have IO4 := Lib.hid (IO3.out.below hb)
    clear hb q3 r3 IO3 HB3 K3
    have b4 : Below w4.heap.size w4 (w4.alloc (.cells #[.int .u64 (2 ^ tm)] 23)) := (Below.refl _ _).alloc (Nat.le_refl _) _
    have q5 := keepB b4 q4
    have r5 := keepB b4 r4
    have s5 : (w4.alloc (.cells #[.int .u64 (2 ^ tm)] 23)).cell? ⟨w4.heap.size, 0, none⟩ = some (.int .u64 (2 ^ tm)) := cell_of_row _ _ 0 _ _ _ (heap_alloc_new w4 _)
    have HB5 := Lib.hid (HB4.out.trans (b4.mono HB4.out.size))
    have IO5 := Lib.hid (IO4.out.below b4)
    clear b4 IO4 q4 r4 HB4
    go_wp2_with fail
    have R5 := Lib.hid r5
    have Q5 := Lib.hid q5
    have S5 := Lib.hid s5
    clear q5 r5 s5
    refine (KS.out _ _ _ _ fun i hi V hV => KF.out oa w.heap.size w2.heap.size w4.heap.size i hi V ((IW.out.below HB5.out).below hV) (IO5.out.below hV) (keepB hV Q5.out) (keepB hV R5.out) (keepB hV S5.out)).mono ?_
    rintro e w6 ⟨rfl, hb⟩
    have HB6 := Lib.hid (HB5.out.trans (hb.mono HB5.out.size))
    clear hb
    go_wp2_with fail
    go_ret
    exact ⟨rfl, HB6.out⟩
  · have e : scoreW l limit most = 0 := by unfold scoreW; rw [if_neg hmay]
    rw [e]
    rw [decide_eq_false hmay] at k1
    clear hP iW hmay hi hn e
    go_enter Tryd.func25, Tryd.ntmps25
    go_wp2_with fail
    refine (k1 _ (IW.out.below B0.out)).mono ?_
    rintro e w1 ⟨rfl, hb⟩
    have HB1 := Lib.hid (B0.out.trans (hb.mono B0.out.size))
    clear hb k1
    go_wp2_with fail
    go_ret
    exact ⟨rfl, HB1.out⟩
end Go.Proofs.YtejipmkbjmcnaaaDoor
