/- The walk of time. -/
import Derived.Test.YtejipmkbjmcnaaaDoorTuneJ
set_option linter.unusedVariables false
set_option maxRecDepth 100000
set_option maxHeartbeats 2000000
namespace Go.Proofs.YtejipmkbjmcnaaaDoor
open Go.RowKit Go.Shelf
attribute [local go_sem ↓] lt_alloc

/-- What members of such odds take. -/
def fillO (l : List Sn) (O : Nat → Int) (n : Nat) (t : Int) : Int := sumW (fun i => mulS (ofS (wAt l i).size) (partO (O i) t)) n
theorem fillO_bd {l : List Sn} {O : Nat → Int} {n : Nat} {t : Int} (hl : n ≤ l.length) (hi : InW l) (hO : ∀ i, i < n → 0 ≤ O i ∧ O i < 18446744073709551616) (t0 : 0 ≤ t) : 0 ≤ fillO l O n t ∧ fillO l O n t < 18446744073709551616 := by
  unfold fillO
  induction n with
  | zero => exact ⟨Int.le_refl _, by show (0 : Int) < _; omega⟩
  | succ n ih =>
    refine addS_bd _ _ (ih (by omega) (fun i h => hO i (by omega))).1 ?_
    exact (mulS_bd _ _ (ofS_bd _ (hi n (by omega)).1.2).1 (partO_bd (hO n (by omega)).1 t0).1).1
theorem leadG_step {F : Nat → Int} {room : Int} {i f : Nat} : leadG F room i (f + 1) = if F i ≤ room then leadG F room (i + 1) f else i := rfl
theorem powT_bd {i : Nat} (h : i < 33) : (1 : Int) ≤ 2 ^ i ∧ (2 : Int) ^ i < 18446744073709551616 := by
  have h1 : 2 ^ i ≤ 2 ^ 32 := Nat.pow_le_pow_right (by decide) (by omega)
  have h2 : (0 : Int) < 2 ^ i := Int.pow_pos (by decide)
  have h3 : 2 ^ 32 = 4294967296 := by decide
  have h4 : ((2 ^ i : Nat) : Int) = (2 : Int) ^ i := by rw [Int.natCast_pow]; rfl
  omega
theorem tune_time {a oa : Option Addr} {n cap oc : Nat} {l : List Sn} {O : Nat → Int} {most : Int} (hn : l.length = n) (hm : n ≤ 1000000) (hi : InW l) (hO : ∀ i, i < n → 0 ≤ O i ∧ O i < 18446744073709551616) (m0 : 0 ≤ most) (m1 : most < 18446744073709551616)
    (w : World) (iW : IsW w a l) (iO : IsK .u64 w oa n O) :
    Calls Tryd.prog 43 #[.slice a n cap, .slice oa n oc, .int .u64 most] w fun e w' => e = .returned (.int .u64 ((leadG (fun k => fillO l O n (2 ^ k)) (roomW most) 0 33 - 1 : Nat) : Int)) ∧ Below w.heap.size w w' := by
  have kf := fun (t : Int) t0 t1 w iW iO => tune_fill (a := a) (oa := oa) (cap := cap) (oc := oc) (t := t) hn hm hi hO t0 t1 w iW iO
  have km := fun w => word_Mul most 4294967296 m0 m1 (by decide) (by decide) w
  have hfb := fun (k : Nat) (h : k < 33) => fillO_bd (l := l) (n := n) (t := 2 ^ k) (by omega) hi hO (by have := powT_bd h; omega)
  have hrb := mulS_bd most 4294967296 m0 (by decide)
  obtain ⟨R, hR⟩ : ∃ R, leadG (fun k => fillO l O n (2 ^ k)) (roomW most) 0 33 = R := ⟨_, rfl⟩
  rw [hR]
  have hroom : roomW most = mulS most 4294967296 := rfl
  rw [hroom] at hR
  have HR := Lib.hid hR
  have KF := Lib.hid kf
  have HFB := Lib.hid hfb
  have IW := Lib.hid iW
  have IO := Lib.hid iO
  clear hi hO iW iO hn kf hR hfb hroom
  generalize mulS most 4294967296 = room at *
  go_enter Tryd.func43, Tryd.ntmps43
  go_wp2_with (go_at_call 47; refine (km _).mono ?_; rintro e w' ⟨rfl, rfl⟩)
  go_loopw [8, 12] (fun lv iv W => ∃ i : Nat, i ≤ 33 ∧ iv = .int .u64 i ∧ lv = .int .u64 ((i - 1 : Nat) : Int) ∧ leadG (fun k => fillO l O n (2 ^ k)) room i (33 - i) = R ∧ Below w.heap.size w W) (fun _ iv _ => 33 - (intOf iv).toNat)
  case atStart => exact ⟨0, by decide, rfl, rfl, HR.out, Below.refl _ _⟩
  case round =>
    obtain ⟨i, hi, rfl, rfl, hR, hB⟩ := hrel
    have HR2 := Lib.hid hR
    clear hR
    by_cases hlt : i < 33
    · have hp := powT_bd hlt
      have hf := HFB.out i hlt
      have hst : leadG (fun k => fillO l O n (2 ^ k)) room i (33 - i) = if fillO l O n (2 ^ i) ≤ room then leadG (fun k => fillO l O n (2 ^ k)) room (i + 1) (33 - (i + 1)) else i := by
        rw [show 33 - i = (33 - (i + 1)) + 1 from by omega, leadG_step]
      have HST := Lib.hid hst
      have k1 := KF.out (2 ^ i) (by omega) hp.2
      have e1 : sumW (fun j => mulS (ofS (wAt l j).size) (partO (O j) (2 ^ i))) n = fillO l O n (2 ^ i) := rfl
      rw [e1] at k1
      clear hst e1
      have iW' := IW.out.below hB
      have iO' := IO.out.below hB
      generalize hfv : fillO l O n (2 ^ i) = fv at *
      have HFV := Lib.hid hfv
      clear hfv
      go_wp2_with fail
      refine (k1 _ iW' iO').mono ?_
      rintro e w2 ⟨rfl, hb⟩
      have HB2 := Lib.hid (hB.trans (hb.mono hB.size))
      clear hb k1 iW' iO'
      by_cases hle : fv ≤ room
      · have d1 : decide (room < fv) = false := decide_eq_false (by omega)
        have HN := Lib.hid (show leadG (fun k => fillO l O n (2 ^ k)) room (i + 1) (33 - (i + 1)) = R by rw [← HR2.out, HST.out, if_pos hle])
        clear hle
        go_wp2_with fail
        exact ⟨⟨i + 1, by omega, by go_num, by rw [show i + 1 - 1 = i from by omega], HN.out, HB2.out⟩, by simp [intOf]; omega⟩
      · have d1 : decide (room < fv) = true := decide_eq_true (by omega)
        have HN := Lib.hid (show R = i by rw [← HR2.out, HST.out, if_neg hle])
        clear hle
        go_wp2_with fail
        go_ret
        exact ⟨by rw [HN.out]; rfl, HB2.out⟩
    · obtain rfl : i = 33 := by omega
      have e : R = 33 := by rw [← HR2.out]; rfl
      subst e
      go_wp2_with fail
      go_ret
      exact ⟨rfl, hB⟩
end Go.Proofs.YtejipmkbjmcnaaaDoor
