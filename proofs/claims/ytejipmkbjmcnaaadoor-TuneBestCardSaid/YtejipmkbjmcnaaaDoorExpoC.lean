/- The walks of the layer expo: each function comes to the plain number of ExpoS. -/
import Derived.Test.YtejipmkbjmcnaaaDoorFixedC
import Derived.Test.YtejipmkbjmcnaaaDoorExpoS
import Derived.LoopTactic
set_option linter.unusedVariables false
namespace Go.Proofs.YtejipmkbjmcnaaaDoor
open Go.RowKit Go.Shelf
attribute [local go_sem ↓] lt_alloc

/-- The table lies in the program's first variable. -/
def PW (w : World) : Prop := ∀ k, k < 37 → w.cell? ⟨0, k, none⟩ = some (.int .u64 (pw k))
theorem PW.below {w w' : World} (h : PW w) (hb : Below w.heap.size w w') : PW w' := fun k hk => keepB hb (h k hk)
theorem cur_bits {X P : Int} (X0 : 0 ≤ X) (P0 : 0 < P) : X % (2 * P) / P = X / P % 2 ∧ (X / P % 2 = 0 → X % P = X % (2 * P)) ∧ (X / P % 2 = 1 → X % (2 * P) - P = X % P) ∧ 0 ≤ X % (2 * P) ∧ X % (2 * P) < 2 * P := by
  have e1 := Int.emod_add_mul_ediv X (2 * P)
  have e2 := Int.emod_nonneg X (show 2 * P ≠ 0 by omega)
  have e3 := Int.emod_lt_of_pos X (show 0 < 2 * P by omega)
  have d1 := Int.emod_add_mul_ediv X P
  have d2 := Int.emod_nonneg X (show P ≠ 0 by omega)
  have d3 := Int.emod_lt_of_pos X P0
  have h : X / (2 * P) = X / P / 2 := by rw [Int.mul_comm, Int.ediv_ediv_of_nonneg (by omega)]
  have q1 : X / P = 2 * (X / P / 2) + X / P % 2 := by omega
  have key : X % (2 * P) = X / P % 2 * P + X % P := by
    have : P * (X / P) = 2 * P * (X / P / 2) + X / P % 2 * P := by
      have : P * (X / P) = P * (2 * (X / P / 2) + X / P % 2) := by rw [← q1]
      rw [this]; grind
    rw [h] at e1
    omega
  have b : X / P % 2 = 0 ∨ X / P % 2 = 1 := by omega
  rcases b with b | b
  · rw [b] at key ⊢
    refine ⟨?_, fun _ => by omega, fun h => by omega, e2, e3⟩
    exact Int.ediv_eq_zero_of_lt e2 (by omega)
  · rw [b] at key ⊢
    refine ⟨?_, fun h => by omega, fun _ => by omega, e2, e3⟩
    have : X % (2 * P) = X % P + 1 * P := by omega
    rw [this, Int.add_mul_ediv_right _ _ (by omega), Int.ediv_eq_zero_of_lt d2 d3]; rfl
theorem shr62 {l p : Int} (l0 : 0 ≤ l) (l1 : l ≤ 4611686018427387904) (p0 : 0 ≤ p) (p1 : p ≤ 4611686018427387904) :
    wLo (wShr (wN (wHi (l * p)) (wLo (l * p))) 62) = l * p / 4611686018427387904 := by
  have m := mul_bd l0 (show l < 18446744073709551616 by omega) p0 (show p < 18446744073709551616 by omega)
  have d := mul_div_bd l0 l1 p0 p1
  rw [wN_of m.1 (by omega), show wShr (l * p) 62 = l * p / 4611686018427387904 from rfl]
  unfold wLo; omega
set_option maxRecDepth 100000 in
set_option maxHeartbeats 1000000 in
theorem expo_Of (X : Int) (X0 : 0 ≤ X) (X1 : X < 18446744073709551616) (w : World) (hP : PW w) :
    Calls Tryd.prog 65 #[.int .u64 X] w fun e w' => e = .returned (.int .u64 (exV X)) ∧ Below w.heap.size w w' := by
  rcases Int.lt_or_le X 137438953472 with hX | hX
  · have HP := Lib.hid hP
    have hV : exH X 37 / 1073741824 = exV X := by rw [exH_fin]; unfold exV; rw [if_neg (by omega)]
    have HV := Lib.hid hV
    clear hV hP
    go_enter Tryd.func65, Tryd.ntmps65
    go_wp2_with fail
    go_step3
    go_wp2_with fail
    go_step3
    go_wp2_with fail
    go_loopw [0, 3, 8] (fun xv lv iv wr => ∃ i : Nat, i ≤ 37 ∧ iv = .int .i64 i ∧ xv = .int .u64 (X % 2 ^ (37 - i)) ∧ lv = .int .u64 (exH X i) ∧ Below w.heap.size w wr) (fun _ _ iv _ => 37 - (intOf iv).toNat)
    case atStart => exact ⟨0, by omega, rfl, by rw [Int.emod_eq_of_lt X0 (by simpa using hX)], rfl, Below.refl _ _⟩
    case round =>
      obtain ⟨i, hi, rfl, rfl, rfl, hB⟩ := hrel
      by_cases hlt : i < 37
      · have hpos : (0 : Int) < 2 ^ (36 - i) := Int.pow_pos (by decide)
        have h2 : (2 : Int) ^ (37 - i) = 2 * 2 ^ (36 - i) := by rw [show 37 - i = (36 - i) + 1 from by omega, Int.pow_succ, Int.mul_comm]
        obtain ⟨b1, b2, b3, b4, b5⟩ := cur_bits X0 hpos
        obtain ⟨l0, l1⟩ := exH_bd X i (by omega)
        rw [← h2] at b1 b2 b3 b4 b5
        by_cases hz : X % 2 ^ (37 - i) = 0
        · have hs := exH_stop X (by omega) hz (37 - i) (by omega)
          rw [show i + (37 - i) = 37 from by omega] at hs
          have HS := Lib.hid hs
          have hzz : (X % 2 ^ (37 - i) == 0) = true := by simpa using hz
          clear hz hs b1 b2 b3 h2
          go_wp2_with fail
          rw [Exit.noGoto_ret]; show bodyPost _ _ _ _ _ _
          go_ret
          exact ⟨ret_u (by rw [← HV.out, HS.out]), hB⟩
        · have hzz : (X % 2 ^ (37 - i) == 0) = false := by simpa using hz
          have f1 : (36 - (i : Int)).toNat = 36 - i := by omega
          have f2 : min (36 - i) 64 = 36 - i := by omega
          rcases (show X / 2 ^ (36 - i) % 2 = 0 ∨ X / 2 ^ (36 - i) % 2 = 1 by omega) with hb | hb
          · have HB := Lib.hid hb
            have hs : exH X (i + 1) = exH X i := by rw [exH]; unfold exStep; rw [hb, if_neg (by decide)]
            have HS := Lib.hid hs
            have HC := Lib.hid (b2 hb)
            rw [hb] at b1
            clear hz hs b2 b3 h2 hb
            go_wp2_with fail
            exact ⟨⟨i + 1, by omega, by go_num, by rw [show 37 - (i + 1) = 36 - i from by omega, HC.out], by rw [HS.out], hB⟩, by simp [intOf]; omega⟩
          · have hs : exH X (i + 1) = exH X i * pw (36 - i) / 4611686018427387904 := by rw [exH]; unfold exStep; rw [hb, if_pos rfl]
            have HS := Lib.hid hs
            have HC := Lib.hid (b3 hb)
            have hle : 2 ^ (36 - i) ≤ X % 2 ^ (37 - i) := by have := b3 hb; have := Int.emod_nonneg X (show (2 : Int) ^ (36 - i) ≠ 0 by omega); omega
            have hYX : X % 2 ^ (37 - i) ≤ X := by
              have e1 := Int.emod_add_mul_ediv X (2 ^ (37 - i))
              have e2 := Int.mul_nonneg (show (0 : Int) ≤ 2 ^ (37 - i) by omega) (Int.ediv_nonneg X0 (show (0 : Int) ≤ 2 ^ (37 - i) by omega))
              omega
            have hp1 : (2 : Int) ^ (36 - i) < 18446744073709551616 := by
              have e1 := hYX
              omega
            rw [hb] at b1
            obtain ⟨p0, p1⟩ := pw_bd' (36 - i)
            have hcell : wr.cell? ⟨0, 36 - i, none⟩ = some (.int .u64 (pw (36 - i))) := (HP.out.below hB) (36 - i) (by omega)
            have k1 := fun w => wide_Mul_exact (exH X i) (pw (36 - i)) l0 (by omega) p0 (by omega) w
            have k2 := fun w => wide_Shr (wHi (exH X i * pw (36 - i))) (wLo (exH X i * pw (36 - i))) 62 (wHi_bd _).1 (wHi_bd _).2 (wLo_bd _).1 (wLo_bd _).2 (by decide) (by decide) w
            rw [shr62 l0 l1 p0 p1] at k2
            generalize exH X i * pw (36 - i) / 4611686018427387904 = nl at *
            generalize wHi (wShr (wN (wHi (exH X i * pw (36 - i))) (wLo (exH X i * pw (36 - i)))) 62) = nh at *
            have hfd : ∀ (x y : Int) (w : World), (Instr.field 77 (.agg #[.int .u64 x, .int .u64 y]) 1).run Tryd.prog w = .ok (.int .u64 y) w := fun _ _ _ => by first | kernel_rfl | rfl
            have hS := hB.size
            clear hz hs b2 b3 h2 hb
            generalize X % 2 ^ (37 - i) = Y at *
            obtain ⟨P, hPP⟩ : ∃ P, (2 : Int) ^ (36 - i) = P := ⟨_, rfl⟩
            clear b5
            rw [hPP] at b1 hle hp1 hpos
            go_wp2_with (go_at_call 76; refine (k1 _).mono ?_; rintro e w' ⟨rfl, rfl⟩)
            refine (k2 _).mono ?_
            rintro e w2 ⟨rfl, hb2⟩
            have hB2 : Below w.heap.size w w2 := by repeat' (first | (with_reducible exact Below.refl _ _) | (with_reducible assumption) | (with_reducible refine Below.trans ?_ (Below.mono hb2 ?_)) | (with_reducible refine Below.alloc ?_ ?_ _) | (with_reducible refine below_drewN ?_ _) | (with_reducible refine Below.drew ?_) | (with_reducible refine Below.setCell ?_ ?_ _) | go_size | omega | (simp; omega))
            go_wp2_with fail
            exact ⟨⟨i + 1, by omega, by go_num, by rw [show 37 - (i + 1) = 36 - i from by omega, ← HC.out, hPP], by rw [HS.out], hB2⟩, by simp [intOf]; omega⟩
      · obtain rfl : i = 37 := by omega
        go_wp2_with fail
        rw [Exit.noGoto_ret]; show bodyPost _ _ _ _ _ _
        go_ret
        exact ⟨ret_u HV.out, hB⟩
  · have e : exV X = 0 := by unfold exV; rw [if_pos hX]
    rw [e]
    go_enter Tryd.func65, Tryd.ntmps65
    go_wp2_with fail
    go_step3
    go_wp2_with fail
    rw [Exit.noGoto_ret]; show bodyPost _ _ _ _ _ _
    go_ret
    exact ⟨rfl, Below.refl _ _⟩
theorem fx_bd (a b : Int) (a0 : 0 ≤ a) (b0 : 0 ≤ b) : 0 ≤ fxV a b ∧ fxV a b < 18446744073709551616 := partV_bd (Int.ediv_nonneg (by omega) b0)
/-- Of a ratio. -/
def exR (a b : Int) : Int := if fxE a b = 0 then exV (fxV a b) else 0
theorem expo_Ratio (a b : Int) (a0 : 0 ≤ a) (a1 : a < 18446744073709551616) (b0 : 0 ≤ b) (b1 : b < 18446744073709551616) (w : World) (hP : PW w) :
    Calls Tryd.prog 53 #[.int .u64 a, .int .u64 b] w fun e w' => e = .returned (.int .u64 (exR a b)) ∧ Below w.heap.size w w' := by
  have HP := Lib.hid hP
  have k1 := fun w => fixed_Of a b a0 a1 b0 b1 w
  obtain ⟨v0, v1⟩ := fx_bd a b a0 b0
  have hr : exR a b = if fxE a b = 0 then exV (fxV a b) else 0 := rfl
  generalize exR a b = r at *
  generalize fxV a b = v at *
  generalize fxE a b = e at *
  by_cases he : e = 0
  · rw [if_pos he] at hr
    subst he hr
    clear hP
    go_enter Tryd.func53, Tryd.ntmps53
    go_wp2_with fail
    refine (k1 _).mono ?_
    rintro r w1 ⟨rfl, hb1⟩
    have hB1 : Below w.heap.size w w1 := by repeat' (first | (with_reducible exact Below.refl _ _) | (with_reducible assumption) | (with_reducible refine Below.trans ?_ (Below.mono hb1 ?_)) | (with_reducible refine Below.alloc ?_ ?_ _) | (with_reducible refine below_drewN ?_ _) | (with_reducible refine Below.drew ?_) | (with_reducible refine Below.setCell ?_ ?_ _) | go_size | omega | (simp; omega))
    have hS1 := hB1.size
    clear hb1
    go_wp2_with fail
    refine (expo_Of v v0 v1 _ (HP.out.below hB1)).mono ?_
    rintro r w2 ⟨rfl, hb2⟩
    have hB2 : Below w.heap.size w w2 := by repeat' (first | (with_reducible exact Below.refl _ _) | (with_reducible assumption) | (with_reducible refine Below.trans ?_ (Below.mono hb2 ?_)) | (with_reducible refine Below.alloc ?_ ?_ _) | (with_reducible refine below_drewN ?_ _) | (with_reducible refine Below.drew ?_) | (with_reducible refine Below.setCell ?_ ?_ _) | go_size | omega | (simp; omega))
    have hS2 := hB2.size
    clear hb2
    go_wp2_with fail
    go_ret
    exact ⟨rfl, hB2⟩
  · rw [if_neg he] at hr
    subst hr
    have he1 : (e != 0) = true := by simpa using he
    clear hP he
    go_enter Tryd.func53, Tryd.ntmps53
    go_wp2_with fail
    refine (k1 _).mono ?_
    rintro r w1 ⟨rfl, hb1⟩
    have hB1 : Below w.heap.size w w1 := by repeat' (first | (with_reducible exact Below.refl _ _) | (with_reducible assumption) | (with_reducible refine Below.trans ?_ (Below.mono hb1 ?_)) | (with_reducible refine Below.alloc ?_ ?_ _) | (with_reducible refine below_drewN ?_ _) | (with_reducible refine Below.drew ?_) | (with_reducible refine Below.setCell ?_ ?_ _) | go_size | omega | (simp; omega))
    have hS1 := hB1.size
    clear hb1
    go_wp2_with fail
    go_ret
    exact ⟨rfl, hB1⟩
end Go.Proofs.YtejipmkbjmcnaaaDoor
