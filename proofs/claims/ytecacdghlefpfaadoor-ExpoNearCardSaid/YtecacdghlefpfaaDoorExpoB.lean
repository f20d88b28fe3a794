/- The walks of the document's times and Bounds, and ExpoNear. -/
import Derived.Test.YtecacdghlefpfaaDoorExpoJ
import Derived.Test.YtecacdghlefpfaaDoorExpoL
import Derived.Test.YtecacdghlefpfaaDoorWideR3
set_option linter.unusedVariables false
namespace Go.Proofs.YtecacdghlefpfaaDoor
open Go.RowKit Go.Shelf
attribute [local go_sem ↓] lt_alloc

theorem lastN_step (t : Int) {p : Nat} (h : 0 < p) : lastN t p = upT (lastN t (p - 1)) t / (p : Int) + 1 := by
  obtain ⟨m, rfl⟩ : ∃ m, p = m + 1 := ⟨p - 1, by omega⟩
  rfl
theorem firstN_step (t : Int) {p : Nat} (h : 0 < p) : firstN t p = dnT (firstN t (p - 1)) t / (p : Int) := by
  obtain ⟨m, rfl⟩ : ∃ m, p = m + 1 := ⟨p - 1, by omega⟩
  rfl
theorem lowN_step (t : Int) {p : Nat} (h : 0 < p) : (p % 2 = 1 → lowN t p = lowN t (p - 1) - min (lowN t (p - 1)) (lastN t p) ∧ highN t p = highN t (p - 1) - firstN t p) ∧
    (p % 2 = 0 → lowN t p = lowN t (p - 1) + firstN t p ∧ highN t p = highN t (p - 1) + lastN t p) := by
  obtain ⟨m, rfl⟩ : ∃ m, p = m + 1 := ⟨p - 1, by omega⟩
  constructor
  · intro hp
    exact ⟨by rw [lowN, if_pos (by omega)]; rfl, by rw [highN, if_pos (by omega)]; rfl⟩
  · intro hp
    exact ⟨by rw [lowN, if_neg (by omega)]; rfl, by rw [highN, if_neg (by omega)]; rfl⟩
/-- Bounds of all that is reckoned on the way. -/
theorem way_bd {t : Int} (t0 : 0 ≤ t) (t1 : t ≤ 4611686018427387904) {n : Nat} (hn : n ≤ 24) :
    (0 ≤ firstN t n ∧ firstN t n ≤ 4611686018427387904) ∧ (0 ≤ lastN t n ∧ lastN t n ≤ 4611686018427387952) ∧ (0 ≤ lowN t n ∧ lowN t n ≤ 4611686018427389104) ∧ (0 ≤ highN t n ∧ highN t n ≤ 4611686018427389104) := by
  obtain ⟨m, rfl⟩ : ∃ m : Nat, t = m := ⟨t.toNat, by omega⟩
  have x1 : (((m : Int)) : Rat) * hh ≤ 1 := x_le (by omega)
  have hx : 0 ≤ (((m : Int)) : Rat) * hh := Rat.mul_nonneg (Rat.intCast_nonneg.2 t0) (Rat.le_of_lt hh_bd.1)
  have s0 : (0 : Rat) ≤ sS := by decide +kernel
  obtain ⟨b0, b1⟩ := tT_bd hx x1 n
  have T1 := Rat.mul_le_mul_of_nonneg_left b1 s0
  obtain ⟨f1, f2⟩ := firstN_rat t0 x1 n
  obtain ⟨g1, g2⟩ := lastN_rat t0 x1 n
  obtain ⟨⟨l0, l1, l2⟩, h1, h2⟩ := low_high t0 x1 n hn
  have q0 := Rat.mul_nonneg s0 (qQ_pos hx x1 n).1
  have qo := qQ_one hx x1 n
  have q1 : qQ n ((((m : Int)) : Rat) * hh) ≤ 1 := by
    rcases (show n % 2 = 0 ∨ n % 2 = 1 by omega) with h | h
    · exact qo.1 h
    · have := qo.2 h
      clear qo
      generalize qQ n ((((m : Int)) : Rat) * hh) = q at *
      generalize tT n ((((m : Int)) : Rat) * hh) = tt at *
      grind
  have Q1 := Rat.mul_le_mul_of_nonneg_left q1 s0
  have bn : (n : Rat) ≤ 24 := (Rat.natCast_le_natCast (a := n) (b := 24)).2 hn
  rw [Rat.mul_one] at T1 Q1
  have hS : sS = 4611686018427387904 := rfl
  rw [hS] at T1 Q1
  clear b0 b1 qo q1 hx s0 hS
  rw [show sS = 4611686018427387904 from rfl] at *
  generalize 4611686018427387904 * tT n ((((m : Int)) : Rat) * hh) = T at *
  generalize 4611686018427387904 * qQ n ((((m : Int)) : Rat) * hh) = Q at *
  generalize (n : Rat) = N at *
  refine ⟨⟨firstN_nn t0 n, ?_⟩, ⟨lastN_nn t0 n, ?_⟩, ⟨l0, ?_⟩, ?_, ?_⟩
  · refine Rat.intCast_le_intCast.1 ?_
    rw [show ((4611686018427387904 : Int) : Rat) = 4611686018427387904 from rfl]
    generalize ((firstN m n : Int) : Rat) = F at *
    grind
  · refine Rat.intCast_le_intCast.1 ?_
    rw [show ((4611686018427387952 : Int) : Rat) = 4611686018427387952 from rfl]
    generalize ((lastN m n : Int) : Rat) = F at *
    grind
  · refine Rat.intCast_le_intCast.1 ?_
    rw [show ((4611686018427389104 : Int) : Rat) = 4611686018427389104 from rfl]
    generalize ((lowN m n : Int) : Rat) = F at *
    grind
  · refine Rat.intCast_nonneg.1 ?_
    generalize ((highN m n : Int) : Rat) = F at *
    grind
  · refine Rat.intCast_le_intCast.1 ?_
    rw [show ((4611686018427389104 : Int) : Rat) = 4611686018427389104 from rfl]
    generalize ((highN m n : Int) : Rat) = F at *
    grind
theorem dn_bd {a b : Int} (a0 : 0 ≤ a) (a1 : a ≤ 9223372036854775808) (b0 : 0 ≤ b) (b1 : b ≤ 4611686018427387904) : 0 ≤ a * b ∧ a * b ≤ 42535295865117307932921825928971026432 ∧ 0 ≤ dnT a b ∧ dnT a b ≤ a ∧ dnT a b ≤ upT a b ∧ upT a b ≤ dnT a b + 1 ∧ upT a b ≤ a := by
  have h0 := Int.mul_nonneg a0 b0
  have h1 : a * b ≤ a * 4611686018427387904 := Int.mul_le_mul_of_nonneg_left b1 a0
  unfold dnT upT
  generalize a * b = p at *
  split <;> omega
set_option maxRecDepth 100000 in
set_option maxHeartbeats 400000 in
theorem ref5_times (a b : Int) (u : Bool) (a0 : 0 ≤ a) (a1 : a ≤ 9223372036854775808) (b0 : 0 ≤ b) (b1 : b ≤ 4611686018427387904) (w : World) :
    Calls Tryd.prog 24 #[.int .u64 a, .int .u64 b, .bool u] w fun e w' => e = .returned (.int .u64 (if u = true then upT a b else dnT a b)) ∧ Below w.heap.size w w' := by
  obtain ⟨p0, p1, d0, d1, d2, d3, d4⟩ := dn_bd a0 a1 b0 b1
  have k1 := fun w => ref2_Mul a b a0 (by omega) b0 (by omega) w
  have k2 := fun w => ref2_DivP (wHi (a * b)) (wLo (a * b)) 4611686018427387904 (wHi_bd _).1 (wHi_bd _).2 (wLo_bd _).1 (wLo_bd _).2 (by decide) (by decide) w
  rw [wN_of p0 (by omega)] at k2
  have e1 : wLo (a * b / 4611686018427387904) = dnT a b := by
    show wLo (dnT a b) = _
    unfold wLo; omega
  have e2 : wHi (a * b / 4611686018427387904) = 0 := by
    show wHi (dnT a b) = _
    unfold wHi; omega
  rw [e1, e2] at k2
  have hu : upT a b = dnT a b + (if 0 < a * b % 4611686018427387904 then 1 else 0) := rfl
  have r0 : 0 ≤ a * b % 4611686018427387904 := Int.emod_nonneg _ (by decide)
  rw [hu]
  clear hu e1 e2 p0 p1 d2 d3 d4
  generalize a * b % 4611686018427387904 = r at *
  generalize wHi (a * b) = mh at *
  generalize wLo (a * b) = ml at *
  generalize dnT a b = d at *
  cases u
  · go_enter Tryd.func24, Tryd.ntmps24
    go_wp2_with fail
    refine (k1 _).mono ?_
    rintro r w1 ⟨rfl, hb1⟩
    have hB1 : Below w.heap.size w w1 := by repeat' (first | (with_reducible exact Below.refl _ _) | (with_reducible assumption) | (with_reducible refine Below.trans ?_ (Below.mono hb1 ?_)) | (with_reducible refine Below.alloc ?_ ?_ _) | (with_reducible refine below_drewN ?_ _) | (with_reducible refine Below.drew ?_) | (with_reducible refine Below.setCell ?_ ?_ _) | go_size | omega | (simp; omega))
    have hS1 := hB1.size
    clear hb1
    go_wp2_with fail
    refine (k2 _).mono ?_
    rintro r w2 ⟨rfl, hb2⟩
    have hB2 : Below w.heap.size w w2 := by repeat' (first | (with_reducible exact Below.refl _ _) | (with_reducible assumption) | (with_reducible refine Below.trans ?_ (Below.mono hb2 ?_)) | (with_reducible refine Below.alloc ?_ ?_ _) | (with_reducible refine below_drewN ?_ _) | (with_reducible refine Below.drew ?_) | (with_reducible refine Below.setCell ?_ ?_ _) | go_size | omega | (simp; omega))
    have hS2 := hB2.size
    clear hb2
    go_wp2_with fail
    go_ret
    exact ⟨rfl, by repeat' (first | (with_reducible exact Below.refl _ _) | (with_reducible assumption) | (with_reducible refine Below.trans ?_ (Below.mono hB2 ?_)) | (with_reducible refine Below.alloc ?_ ?_ _) | (with_reducible refine below_drewN ?_ _) | (with_reducible refine Below.drew ?_) | (with_reducible refine Below.setCell ?_ ?_ _) | go_size | omega | (simp; omega))⟩
  · by_cases hr : 0 < r
    · rw [if_pos rfl, if_pos hr]
      go_enter Tryd.func24, Tryd.ntmps24
      go_wp2_with fail
      refine (k1 _).mono ?_
      rintro r w1 ⟨rfl, hb1⟩
      have hB1 : Below w.heap.size w w1 := by repeat' (first | (with_reducible exact Below.refl _ _) | (with_reducible assumption) | (with_reducible refine Below.trans ?_ (Below.mono hb1 ?_)) | (with_reducible refine Below.alloc ?_ ?_ _) | (with_reducible refine below_drewN ?_ _) | (with_reducible refine Below.drew ?_) | (with_reducible refine Below.setCell ?_ ?_ _) | go_size | omega | (simp; omega))
      have hS1 := hB1.size
      clear hb1
      go_wp2_with fail
      refine (k2 _).mono ?_
      rintro r w2 ⟨rfl, hb2⟩
      have hB2 : Below w.heap.size w w2 := by repeat' (first | (with_reducible exact Below.refl _ _) | (with_reducible assumption) | (with_reducible refine Below.trans ?_ (Below.mono hb2 ?_)) | (with_reducible refine Below.alloc ?_ ?_ _) | (with_reducible refine below_drewN ?_ _) | (with_reducible refine Below.drew ?_) | (with_reducible refine Below.setCell ?_ ?_ _) | go_size | omega | (simp; omega))
      have hS2 := hB2.size
      clear hb2
      go_wp2_with fail
      go_ret
      exact ⟨rfl, by repeat' (first | (with_reducible exact Below.refl _ _) | (with_reducible assumption) | (with_reducible refine Below.trans ?_ (Below.mono hB2 ?_)) | (with_reducible refine Below.alloc ?_ ?_ _) | (with_reducible refine below_drewN ?_ _) | (with_reducible refine Below.drew ?_) | (with_reducible refine Below.setCell ?_ ?_ _) | go_size | omega | (simp; omega))⟩
    · rw [if_pos rfl, if_neg hr, Int.add_zero]
      go_enter Tryd.func24, Tryd.ntmps24
      go_wp2_with fail
      refine (k1 _).mono ?_
      rintro r w1 ⟨rfl, hb1⟩
      have hB1 : Below w.heap.size w w1 := by repeat' (first | (with_reducible exact Below.refl _ _) | (with_reducible assumption) | (with_reducible refine Below.trans ?_ (Below.mono hb1 ?_)) | (with_reducible refine Below.alloc ?_ ?_ _) | (with_reducible refine below_drewN ?_ _) | (with_reducible refine Below.drew ?_) | (with_reducible refine Below.setCell ?_ ?_ _) | go_size | omega | (simp; omega))
      have hS1 := hB1.size
      clear hb1
      go_wp2_with fail
      refine (k2 _).mono ?_
      rintro r w2 ⟨rfl, hb2⟩
      have hB2 : Below w.heap.size w w2 := by repeat' (first | (with_reducible exact Below.refl _ _) | (with_reducible assumption) | (with_reducible refine Below.trans ?_ (Below.mono hb2 ?_)) | (with_reducible refine Below.alloc ?_ ?_ _) | (with_reducible refine below_drewN ?_ _) | (with_reducible refine Below.drew ?_) | (with_reducible refine Below.setCell ?_ ?_ _) | go_size | omega | (simp; omega))
      have hS2 := hB2.size
      clear hb2
      go_wp2_with fail
      go_ret
      exact ⟨rfl, by repeat' (first | (with_reducible exact Below.refl _ _) | (with_reducible assumption) | (with_reducible refine Below.trans ?_ (Below.mono hB2 ?_)) | (with_reducible refine Below.alloc ?_ ?_ _) | (with_reducible refine below_drewN ?_ _) | (with_reducible refine Below.drew ?_) | (with_reducible refine Below.setCell ?_ ?_ _) | go_size | omega | (simp; omega))⟩
/-- The squares of y's bounds. -/
theorem sq_bd {t : Int} (t0 : 0 ≤ t) (t1 : t ≤ 4611686018427387904) (n : Nat) : 0 ≤ sqL t n ∧ sqL t n ≤ sqH t n ∧ sqH t n ≤ 4611686018427387904 := by
  obtain ⟨m, rfl⟩ : ∃ m : Nat, t = m := ⟨t.toNat, by omega⟩
  exact (squares m (x_le (by omega)) n).1
set_option maxRecDepth 100000 in
set_option maxHeartbeats 2000000 in
theorem ref5_Bounds (y : Int) (y0 : 0 ≤ y) (y1 : y < 137438953472) (w : World) :
    Calls Tryd.prog 14 #[.int .u64 y] w fun e w' => e = .returned (.tuple #[.int .u64 (sqL (y * 33554432) 5), .int .u64 (sqH (y * 33554432) 5)]) ∧ Below w.heap.size w w' := by
  have t0 : 0 ≤ y * 33554432 := by omega
  have t1 : y * 33554432 ≤ 4611686018427387904 := by omega
  have t2 : y * 33554432 < 18446744073709551616 := by omega
  have BD := Lib.hid (fun n hn => way_bd t0 t1 (n := n) hn)
  have SQ := Lib.hid (fun n => sq_bd t0 t1 n)
  have hF : lowF (y * 33554432) = lowN (y * 33554432) 24 - min (lowN (y * 33554432) 24) (lastN (y * 33554432) 24) := rfl
  have hG : highF (y * 33554432) = min (highN (y * 33554432) 24 + lastN (y * 33554432) 24) 4611686018427387904 := rfl
  have HF := Lib.hid hF
  have HG := Lib.hid hG
  clear hF hG
  generalize ht : y * 33554432 = t at *
  go_enter Tryd.func14, Tryd.ntmps14
  go_wp2_with fail
  go_loopw [5, 6, 7, 8, 9] (fun lv hv av fv nv wr => ∃ p : Nat, 1 ≤ p ∧ p ≤ 25 ∧ lv = .int .u64 (lowN t (p - 1)) ∧ hv = .int .u64 (highN t (p - 1)) ∧ av = .int .u64 (lastN t (p - 1)) ∧ fv = .int .u64 (firstN t (p - 1)) ∧ nv = .int .u64 p ∧ Below w.heap.size w wr) (fun _ _ _ _ nv _ => 25 - (intOf nv).toNat)
  case atStart => exact ⟨1, by omega, by omega, rfl, rfl, rfl, rfl, rfl, Below.refl _ _⟩
  case round =>
    obtain ⟨p, hp1, hp2, rfl, rfl, rfl, rfl, rfl, hB⟩ := hrel
    have hS := hB.size
    by_cases hlt : p ≤ 24
    · obtain ⟨⟨f0, f1⟩, ⟨a0, a1⟩, ⟨l0, l1⟩, h0, h1⟩ := BD.out (p - 1) (by omega)
      obtain ⟨⟨f0', f1'⟩, ⟨a0', a1'⟩, ⟨l0', l1'⟩, h0', h1'⟩ := BD.out p hlt
      have k1 := fun w => ref5_times (lastN t (p - 1)) t true a0 (by omega) t0 t1 w
      have k2 := fun w => ref5_times (firstN t (p - 1)) t false f0 (by omega) t0 t1 w
      simp only [if_true] at k1
      simp only [Bool.false_eq_true, if_false] at k2
      obtain ⟨_, _, u0, u1, u2, u3, u4⟩ := dn_bd a0 (by omega) t0 t1
      obtain ⟨_, _, v0, v1, v2, v3, v4⟩ := dn_bd f0 (by omega) t0 t1
      have eL := lastN_step t (show 0 < p by omega)
      have eF := firstN_step t (show 0 < p by omega)
      obtain ⟨s1, s2⟩ := lowN_step t (show 0 < p by omega)
      rw [eL] at a0' a1' s1 s2
      rw [eF] at f0' f1' s1 s2
      have hp0 : (0 : Int) < p := by omega
      have hpn : ((p : Int) == 0) = false := by simp; omega
      have qb : upT (lastN t (p - 1)) t / (p : Int) ≤ upT (lastN t (p - 1)) t := Int.ediv_le_self _ (by omega)
      have qf : dnT (firstN t (p - 1)) t / (p : Int) ≤ dnT (firstN t (p - 1)) t := Int.ediv_le_self _ (by omega)
      have qb0 : 0 ≤ upT (lastN t (p - 1)) t / (p : Int) := Int.ediv_nonneg (by omega) (by omega)
      have EL := Lib.hid eL
      have EF := Lib.hid eF
      clear eL eF u2 u3 v2 v3 v4
      generalize hq1 : upT (lastN t (p - 1)) t = U at *
      generalize hq2 : dnT (firstN t (p - 1)) t = D at *
      generalize dnT (lastN t (p - 1)) t = D2 at *
      generalize lowN t (p - 1) = l at *
      generalize highN t (p - 1) = h at *
      generalize lastN t (p - 1) = la at *
      generalize firstN t (p - 1) = fi at *
      clear hq1 hq2
      rcases (show p % 2 = 1 ∨ p % 2 = 0 by omega) with hm | hm
      · obtain ⟨r1, r2⟩ := s1 hm
        rw [r1] at l0' l1'
        rw [r2] at h0' h1'
        have R1 := Lib.hid r1
        have R2 := Lib.hid r2
        have hm' : (((p : Int) % 2) == 1) = true := by simp; omega
        clear s1 s2 r1 r2 hm
        go_wp2_with fail
        refine (k1 _).mono ?_
        rintro e w1 ⟨rfl, hb1⟩
        go_wp2_with fail
        refine (k2 _).mono ?_
        rintro e w2 ⟨rfl, hb2⟩
        have hB2 : Below w.heap.size w w2 := (hB.trans (hb1.mono hB.size)).trans (hb2.mono (Nat.le_trans hB.size hb1.size))
        go_wp2_with fail
        exact ⟨⟨p + 1, by omega, by omega, by rw [Nat.add_sub_cancel, R1.out], by rw [Nat.add_sub_cancel, R2.out], by rw [Nat.add_sub_cancel, EL.out], by rw [Nat.add_sub_cancel, EF.out], by go_num, hB2⟩, by simp [intOf]; omega⟩
      · obtain ⟨r1, r2⟩ := s2 hm
        rw [r1] at l0' l1'
        rw [r2] at h0' h1'
        have R1 := Lib.hid r1
        have R2 := Lib.hid r2
        have hm' : (((p : Int) % 2) == 1) = false := by simp; omega
        clear s1 s2 r1 r2 hm
        go_wp2_with fail
        refine (k1 _).mono ?_
        rintro e w1 ⟨rfl, hb1⟩
        go_wp2_with fail
        refine (k2 _).mono ?_
        rintro e w2 ⟨rfl, hb2⟩
        have hB2 : Below w.heap.size w w2 := (hB.trans (hb1.mono hB.size)).trans (hb2.mono (Nat.le_trans hB.size hb1.size))
        go_wp2_with fail
        exact ⟨⟨p + 1, by omega, by omega, by rw [Nat.add_sub_cancel, R1.out], by rw [Nat.add_sub_cancel, R2.out], by rw [Nat.add_sub_cancel, EL.out], by rw [Nat.add_sub_cancel, EF.out], by go_num, hB2⟩, by simp [intOf]; omega⟩
    · obtain rfl : p = 25 := by omega
      rw [show ((25 : Nat) : Int) = 25 from rfl]
      obtain ⟨⟨f0, f1⟩, ⟨a0, a1⟩, ⟨l0, l1⟩, h0, h1⟩ := BD.out 24 (by omega)
      obtain ⟨c0, c1, c2⟩ := SQ.out 0
      have z0 : sqL t 0 = lowF t := rfl
      have z1 : sqH t 0 = highF t := rfl
      rw [z0, HF.out] at c0 c1
      rw [z1, HG.out] at c1 c2
      rw [HF.out] at z0
      rw [HG.out] at z1
      have Z0 := Lib.hid z0
      have Z1 := Lib.hid z1
      clear z0 z1
      simp only [show 25 - 1 = 24 from rfl] at *
      generalize lowN t 24 = l at *
      generalize highN t 24 = h at *
      generalize lastN t 24 = la at *
      generalize firstN t 24 = fi at *
      go_wp2_with fail
      go_loopw [5, 6, 10] (fun lv hv iv wj => ∃ i : Nat, i ≤ 5 ∧ lv = .int .u64 (sqL t i) ∧ hv = .int .u64 (sqH t i) ∧ iv = .int .i64 i ∧ Below w.heap.size w wj) (fun _ _ iv _ => 5 - (intOf iv).toNat)
      case atStart => exact ⟨0, by omega, by rw [Z0.out], by rw [Z1.out], rfl, hB⟩
      case round =>
        obtain ⟨i, hi, rfl, rfl, rfl, hBi⟩ := hrel
        have hSi := hBi.size
        by_cases hlt : i < 5
        · obtain ⟨g0, g1, g2⟩ := SQ.out i
          have k1 := fun w => ref5_times (sqL t i) (sqL t i) false g0 (by omega) g0 (by omega) w
          have k2 := fun w => ref5_times (sqH t i) (sqH t i) true (by omega) (by omega) (by omega) g2 w
          simp only [if_true] at k2
          simp only [Bool.false_eq_true, if_false] at k1
          have E1 := Lib.hid (show sqL t (i + 1) = dnT (sqL t i) (sqL t i) from rfl)
          have E2 := Lib.hid (show sqH t (i + 1) = upT (sqH t i) (sqH t i) from rfl)
          generalize dnT (sqL t i) (sqL t i) = d1 at *
          generalize upT (sqH t i) (sqH t i) = u1 at *
          generalize sqL t i = s1 at *
          generalize sqH t i = s2 at *
          go_wp2_with fail
          refine (k1 _).mono ?_
          rintro e w1 ⟨rfl, hb1⟩
          go_wp2_with fail
          refine (k2 _).mono ?_
          rintro e w2 ⟨rfl, hb2⟩
          have hB2 : Below w.heap.size w w2 := (hBi.trans (hb1.mono hBi.size)).trans (hb2.mono (Nat.le_trans hBi.size hb1.size))
          go_wp2_with fail
          exact ⟨⟨i + 1, by omega, by rw [E1.out], by rw [E2.out], by go_num, hB2⟩, by simp [intOf]; omega⟩
        · obtain rfl : i = 5 := by omega
          go_wp2_with fail
          go_ret2
          exact ⟨rfl, hBi⟩
set_option maxRecDepth 100000 in
set_option maxHeartbeats 1000000 in
theorem near_walk (x : Int) (x0 : 0 ≤ x) (x1 : x < 18446744073709551616) (w : World) (hP : PW w) :
    Calls Tryd.prog 4 #[.int .u64 x] w fun r w' => r = .returned (.bool true) ∧ Below w.heap.size w w' := by
  have HP := Lib.hid hP
  clear hP
  have y0 : 0 ≤ x % 137438953472 := by omega
  have y1 : x % 137438953472 < 137438953472 := by omega
  obtain ⟨f1, f2, f3, f4, f5, f6⟩ := near_facts y0 y1
  obtain ⟨v0, v1⟩ := exV_bd (x % 137438953472)
  have k1 := fun w => ref5_Bounds (x % 137438953472) y0 y1 w
  have k2 := fun w h => expo_Of (x % 137438953472) y0 (by omega) w h
  generalize sqL (x % 137438953472 * 33554432) 5 = L at *
  generalize sqH (x % 137438953472 * 33554432) 5 = H at *
  generalize exV (x % 137438953472) = n at *
  go_enter Tryd.func4, Tryd.ntmps4
  go_wp2_with fail
  refine (awake5_any _ HP.out).mono ?_
  rintro r w1 ⟨rfl, hb1⟩
  have hB1 : Below w.heap.size w w1 := by repeat' (first | (with_reducible exact Below.refl _ _) | (with_reducible assumption) | (with_reducible refine Below.trans ?_ (Below.mono hb1 ?_)) | (with_reducible refine Below.alloc ?_ ?_ _) | (with_reducible refine below_drewN ?_ _) | (with_reducible refine Below.drew ?_) | (with_reducible refine Below.setCell ?_ ?_ _) | go_size | omega | (simp; omega))
  have hS1 := hB1.size
  clear hb1
  go_wp2_with fail
  refine (k1 _).mono ?_
  rintro r w2 ⟨rfl, hb2⟩
  have hB2 : Below w.heap.size w w2 := by repeat' (first | (with_reducible exact Below.refl _ _) | (with_reducible assumption) | (with_reducible refine Below.trans ?_ (Below.mono hb2 ?_)) | (with_reducible refine Below.alloc ?_ ?_ _) | (with_reducible refine below_drewN ?_ _) | (with_reducible refine Below.drew ?_) | (with_reducible refine Below.setCell ?_ ?_ _) | go_size | omega | (simp; omega))
  have hS2 := hB2.size
  clear hb2
  go_wp2_with fail
  refine (k2 _ (HP.out.below hB2)).mono ?_
  rintro r w3 ⟨rfl, hb3⟩
  have hB3 : Below w.heap.size w w3 := by repeat' (first | (with_reducible exact Below.refl _ _) | (with_reducible assumption) | (with_reducible refine Below.trans ?_ (Below.mono hb3 ?_)) | (with_reducible refine Below.alloc ?_ ?_ _) | (with_reducible refine below_drewN ?_ _) | (with_reducible refine Below.drew ?_) | (with_reducible refine Below.setCell ?_ ?_ _) | go_size | omega | (simp; omega))
  have hS3 := hB3.size
  clear hb3
  go_wp2_with fail
  go_ret
  exact ⟨rfl, hB3⟩
theorem near_law (x : Int) (w0 : (Lit.int .u64 x).wf = true) (w : World) (hP : PW w) :
    Calls Tryd.prog 4 #[.int .u64 x] w fun r w' => r = .returned (.bool true) ∧ Below w.heap.size w w' :=
  near_walk x (u64c w0).1 (u64c w0).2 w hP
end Go.Proofs.YtecacdghlefpfaaDoor
