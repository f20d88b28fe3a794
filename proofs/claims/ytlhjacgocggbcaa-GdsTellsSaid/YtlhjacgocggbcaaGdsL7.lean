/- The walk of GdsTells. -/
import Derived.Test.YtlhjacgocggbcaaGdsU
import Derived.Test.YtlhjacgocggbcaaGdsRD
import Derived.Test.YtlhjacgocggbcaaGdsRO
set_option linter.unusedVariables false
set_option maxRecDepth 100000
set_option maxHeartbeats 4000000
namespace Go.Proofs.Ytlhjacgocggbcaa
open Go.RowKit Go.Shelf
attribute [local go_sem ↓] lt_alloc

section
open Go.ChangeShapes Go.WideShapes
variable {H : Type} {enc : TypeId × Value → H} {P : Program} {w : World} {base : Nat} {spare : Nat → Bool} {held : Bool}
theorem okWide_array {r : Reach} {b0 n : Nat} {t e : TypeId} {v : Value} (ht : P.underlying t = some (.array n e)) (h : Value.okWide P w r b0 t v) : ∃ cs, v = .agg cs ∧ cs.size = P.cellsOf t := by
  simp only [Value.okWide, ht] at h
  obtain ⟨cs, h1, h2, _⟩ := h
  exact ⟨cs, h1, h2⟩
/-- What came in as an array of three numbers. -/
theorem open_arr3 {r : Reach} {b0 : Nat} {t e : TypeId} {v : Value} {d : DataW H} {p : List MemPlace} (ht : P.underlying t = some (.array 3 e)) (ct : P.cellsOf t = 3) (he : P.underlying e = some (.int .u64)) (ce : P.cellsOf e = 1)
    (hv : Value.okWide P w r b0 t v) (h : DataW.Trod enc P w base spare held t v d p) : ∃ x y z : Int, (0 ≤ x ∧ x < 18446744073709551616) ∧ (0 ≤ y ∧ y < 18446744073709551616) ∧ (0 ≤ z ∧ z < 18446744073709551616) ∧ v = .agg #[.int .u64 x, .int .u64 y, .int .u64 z] := by
  obtain ⟨cs, rfl, hsz⟩ := okWide_array ht hv
  obtain ⟨l⟩ := cs
  obtain ⟨n, h⟩ := h
  have h' : DataW.trod enc P w base spare held n t l = some (d, p) := h
  rw [ct] at hsz
  have hl3 : l.length = 3 := by simpa using hsz
  obtain ⟨xs, m, _, _, hlen, hl, hel⟩ := DataW.trod_array ht h'
  rw [ct] at hlen
  have each : ∀ i, i < 3 → ∃ z : Int, l[i]? = some (.int .u64 z) ∧ 0 ≤ z ∧ z < 18446744073709551616 := by
    intro i hi
    have h1 := hel i hi
    rw [ce, Nat.mul_one, List.getElem?_eq_getElem (by omega)] at h1
    obtain ⟨z, hz, _, wz⟩ := DataW.trod_int he h1
    refine ⟨z, ?_, u64w wz⟩
    have h2 : ((l.drop i).take 1)[0]? = some (.int .u64 z) := by rw [hz]; rfl
    simpa using h2
  obtain ⟨x, hx, bx⟩ := each 0 (by decide)
  obtain ⟨y, hy, b1⟩ := each 1 (by decide)
  obtain ⟨z, hz, bz⟩ := each 2 (by decide)
  refine ⟨x, y, z, bx, b1, bz, ?_⟩
  have e : l = [.int .u64 x, .int .u64 y, .int .u64 z] := by
    apply List.ext_getElem?
    intro i
    match i with
    | 0 => exact hx
    | 1 => exact hy
    | 2 => exact hz
    | j + 3 => rw [List.getElem?_eq_none (by omega), List.getElem?_eq_none (by simp)]
  rw [e]
end
theorem gt_B {w W : World} {x y z : Int} (h : W.cell? ⟨w.heap.size, 0, none⟩ = some (.int .u64 x) ∧ W.cell? ⟨w.heap.size, 1, none⟩ = some (.int .u64 y) ∧ W.cell? ⟨w.heap.size, 2, none⟩ = some (.int .u64 z) ∧ Hid (Below w.heap.size w W)) : Below w.heap.size w W := h.2.2.2.out
theorem gt_next {w W w' : World} {x y z : Int} (h : W.cell? ⟨w.heap.size, 0, none⟩ = some (.int .u64 x) ∧ W.cell? ⟨w.heap.size, 1, none⟩ = some (.int .u64 y) ∧ W.cell? ⟨w.heap.size, 2, none⟩ = some (.int .u64 z) ∧ Hid (Below w.heap.size w W)) (hb : Below W.heap.size W w') :
    w'.cell? ⟨w.heap.size, 0, none⟩ = some (.int .u64 x) ∧ w'.cell? ⟨w.heap.size, 1, none⟩ = some (.int .u64 y) ∧ w'.cell? ⟨w.heap.size, 2, none⟩ = some (.int .u64 z) ∧ Hid (Below w.heap.size w w') :=
  ⟨keepB hb h.1, keepB hb h.2.1, keepB hb h.2.2.1, Lib.hid (h.2.2.2.out.trans (hb.mono h.2.2.2.out.size))⟩
theorem gdsTells_walk {most kind x y z : Int} {sa ca aa ra : Option Addr} {n nc m q cs cc ac rc : Nat} {Z C A R : Nat → Int} (hZ : InK .i64 Z) (hC : InK .i64 C) (hA : InK .i64 A) (hR : InK .u64 R) (hx : 0 ≤ x ∧ x < 18446744073709551616) (hy : 0 ≤ y ∧ y < 18446744073709551616) (hz : 0 ≤ z ∧ z < 18446744073709551616)
    (w : World) (iZ : IsK .i64 w sa n Z) (iC : IsK .i64 w ca nc C) (iA : IsK .i64 w aa m A) (iR : IsK .u64 w ra q R) :
    Calls Try.prog 3 #[.int .i64 most, .slice sa n cs, .slice ca nc cc, .slice aa m ac, .int .i64 kind, .agg #[.int .u64 x, .int .u64 y, .int .u64 z], .slice ra q rc] w fun e w' => e = .returned (.bool true) ∧ Below w.heap.size w w' := by
  by_cases hf : fewP n nc m ∧ q ≤ 100
  · obtain ⟨hf, hq⟩ := hf
    have kf := fun w => law18_few (sa := sa) (ca := ca) (aa := aa) (n := n) (nc := nc) (m := m) (cs := cs) (cc := cc) (ac := ac) w
    rw [decide_eq_true hf] at kf
    have d1 : decide ((100 : Int) < q) = false := decide_eq_false (by omega)
    have hm60 : m ≤ 60 := hf.2.2
    have k1 := fun w iZ iC iA => gds_Run (most := most) (sa := sa) (ca := ca) (aa := aa) (n := n) (nc := nc) (m := m) (cs := cs) (cc := cc) (ac := ac) (Z := Z) (C := C) (A := A) hZ hC (by omega) w iZ iC iA
    have k2 := fun w iZ iC iA => ref18_Run (most := most) (sa := sa) (ca := ca) (aa := aa) (n := n) (nc := nc) (m := m) (cs := cs) (cc := cc) (ac := ac) (Z := Z) (C := C) (A := A) hZ hC hA (by omega) w iZ iC iA
    have k3 := fun w => gds_Weight kind x y z hx.1 hx.2 hy.1 hy.2 hz.1 hz.2 w
    have k4 := fun w => ref18_Weight kind x y z hx.1 hx.2 hy.1 hy.2 hz.1 hz.2 w
    have k5 := fun w iR => gds_Renew (aa := ra) (m := q) (ac := rc) (low := x) (R := R) hx.1 hR w iR (by omega)
    have k6 := fun w iR => ref18_Renew (aa := ra) (m := q) (ac := rc) (low := x) (R := R) hx.1 hR w iR (by omega)
    have k7 := fun (a b : Option Addr) (c d : Nat) w iZ iY => ref18_Numbers (sa := a) (ta := b) (n := q) (m := q) (sc := c) (tc := d) (Z := fun i => subS (R i) x) (Y := fun i => subS (R i) x) w iZ iY
    rw [decide_eq_true (show SameK q q (fun i => subS (R i) x) (fun i => subS (R i) x) from ⟨rfl, fun i hi => rfl⟩)] at k7
    have ks := fun (a b : Option Addr) (l c d : Nat) w i1 i2 => ref18_Same (sa := a) (ta := b) (n := l) (m := l) (sc := c) (tc := d) (H := hitG Z C n most (natA A)) (O := goG Z C n most (natA A)) (H' := hitG Z C n most (natA A)) (O' := goG Z C n most (natA A)) w i1 i2
    have kp := fun (la : Option Addr) (l lc : Nat) (hl : l ≤ 60) w iZ iC iA iL => gds_Paid (sa := sa) (ca := ca) (aa := aa) (la := la) (n := n) (nc := nc) (m := m) (ml := l) (cs := cs) (cc := cc) (ac := ac) (lc := lc) (Z := Z) (C := C) (A := A) (H := hitG Z C n most (natA A)) (O := goG Z C n most (natA A)) hZ hC w iZ iC iA iL (by omega) (by omega)
    have kq := fun (la : Option Addr) (l lc : Nat) (hl : l ≤ 60) w iZ iC iA iL => ref18_Paid (sa := sa) (ca := ca) (aa := aa) (la := la) (n := n) (nc := nc) (m := m) (ml := l) (cs := cs) (cc := cc) (ac := ac) (lc := lc) (Z := Z) (C := C) (A := A) (H := hitG Z C n most (natA A)) (O := goG Z C n most (natA A)) hZ hC w iZ iC iA iL (by omega) (by omega)
    generalize weightS kind x y z = wv at *
    have IZ := Lib.hid iZ
    have IC := Lib.hid iC
    have IA := Lib.hid iA
    have IR := Lib.hid iR
    have KF := Lib.hid kf
    have K1 := Lib.hid k1
    have K2 := Lib.hid k2
    have K3 := Lib.hid k3
    have K4 := Lib.hid k4
    have K5 := Lib.hid k5
    have K6 := Lib.hid k6
    have K7 := Lib.hid k7
    have KS := Lib.hid ks
    have KP := Lib.hid kp
    have KQ := Lib.hid kq
    clear iZ iC iA iR kf k1 k2 k3 k4 k5 k6 k7 ks kp kq hZ hC hA hR hf hx hy hz
    have b0 : Below w.heap.size w (w.alloc (.cells #[.int .u64 x, .int .u64 y, .int .u64 z] 24)) := (Below.refl _ _).alloc (Nat.le_refl _) _
    have q0 := heap_alloc_new w (.cells #[.int .u64 x, .int .u64 y, .int .u64 z] 24)
    have B0 := Lib.hid b0
    have Q0 := Lib.hid q0
    clear b0 q0
    go_enter Try.func3, Try.ntmps3
    go_wp2_with fail
    refine (law18_awake _).mono ?_
    rintro e w1 ⟨rfl, hb⟩
    have B1 := Lib.hid (B0.out.trans (hb.mono B0.out.size))
    have Q1 := Lib.hid ((hb.block w.heap.size (by simp)).trans Q0.out)
    clear hb B0 Q0
    go_wp2_with fail
    refine (KF.out _).mono ?_
    rintro e _ ⟨rfl, rfl⟩
    go_wp2_with fail
    refine (K1.out _ (IZ.out.below B1.out) (IC.out.below B1.out) (IA.out.below B1.out)).mono ?_
    rintro e w2 ⟨la, ll, lc, rfl, hlc, hll, hL, hb⟩
    have B2 := Lib.hid (B1.out.trans (hb.mono B1.out.size))
    have Q2 := Lib.hid ((hb.block w.heap.size (Array.getElem?_eq_some_iff.1 Q1.out).1).trans Q1.out)
    have HL := Lib.hid hL
    have hle : ll ≤ 60 := by rw [hll]; split <;> omega
    have HLL := Lib.hid hll
    clear hb B1 Q1 hL hll
    go_wp2_with fail
    refine (K2.out _ (IZ.out.below B2.out) (IC.out.below B2.out) (IA.out.below B2.out)).mono ?_
    rintro e w3 ⟨ma, ml, mc, rfl, hmc, hml, hM, hb⟩
    have B3 := Lib.hid (B2.out.trans (hb.mono B2.out.size))
    have Q3 := Lib.hid ((hb.block w.heap.size (Array.getElem?_eq_some_iff.1 Q2.out).1).trans Q2.out)
    have HL3 := Lib.hid (HL.out.below hb)
    obtain rfl : ml = ll := by rw [hml, HLL.out]
    have HM := Lib.hid hM
    clear hb B2 Q2 hM hml HL HLL
    generalize runE most Z C n nc m A = re at *
    go_wp2_with fail
    refine (KS.out _ _ _ _ _ _ HL3.out HM.out).mono ?_
    rw [decide_eq_true (show SameS ml ml (hitG Z C n most (natA A)) (goG Z C n most (natA A)) (hitG Z C n most (natA A)) (goG Z C n most (natA A)) from ⟨rfl, fun i hi => ⟨rfl, rfl⟩⟩)]
    rintro e w4 ⟨rfl, hb⟩
    have B4 := Lib.hid (B3.out.trans (hb.mono B3.out.size))
    have Q4 := Lib.hid ((hb.block w.heap.size (Array.getElem?_eq_some_iff.1 Q3.out).1).trans Q3.out)
    have HL4 := Lib.hid (HL3.out.below hb)
    have HM4 := Lib.hid (HM.out.below hb)
    clear hb B3 Q3 HL3 HM
    have kp := KP.out la ml lc hle
    have kq := KQ.out ma ml mc hle
    generalize paidS Z C n nc ml A (hitG Z C n most (natA A)) m = pv at *
    have KP := Lib.hid kp
    have KQ := Lib.hid kq
    clear kp kq
    go_wp2_with fail
    refine (KP.out _ (IZ.out.below B4.out) (IC.out.below B4.out) (IA.out.below B4.out) HL4.out).mono ?_
    rintro e w5 ⟨rfl, hb⟩
    have B5 := Lib.hid (B4.out.trans (hb.mono B4.out.size))
    have Q5 := Lib.hid ((hb.block w.heap.size (Array.getElem?_eq_some_iff.1 Q4.out).1).trans Q4.out)
    have HM5 := Lib.hid (HM4.out.below hb)
    clear hb B4 Q4 HL4 HM4
    go_wp2_with fail
    refine (KQ.out _ (IZ.out.below B5.out) (IC.out.below B5.out) (IA.out.below B5.out) HM5.out).mono ?_
    rintro e w6 ⟨rfl, hb⟩
    have B6 := Lib.hid (B5.out.trans (hb.mono B5.out.size))
    have q6 := (hb.block w.heap.size (Array.getElem?_eq_some_iff.1 Q5.out).1).trans Q5.out
    have r0 : w6.cell? ⟨w.heap.size, 0, none⟩ = some (.int .u64 x) := cell_of_row _ _ 0 _ _ _ q6
    have r1 : w6.cell? ⟨w.heap.size, 1, none⟩ = some (.int .u64 y) := cell_of_row _ _ 1 _ _ _ q6
    have r2 : w6.cell? ⟨w.heap.size, 2, none⟩ = some (.int .u64 z) := cell_of_row _ _ 2 _ _ _ q6
    clear hb B5 Q5 HM5 q6
    go_wp2_with fail
    have hS0 : w6.cell? ⟨w.heap.size, 0, none⟩ = some (.int .u64 x) ∧ w6.cell? ⟨w.heap.size, 1, none⟩ = some (.int .u64 y) ∧ w6.cell? ⟨w.heap.size, 2, none⟩ = some (.int .u64 z) ∧ Hid (Below w.heap.size w w6) := ⟨r0, r1, r2, B6⟩
    have hT1 := gt_next hS0 (Below.refl w6.heap.size w6).drew
    clear hS0 r0 r1 r2 B6
    go_region_held3 (fun W => W.cell? ⟨w.heap.size, 0, none⟩ = some (.int .u64 x) ∧ W.cell? ⟨w.heap.size, 1, none⟩ = some (.int .u64 y) ∧ W.cell? ⟨w.heap.size, 2, none⟩ = some (.int .u64 z) ∧ Hid (Below w.heap.size w W)) (assumption)
      (first
        | (go_at_call 15; refine (K3.out _).mono ?_; rintro e w' ⟨rfl, hb⟩; have hS' := gt_next (x := x) (y := y) (z := z) (by assumption) hb; clear hb)
        | (go_at_call 16; refine (K4.out _).mono ?_; rintro e w' ⟨rfl, hb⟩; have hS' := gt_next (x := x) (y := y) (z := z) (by assumption) hb; clear hb)
        | (go_at_call 18; refine (K5.out _ (IR.out.below (gt_B (x := x) (y := y) (z := z) (by assumption)))).mono ?_; intro e w' h; obtain ⟨a5, c5, rfl, hI5, hb⟩ := h; have hS' := gt_next (x := x) (y := y) (z := z) (by assumption) hb; have I5 := Lib.hid hI5; clear hb hI5)
        | (go_at_call 19; refine (K6.out _ (IR.out.below (gt_B (x := x) (y := y) (z := z) (by assumption)))).mono ?_; intro e w' h; obtain ⟨a6, c6, rfl, _, hI6, hb⟩ := h; have hS' := gt_next (x := x) (y := y) (z := z) (by assumption) hb; have I5b := Lib.hid (I5.out.below hb); have I6 := Lib.hid hI6; clear hb hI6)
        | (go_at_call 17; refine (K7.out _ _ _ _ _ I5b.out I6.out).mono ?_; rintro e w' ⟨rfl, hb⟩; have hS' := gt_next (x := x) (y := y) (z := z) (by assumption) hb; clear hb))
    all_goals
      go_wp2_with fail
      go_ret
      exact ⟨rfl, (gt_B (x := x) (y := y) (z := z) (by assumption))⟩
  · have IZ := Lib.hid iZ
    have IC := Lib.hid iC
    clear iZ iC iA iR hZ hC hA hR hx hy hz
    have kf := fun w => law18_few (sa := sa) (ca := ca) (aa := aa) (n := n) (nc := nc) (m := m) (cs := cs) (cc := cc) (ac := ac) w
    by_cases h1 : fewP n nc m
    · rw [decide_eq_true h1] at kf
      have d1 : decide ((100 : Int) < q) = true := decide_eq_true (by have : ¬ q ≤ 100 := fun h => hf ⟨h1, h⟩; omega)
      clear hf h1
      go_enter Try.func3, Try.ntmps3
      go_wp2_with fail
      refine (law18_awake _).mono ?_
      rintro e w1 ⟨rfl, hb⟩
      have B1 := Lib.hid (((Below.refl w.heap.size w).alloc (Nat.le_refl _) (.cells #[.int .u64 x, .int .u64 y, .int .u64 z] 24)).trans (hb.mono (by simp)))
      clear hb
      go_wp2_with fail
      refine (kf _).mono ?_
      rintro e _ ⟨rfl, rfl⟩
      go_wp2_with fail
      go_ret
      exact ⟨rfl, B1.out⟩
    · rw [decide_eq_false h1] at kf
      clear hf h1
      go_enter Try.func3, Try.ntmps3
      go_wp2_with fail
      refine (law18_awake _).mono ?_
      rintro e w1 ⟨rfl, hb⟩
      have B1 := Lib.hid (((Below.refl w.heap.size w).alloc (Nat.le_refl _) (.cells #[.int .u64 x, .int .u64 y, .int .u64 z] 24)).trans (hb.mono (by simp)))
      clear hb
      go_wp2_with fail
      refine (kf _).mono ?_
      rintro e _ ⟨rfl, rfl⟩
      go_wp2_with fail
      go_ret
      exact ⟨rfl, B1.out⟩
end Go.Proofs.Ytlhjacgocggbcaa
