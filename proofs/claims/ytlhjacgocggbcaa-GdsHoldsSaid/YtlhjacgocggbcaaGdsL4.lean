/- GdsHolds at every input. -/
import Derived.Test.YtlhjacgocggbcaaGdsL3
import Derived.Test.YtlhjacgocggbcaaGdsU
set_option linter.unusedVariables false
set_option maxRecDepth 100000
set_option maxHeartbeats 4000000
namespace Go.Proofs.Ytlhjacgocggbcaa
open Go.RowKit Go.Shelf
attribute [local go_sem ↓] lt_alloc

theorem gdsHolds_err {most : Int} {sa ca aa : Option Addr} {n nc m cs cc ac : Nat} {Z C A : Nat → Int} (hZ : InK .i64 Z) (hC : InK .i64 C) (hf : fewP n nc m) (hr : runE most Z C n nc m A ≠ 0)
    (w : World) (iZ : IsK .i64 w sa n Z) (iC : IsK .i64 w ca nc C) (iA : IsK .i64 w aa m A) :
    Calls Try.prog 4 #[.int .i64 most, .slice sa n cs, .slice ca nc cc, .slice aa m ac] w fun e w' => e = .returned (.bool true) ∧ Below w.heap.size w w' := by
  have kf := fun w => law18_few (sa := sa) (ca := ca) (aa := aa) (n := n) (nc := nc) (m := m) (cs := cs) (cc := cc) (ac := ac) w
  have hm : m ≤ 60 := hf.2.2
  rw [decide_eq_true hf] at kf
  have kR := fun w iZ iC iA => gds_Run (most := most) (sa := sa) (ca := ca) (aa := aa) (n := n) (nc := nc) (m := m) (cs := cs) (cc := cc) (ac := ac) (Z := Z) (C := C) (A := A) hZ hC (by omega) w iZ iC iA
  obtain ⟨r, hrr⟩ : ∃ r, runE most Z C n nc m A = r := ⟨_, rfl⟩
  have hrc := runE_cases most Z C n nc m A
  rw [hrr] at hrc kR hr
  have hrr' : (r != 0) = true := by simpa using hr
  have IZ := Lib.hid iZ
  have IC := Lib.hid iC
  have IA := Lib.hid iA
  clear iZ iC iA hf hrr hrc
  go_enter Try.func4, Try.ntmps4
  go_wp2_with fail
  refine (law18_awake w).mono ?_
  rintro e w0 ⟨rfl, hB0⟩
  go_wp2_with fail
  refine (kf _).mono ?_
  rintro e _ ⟨rfl, rfl⟩
  go_wp2_with fail
  refine (kR _ (IZ.out.below hB0) (IC.out.below hB0) (IA.out.below hB0)).mono ?_
  rintro e w1 ⟨la, ll, lc, rfl, _, hl, hL, hb⟩
  have hB1 := hB0.trans (hb.mono hB0.size)
  rw [if_neg hr] at hl
  subst hl
  clear hr hb hL kR kf
  go_wp2_with fail
  go_ret
  exact ⟨rfl, hB1⟩
theorem gdsHolds_walk {most : Int} {sa ca aa : Option Addr} {n nc m cs cc ac : Nat} {Z C A : Nat → Int} (hZ : InK .i64 Z) (hC : InK .i64 C)
    (w : World) (iZ : IsK .i64 w sa n Z) (iC : IsK .i64 w ca nc C) (iA : IsK .i64 w aa m A) :
    Calls Try.prog 4 #[.int .i64 most, .slice sa n cs, .slice ca nc cc, .slice aa m ac] w fun e w' => e = .returned (.bool true) ∧ Below w.heap.size w w' := by
  by_cases hf : fewP n nc m
  · by_cases hr : runE most Z C n nc m A = 0
    · obtain ⟨⟨c1, c2, c3⟩, hc⟩ := runE_0 hr
      obtain rfl : n = nc := c3.2.1
      have e : ∀ i, i < m → A i = (natA A i : Nat) := fun i hi => by have := hc i hi; unfold natA; omega
      exact gdsHolds_ok (A := natA A) hZ hC c1 c2 c3 (fun j hj => by have := hc j hj; unfold natA; omega) hf.1 hf.2.2 w iZ iC (iA.congr e)
    · exact gdsHolds_err hZ hC hf hr w iZ iC iA
  · have kf := fun w => law18_few (sa := sa) (ca := ca) (aa := aa) (n := n) (nc := nc) (m := m) (cs := cs) (cc := cc) (ac := ac) w
    rw [decide_eq_false hf] at kf
    clear hf iZ iC iA
    go_enter Try.func4, Try.ntmps4
    go_wp2_with fail
    refine (law18_awake w).mono ?_
    rintro e w0 ⟨rfl, hB0⟩
    go_wp2_with fail
    refine (kf _).mono ?_
    rintro e _ ⟨rfl, rfl⟩
    go_wp2_with fail
    go_ret
    exact ⟨rfl, hB0⟩
end Go.Proofs.Ytlhjacgocggbcaa
