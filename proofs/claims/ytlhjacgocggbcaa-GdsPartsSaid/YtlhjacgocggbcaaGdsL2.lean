/- The walk of GdsParts. -/
import Derived.Test.YtlhjacgocggbcaaGdsU
set_option linter.unusedVariables false
set_option maxRecDepth 100000
set_option maxHeartbeats 4000000
namespace Go.Proofs.Ytlhjacgocggbcaa
open Go.RowKit Go.Shelf
attribute [local go_sem ↓] lt_alloc

theorem cutH_int (w : World) (a : Option Addr) (len cap : Nat) (k : IntKind) (h : Nat) (h1 : h ≤ cap) :
    (Instr.slice 22 (.slice a len cap) none (some (.int k (h : Nat))) none).run Try.prog w = .ok (.slice (subA a 0 cap 1) h cap) w := by
  have e := slice_int_h w a len cap k h (by omega) (by omega)
  rwa [Int.toNat_natCast] at e
theorem cutH_srv (w : World) (a : Option Addr) (len cap : Nat) (k : IntKind) (h : Nat) (h1 : h ≤ cap) :
    (Instr.slice 28 (.slice a len cap) none (some (.int k (h : Nat))) none).run Try.prog w = .ok (.slice (subA a 0 cap 2) h cap) w := by
  have e := slice_srv_h w a len cap k h (by omega) (by omega)
  rwa [Int.toNat_natCast] at e
theorem cutL_int (w : World) (a : Option Addr) (len cap : Nat) (k : IntKind) (h : Nat) (h1 : h ≤ len) :
    (Instr.slice 22 (.slice a len cap) (some (.int k (h : Nat))) none none).run Try.prog w = .ok (.slice (subA a h cap 1) (len - h) (cap - h)) w := by
  have e := slice_int_l w a len cap k h (by omega) (by omega)
  rwa [Int.toNat_natCast] at e
theorem cutL_srv (w : World) (a : Option Addr) (len cap : Nat) (k : IntKind) (h : Nat) (h1 : h ≤ len) :
    (Instr.slice 28 (.slice a len cap) (some (.int k (h : Nat))) none none).run Try.prog w = .ok (.slice (subA a h cap 2) (len - h) (cap - h)) w := by
  have e := slice_srv_l w a len cap k h (by omega) (by omega)
  rwa [Int.toNat_natCast] at e
theorem IsS.congr {w : World} {a : Option Addr} {m : Nat} {H H' : Nat → Bool} {O O' : Nat → List Nat} (h : IsS w a m H O) (he : ∀ j, j < m → H j = H' j ∧ O j = O' j) : IsS w a m H' O' := by
  rcases h with h | ⟨b, off, h1, h2, h3⟩
  · exact Or.inl h
  · refine Or.inr ⟨b, off, h1, h2, fun j hj => ?_⟩
    rw [← (he j hj).1, ← (he j hj).2]
    exact h3 j hj
attribute [local go_sem high] cutH_int cutH_srv cutL_int cutL_srv
theorem gdsParts_walk {most cut : Int} {sa ca aa : Option Addr} {n nc m cs cc ac : Nat} {Z C A : Nat → Int} (hZ : InK .i64 Z) (hC : InK .i64 C) (hA : InK .i64 A) (c0 : 0 ≤ cut) (c1 : cut < 256) (hac : m ≤ ac)
    (w : World) (iZ : IsK .i64 w sa n Z) (iC : IsK .i64 w ca nc C) (iA : IsK .i64 w aa m A) :
    Calls Try.prog 6 #[.int .i64 most, .slice sa n cs, .slice ca nc cc, .slice aa m ac, .int .u8 cut] w fun e w' => e = .returned (.bool true) ∧ Below w.heap.size w w' := by
  by_cases hf : fewP n nc m
  · have kf := fun w => law18_few (sa := sa) (ca := ca) (aa := aa) (n := n) (nc := nc) (m := m) (cs := cs) (cc := cc) (ac := ac) w
    rw [decide_eq_true hf] at kf
    obtain ⟨k, hk⟩ : ∃ k : Nat, cut % ((m : Int) + 1) = k := ⟨(cut % ((m : Int) + 1)).toNat, by have := Int.emod_nonneg cut (show (m : Int) + 1 ≠ 0 by omega); omega⟩
    have hkm : k ≤ m := by have := Int.emod_lt_of_pos cut (show 0 < (m : Int) + 1 by omega); omega
    have hf3 : m ≤ 60 := hf.2.2
    have k1 := fun w iZ iC iA => gds_Run (most := most) (sa := sa) (ca := ca) (aa := aa) (n := n) (nc := nc) (m := m) (cs := cs) (cc := cc) (ac := ac) (Z := Z) (C := C) (A := A) hZ hC (by omega) w iZ iC iA
    have k2 := fun w iZ iC iA => gds_Run (most := most) (sa := sa) (ca := ca) (aa := subA aa 0 ac 1) (n := n) (nc := nc) (m := k) (cs := cs) (cc := cc) (ac := ac) (Z := Z) (C := C) (A := A) hZ hC (by omega) w iZ iC iA
    have hm1 : (m : Int) + 1 ≠ 0 := by omega
    have hr := runE_part (most := most) (Z := Z) (C := C) (n := n) (nc := nc) (A := A) hkm
    have HA := Lib.hid hA
    have IZ := Lib.hid iZ
    have IC := Lib.hid iC
    have IA := Lib.hid iA
    have HK := Lib.hid hk
    have HF := Lib.hid hf
    clear hA iZ iC iA hf hk
    go_enter Try.func6, Try.ntmps6
    go_wp2_with fail
    refine (law18_awake w).mono ?_
    rintro e w0 ⟨rfl, hB0⟩
    have iZ0 := IZ.out.below hB0
    have iC0 := IC.out.below hB0
    have iA0 := IA.out.below hB0
    go_wp2_with fail
    refine (kf _).mono ?_
    rintro e _ ⟨rfl, rfl⟩
    go_wp2_with fail
    rw [HK.out]
    refine (k1 _ iZ0 iC0 iA0).mono ?_
    rintro e w1 ⟨la, ll, lc, rfl, hlc, hll, hL, hb⟩
    have hB1 := hB0.trans (hb.mono hB0.size)
    have iZ1 := IZ.out.below hB1
    have iC1 := IC.out.below hB1
    have iA1 : IsK .i64 w1 (subA aa 0 ac 1) k A := ((IA.out.below hB1).sub (l := 0) (d := k) (m := ac) (by omega) (by omega)).congr fun i _ => by rw [Nat.zero_add]
    clear k1 iZ0 iC0 iA0 hB0 hb kf
    have hR := Lib.hid hr
    have hL1 := Lib.hid hL
    have hLL := Lib.hid hll
    clear hr hL hll hm1
    have hkac : k ≤ ac := by omega
    go_wp2_with fail
    refine (k2 _ iZ1 iC1 iA1).mono ?_
    rintro e w2 ⟨ma, ml, mc, rfl, hmc, hml, hM, hb⟩
    have hB2 := hB1.trans (hb.mono hB1.size)
    clear k2 iZ1 iC1 iA1
    have hL2 := Lib.hid (hL1.out.below hb)
    have hM2 := Lib.hid hM
    have hML := Lib.hid hml
    clear hL1 hM hml hb hB1
    rcases hR.out with ⟨r1, r2⟩ | ⟨r1, r2⟩ | ⟨r1, r2⟩ | ⟨r1, r2⟩
    · rw [r1, r2]
      clear hLL hML r1 r2 hR
      go_wp2_with fail
      go_ret
      exact ⟨rfl, hB2⟩
    · rw [r1, r2]
      clear hLL hML r1 r2 hR
      go_wp2_with fail
      go_ret
      exact ⟨rfl, hB2⟩
    · rw [r1, r2]
      clear hLL hML r1 r2 hR
      go_wp2_with fail
      go_ret
      exact ⟨rfl, hB2⟩
    · have e1 : ll = m := by rw [hLL.out, if_pos r1]
      have e2 : ml = k := by rw [hML.out, if_pos r2]
      have hp := (runE_0 r1).1.2.2
      have HP := Lib.hid hp
      rw [r1, r2]
      clear hLL hML r1 r2 hR
      subst e1 e2
      have iZ2 := IZ.out.below hB2
      have iC2 := IC.out.below hB2
      have iA2 := IA.out.below hB2
      have iA3 : IsK .i64 w2 (subA aa 0 ac 1) ml A := (iA2.sub (l := 0) (d := ml) (m := ac) (by omega) (by omega)).congr fun i _ => by rw [Nat.zero_add]
      have iA4 := iA2.sub (l := ml) (d := ll - ml) (m := ac) (by omega) (by omega)
      have iL3 : IsS w2 (subA la 0 lc 2) ml (hitG Z C n most (natA A)) (goG Z C n most (natA A)) := (hL2.out.sub (l := 0) (d := ml) (m := lc) (by omega) (by omega)).congr fun i _ => by rw [Nat.zero_add]; exact ⟨rfl, rfl⟩
      have iL4 := hL2.out.sub (l := ml) (d := ll - ml) (m := lc) (by omega) (by omega)
      have kp := fun w iZ iC iA iL => gds_Paid (sa := sa) (ca := ca) (aa := aa) (la := la) (n := n) (nc := nc) (m := ll) (ml := ll) (cs := cs) (cc := cc) (ac := ac) (lc := lc) (Z := Z) (C := C) (A := A) (H := hitG Z C n most (natA A)) (O := goG Z C n most (natA A)) hZ hC w iZ iC iA iL (by omega) (by omega)
      have kq := fun w iZ iC iA iL => gds_Paid (sa := sa) (ca := ca) (aa := subA aa 0 ac 1) (la := ma) (n := n) (nc := nc) (m := ml) (ml := ml) (cs := cs) (cc := cc) (ac := ac) (lc := mc) (Z := Z) (C := C) (A := A) (H := hitG Z C n most (natA A)) (O := goG Z C n most (natA A)) hZ hC w iZ iC iA iL (by omega) (by omega)
      have kr := fun w iZ iC iA iL => gds_Paid (sa := sa) (ca := ca) (aa := subA aa ml ac 1) (la := subA la ml lc 2) (n := n) (nc := nc) (m := ll - ml) (ml := ll - ml) (cs := cs) (cc := cc) (ac := ac - ml) (lc := lc - ml) (Z := Z) (C := C) (A := fun j => A (ml + j)) (H := fun j => hitG Z C n most (natA A) (ml + j)) (O := fun j => goG Z C n most (natA A) (ml + j)) hZ hC w iZ iC iA iL (by omega) (by omega)
      have ks := fun w i1 i2 => ref18_Same (sa := ma) (ta := subA la 0 lc 2) (n := ml) (m := ml) (sc := mc) (tc := lc) (H := hitG Z C n most (natA A)) (O := goG Z C n most (natA A)) (H' := hitG Z C n most (natA A)) (O' := goG Z C n most (natA A)) w i1 i2
      rw [decide_eq_true ⟨rfl, fun i hi => ⟨rfl, rfl⟩⟩] at ks
      have hs := paidS_parts HP.out A (hitG Z C n most (natA A)) hf3 hkm
      have hb1 := paidS_le HP.out (nc := nc) (ml := ml) A (hitG Z C n most (natA A)) (i := ml) (by omega)
      have hb2 := paidS_le HP.out (nc := nc) (ml := ll - ml) (fun j => A (ml + j)) (fun j => hitG Z C n most (natA A) (ml + j)) (i := ll - ml) (by omega)
      rw [← hs] at kp
      have IZ2 := Lib.hid iZ2
      have IC2 := Lib.hid iC2
      have IA2 := Lib.hid iA2
      have IA3 := Lib.hid iA3
      have IA4 := Lib.hid iA4
      have IL3 := Lib.hid iL3
      have IL4 := Lib.hid iL4
      have KP := Lib.hid kp
      have KQ := Lib.hid kq
      have KR := Lib.hid kr
      have KS := Lib.hid ks
      clear hs iZ2 iC2 iA2 iA3 iA4 iL3 iL4 kp kq kr ks hp HP IZ IC IA HF HA
      generalize paidS Z C n nc ml A (hitG Z C n most (natA A)) ml = p1 at *
      generalize paidS Z C n nc (ll - ml) (fun j => A (ml + j)) (fun j => hitG Z C n most (natA A) (ml + j)) (ll - ml) = p2 at *
      go_wp2_with fail
      refine (KP.out _ IZ2.out IC2.out IA2.out hL2.out).mono ?_
      rintro e w3 ⟨rfl, hb⟩
      have hB3 := Lib.hid hb
      clear KP hb
      have ks := fun x : Under w3 => KS.out x.w ((hM2.out.below hB3.out).below x.2) ((IL3.out.below hB3.out).below x.2)
      have kq := fun x : Under w3 => KQ.out x.w ((IZ2.out.below hB3.out).below x.2) ((IC2.out.below hB3.out).below x.2) ((IA3.out.below hB3.out).below x.2) ((hM2.out.below hB3.out).below x.2)
      have kr := fun x : Under w3 => KR.out x.w ((IZ2.out.below hB3.out).below x.2) ((IC2.out.below hB3.out).below x.2) ((IA4.out.below hB3.out).below x.2) ((IL4.out.below hB3.out).below x.2)
      clear KS KQ KR
      have hklc : ml ≤ lc := by omega
      go_wp2_with fail
      (refine region_under (by kernel_rfl) (by kernel_rfl) ?_; (repeat (first | go_big_quiet_step ((first | (go_at_call 12; with_reducible exact quietU (ks _)) | (go_at_call 13; first | (with_reducible exact quietU (kq _)) | (with_reducible exact quietU (kr _))))) | quiet_step ((first | (go_at_call 12; with_reducible exact quietU (ks _)) | (go_at_call 13; first | (with_reducible exact quietU (kq _)) | (with_reducible exact quietU (kr _))))))); refine wpQuiet_nil ?_; intro _ hw'; obtain ⟨x, hw''⟩ := hw'; subst hw''; go_wp2_with fail)
      go_ret
      exact ⟨rfl, hB2.trans ((hB3.out.trans (x.2.mono hB3.out.size)).mono hB2.size)⟩
  · have kf := fun w => law18_few (sa := sa) (ca := ca) (aa := aa) (n := n) (nc := nc) (m := m) (cs := cs) (cc := cc) (ac := ac) w
    rw [decide_eq_false hf] at kf
    clear hf iZ iC iA
    go_enter Try.func6, Try.ntmps6
    go_wp2_with fail
    refine (law18_awake w).mono ?_
    rintro e w0 ⟨rfl, hB0⟩
    go_wp2_with fail
    refine (kf _).mono ?_
    rintro e _ ⟨rfl, rfl⟩
    go_wp2_with fail
    go_ret
    exact ⟨rfl, hB0⟩
end Go.Proofs.Ytlhjacgocggbcaa
