/- The walk of GdsAlike. -/
import Derived.Test.YtlhjacgocggbcaaGdsU
import Derived.Test.YtlhjacgocggbcaaGdsW
import Derived.Test.YtlhjacgocggbcaaOwnK
set_option linter.unusedVariables false
set_option maxRecDepth 100000
set_option maxHeartbeats 4000000
namespace Go.Proofs.Ytlhjacgocggbcaa
open Go.RowKit Go.Shelf
attribute [local go_sem ↓] lt_alloc

theorem i64_in {n : Int} (h0 : -9223372036854775808 ≤ n) (h1 : n ≤ 9223372036854775807) : (Lit.int .i64 n).wf = true := by
  simp [Lit.wf, IntKind.min, IntKind.max, IntKind.signed, IntKind.bits]
  omega
theorem gdsAlike_ok {ba : Option Addr} {m bc : Nat} {B : Nat → Int} {n room size cost : Int} (n0 : 0 ≤ n) (n1 : n < 256) (r0 : 0 ≤ room) (r1 : room < 256) (s0 : 0 ≤ size) (s1 : size < 256) (c0 : 0 ≤ cost) (c1 : cost < 65536) (hB : InK .u8 B) (hm : m ≤ 60)
    (w : World) (iB : IsK .u8 w ba m B) :
    Calls Try.prog 5 #[.int .u8 n, .int .u8 room, .int .u8 size, .int .u16 cost, .slice ba m bc] w fun e w' => e = .returned (.bool true) ∧ Below w.heap.size w w' := by
  obtain ⟨ti, ti1, ti2, ti3, ti4⟩ := info_parts int_info
  obtain ⟨N, hN⟩ : ∃ N : Nat, 1 + n % 20 = N := ⟨(1 + n % 20).toNat, by omega⟩
  obtain ⟨S, hS⟩ : ∃ S : Nat, 1 + room % 10 = S := ⟨(1 + room % 10).toNat, by omega⟩
  obtain ⟨E, hE⟩ : ∃ E : Int, 1 + size % 50 = E := ⟨_, rfl⟩
  have hN0 : 1 ≤ N ∧ N ≤ 20 := by omega
  have hS0 : 1 ≤ S ∧ S ≤ 10 := by omega
  have hE0 : 1 ≤ E ∧ E ≤ 50 := by omega
  have HN := Lib.hid hN
  have HS := Lib.hid hS
  have HE := Lib.hid hE
  have HB := Lib.hid hB
  have IB := Lib.hid iB
  have hm' : ¬ (60 : Int) < m := by omega
  clear hN hS hE hB iB
  go_enter Try.func5, Try.ntmps5
  go_wp2_with fail
  refine (law18_awake w).mono ?_
  rintro e w0 ⟨rfl, hB0⟩
  go_wp2_with fail
  rw [HN.out, HS.out, HE.out]
  have IB0 := Lib.hid (IB.out.below hB0)
  have own0 : w0.ownsRow w0.heap.size 3 1 (.slice none 0 0) 0 (listK .i64 (fun _ => E) 0) := World.ownsRow_nil _ _ _ _
  have own1 : w0.ownsRow w0.heap.size 3 1 (.slice none 0 0) 0 (listK .i64 (fun _ => cost) 0) := World.ownsRow_nil _ _ _ _
  clear n0 n1 r0 r1 s0 s1
  go_loopw [15, 16, 18] (fun zv cv iv W => ∃ i : Nat, i ≤ N ∧ iv = .int .i64 i ∧ Below w0.heap.size w0 W ∧ W.ownsRow w0.heap.size 3 1 zv i (listK .i64 (fun _ => E) i) ∧ W.ownsRow w0.heap.size 3 1 cv i (listK .i64 (fun _ => cost) i) ∧ apartV zv cv) (fun _ _ iv _ => N - (intOf iv).toNat)
  case atStart => exact ⟨0, Nat.zero_le _, rfl, Below.refl _ _, own0, own1, apartV_nil _⟩
  case round =>
    clear own0 own1
    obtain ⟨i, hi, rfl, hB, ho1, ho2, hap⟩ := hrel
    by_cases hlt : i < N
    · have hs0 := hB.size
      have HO1 := Lib.hid ho1
      have HO2 := Lib.hid ho2
      have HAP := Lib.hid hap
      clear ho1 ho2 hap
      go_wp2_with (first
        | (refine wpList_append_one wr rfl _ _ _ rfl .i64 w0.heap.size 3 ti 8 (by kernel_rfl) ti1 ti2 ti3 ti4 u15 i (fun _ => E) E rfl rfl HO1.out rfl (by omega) (by decide) hs0 ?_; intro v1 W1 g1; have G1 := Lib.hid g1; have K1 := Lib.hid (g1.keep HO2.out HAP.out.symm); have hs1 := Nat.le_trans hs0 g1.grown.size; clear g1)
        | (refine wpList_append_one W1 rfl _ _ _ rfl .i64 w0.heap.size 3 ti 8 (by kernel_rfl) ti1 ti2 ti3 ti4 u16 i (fun _ => cost) cost rfl rfl K1.out.1 rfl (by omega) (by decide) hs1 ?_; intro v2 W2 g2; have G2 := Lib.hid g2; have K2 := Lib.hid (g2.keep G1.out.own K1.out.2.symm); clear g2))
      exact ⟨⟨i + 1, by omega, by go_num, (hB.trans (G1.out.below HO1.out hs0)).trans (G2.out.below K1.out.1 hs1), K2.out.1, G2.out.own, K2.out.2⟩, by simp [intOf]; omega⟩
    · obtain rfl : N = i := by omega
      obtain ⟨za, zc, rfl, hzc, iZ⟩ := isK_own ho1
      obtain ⟨ca, cc, rfl, hcc, iC⟩ := isK_own ho2
      have own2 : wr.ownsRow wr.heap.size 3 1 (.slice none 0 0) 0 (listK .i64 (fun j => B j % N) 0) := World.ownsRow_nil _ _ _ _
      have IZ := Lib.hid iZ
      have IC := Lib.hid iC
      have HO1 := Lib.hid ho1
      have HO2 := Lib.hid ho2
      clear ho1 ho2 hap iZ iC
      go_wp2_with fail
      have hw1 : ∃ w1, w1 = wr := ⟨_, rfl⟩
      obtain ⟨w1, rfl⟩ := hw1
      go_loopw [17, 19] (fun av iv W => ∃ i : Nat, i ≤ m ∧ iv = .int .i64 i ∧ Below w1.heap.size w1 W ∧ W.ownsRow w1.heap.size 3 1 av i (listK .i64 (fun j => B j % N) i)) (fun _ iv _ => m - (intOf iv).toNat)
      case atStart => exact ⟨0, Nat.zero_le _, rfl, Below.refl _ _, own2⟩
      case round =>
        clear own2
        obtain ⟨i, hi, rfl, hB2, ho⟩ := hrel
        by_cases hlt : i < m
        · have hs2 := hB2.size
          obtain ⟨bb, bo, rfl, _, cb⟩ := ((IB0.out.below hB).below hB2).row hlt
          have hb0 := u8w (HB.out i)
          have hN1 : (N : Int) ≠ 0 := by omega
          have hN2 : 0 ≤ (N : Int) := by omega
          have HO := Lib.hid ho
          clear ho
          go_wp2_with (refine wpList_append_one wr rfl _ _ _ rfl .i64 w1.heap.size 3 ti 8 (by kernel_rfl) ti1 ti2 ti3 ti4 u17 i (fun j => B j % N) (B i % N) rfl rfl HO.out rfl (by omega) (by decide) hs2 ?_; intro v1 W1 g1; have G1 := Lib.hid g1; clear g1)
          exact ⟨⟨i + 1, by omega, by go_num, hB2.trans (G1.out.below HO.out hs2), G1.out.own⟩, by simp [intOf]; omega⟩
        · obtain rfl : m = i := by omega
          obtain ⟨aa, ac, rfl, hac, iA⟩ := isK_own ho
          clear ho
          have hSE : 1 ≤ (S : Int) * E ∧ (S : Int) * E ≤ 500 := by
            have h1 := Int.mul_le_mul (show (S : Int) ≤ 10 by omega) hE0.2 (by omega) (by omega)
            have h2 := Int.mul_le_mul (show (1 : Int) ≤ S by omega) hE0.1 (by omega) (by omega)
            omega
          have hZk : InK .i64 (fun _ => E) := fun _ => i64_in (n := E) (by omega) (by omega)
          have hCk : InK .i64 (fun _ => cost) := fun _ => i64_in (n := cost) (by omega) (by omega)
          have hp : mayP (fun _ => E) (fun _ => cost) N N := ⟨by omega, rfl, fun i _ => by unfold oneOk; dsimp only; omega⟩
          have hA : ∀ j, (B j % N).toNat < N := fun j => by
            have h1 := Int.emod_nonneg (B j) (show (N : Int) ≠ 0 by omega)
            have h2 := Int.emod_lt_of_pos (B j) (show 0 < (N : Int) by omega)
            omega
          have iA' : IsK .i64 wr aa m (fun j => ((B j % N).toNat : Nat)) := iA.congr fun j _ => by
            have h1 := Int.emod_nonneg (B j) (show (N : Int) ≠ 0 by omega)
            omega
          have iZ2 := IZ.out.below hB2
          have iC2 := IC.out.below hB2
          have HTold := Lib.hid (fun j => ali_told (K := cost) (most := S * E) hE0.1 hN0.1 hS0.1 (Int.le_refl _) (by omega) (A := fun j => (B j % N).toNat) hA j)
          have HSame := Lib.hid (fun j => ali_same (K := cost) (most := S * E) (most' := S * E + E - 1) hE0.1 hN0.1 hS0.1 (Int.le_refl _) (by omega) (by omega) (by omega) (A := fun j => (B j % N).toNat) hA j)
          have k1 := fun w iZ iC iA => gds_Run_ok (most := S * E) (sa := za) (ca := ca) (aa := aa) (n := N) (m := m) (cs := zc) (cc := cc) (ac := ac) (Z := fun _ => E) (C := fun _ => cost) (A := fun j => (B j % N).toNat) hZk hCk (by omega) (by omega) hp (fun j _ => hA j) (by omega) w iZ iC iA
          have k2 := fun w iZ iC iA => gds_Run_ok (most := S * E + E - 1) (sa := za) (ca := ca) (aa := aa) (n := N) (m := m) (cs := zc) (cc := cc) (ac := ac) (Z := fun _ => E) (C := fun _ => cost) (A := fun j => (B j % N).toNat) hZk hCk (by omega) (by omega) hp (fun j _ => hA j) (by omega) w iZ iC iA
          have HB2 := Lib.hid (hB0.trans ((hB.trans (hB2.mono hB.size)).mono hB0.size))
          have IA := Lib.hid iA'
          have IZ2 := Lib.hid iZ2
          have IC2 := Lib.hid iC2
          have H2 := Lib.hid k2
          clear iA iA' iZ2 iC2 hA hp hZk hCk IZ IC HO1 HO2 hB0 hB hB2 k2 HN HS HE IB IB0 HB
          have hw : wrap64 ((S : Int) * E) = (S : Int) * E := Go.IntWalk.wrap64_in _ ⟨by omega, by omega⟩
          go_wp2_with fail
          refine (k1 _ IZ2.out IC2.out IA.out).mono ?_
          rintro e w2 ⟨la, lc, rfl, hlc, hL, hb⟩
          have HB3 := Lib.hid (HB2.out.trans (hb.mono HB2.out.size))
          have iZ3 := IZ2.out.below hb
          have iC3 := IC2.out.below hb
          have iA3 := IA.out.below hb
          have HL := Lib.hid hL
          clear k1 hb hL HB2
          go_wp2_with fail
          refine (H2.out _ iZ3 iC3 iA3).mono ?_
          rintro e w3 ⟨ma, mc, rfl, hmc, hM, hb⟩
          have HB4 := Lib.hid (HB3.out.trans (hb.mono HB3.out.size))
          have HL3 := Lib.hid (HL.out.below hb)
          have HM3 := Lib.hid hM
          clear hb hM HB3 HL iZ3 iC3 iA3 IA IZ2 IC2 H2
          go_wp2_with fail
          go_loopw [24, 25] (fun mv iv W => ∃ i : Nat, i ≤ m ∧ iv = .int .i64 i ∧ mv = .int .i64 ((aliS E cost N S (fun j => (B j % N).toNat) i).2 : Nat) ∧ (aliS E cost N S (fun j => (B j % N).toNat) i).2 ≤ i ∧ Below w3.heap.size w3 W) (fun _ iv _ => m - (intOf iv).toNat)
          case atStart => exact ⟨0, Nat.zero_le _, rfl, rfl, Nat.le_refl _, Below.refl _ _⟩
          case round =>
            obtain ⟨i, hi, rfl, rfl, hmi, hB⟩ := hrel
            by_cases hlt : i < m
            · obtain ⟨t1, t2, t3⟩ := HTold.out i
              obtain ⟨lb, lo, rfl, _, l1, oa, oc, l2, _⟩ := (HL3.out.below hB).row hlt
              have p1 := Under.cell l1
              have p2 := Under.cell l2
              have HB5 := Lib.hid hB
              clear hB
              generalize goG (fun _ => E) (fun _ => cost) N (↑S * E) (fun j => (B j % ↑N).toNat) i = l at *
              generalize hitG (fun _ => E) (fun _ => cost) N (↑S * E) (fun j => (B j % ↑N).toNat) i = hit at *
              generalize hm2 : (aliS E cost N S (fun j => (B j % ↑N).toNat) (i + 1)).2 = m2 at *
              generalize (aliS E cost N S (fun j => (B j % ↑N).toNat) i).2 = m1 at *
              have HM2 := Lib.hid hm2
              generalize l.length = ll at *
              clear hm2
              cases hit with
              | true =>
                have hl : ll = 0 := by
                  rcases Nat.lt_or_ge ll 1 with h | h
                  · omega
                  · have := (t2.1 (by omega)).1; cases this
                have h3 : m2 = m1 := by rw [t3]; rfl
                subst hl h3
                clear t1 t2 t3
                go_wp2_with fail
                (refine region_under (by kernel_rfl) (by kernel_rfl) ?_; (repeat (first | go_big_quiet_step ((fail)) | quiet_step ((fail)))); refine wpQuiet_nil ?_; intro _ hw'; obtain ⟨x, hw''⟩ := hw'; subst hw''; go_wp2_with fail)
                exact ⟨⟨i + 1, by omega, by go_num, by rw [HM2.out], by rw [HM2.out]; omega, HB5.out.trans (x.2.mono HB5.out.size)⟩, by simp [intOf]; omega⟩
              | false =>
                have h3 : m2 = m1 + 1 := by rw [t3]; rfl
                subst h3
                by_cases hS : S < m1 + 1
                · have hl : ll = 1 := t2.2 ⟨rfl, hS⟩
                  subst hl
                  have d1 : decide ((S : Int) < (m1 : Int) + 1) = true := decide_eq_true (by omega)
                  clear t1 t2 t3
                  go_wp2_with fail
                  (refine region_under (by kernel_rfl) (by kernel_rfl) ?_; (repeat (first | go_big_quiet_step ((fail)) | quiet_step ((fail)))); refine wpQuiet_nil ?_; intro _ hw'; obtain ⟨x, hw''⟩ := hw'; subst hw''; go_wp2_with fail)
                  exact ⟨⟨i + 1, by omega, by go_num, by rw [HM2.out]; go_num, by rw [HM2.out]; omega, HB5.out.trans (x.2.mono HB5.out.size)⟩, by simp [intOf]; omega⟩
                · have hl : ll = 0 := by
                    rcases Nat.lt_or_ge ll 1 with h | h
                    · omega
                    · exact absurd (t2.1 (by omega)).2 hS
                  subst hl
                  have d1 : decide ((S : Int) < (m1 : Int) + 1) = false := decide_eq_false (by omega)
                  clear t1 t2 t3
                  go_wp2_with fail
                  (refine region_under (by kernel_rfl) (by kernel_rfl) ?_; (repeat (first | go_big_quiet_step ((fail)) | quiet_step ((fail)))); refine wpQuiet_nil ?_; intro _ hw'; obtain ⟨x, hw''⟩ := hw'; subst hw''; go_wp2_with fail)
                  exact ⟨⟨i + 1, by omega, by go_num, by rw [HM2.out]; go_num, by rw [HM2.out]; omega, HB5.out.trans (x.2.mono HB5.out.size)⟩, by simp [intOf]; omega⟩
            · obtain rfl : m = i := by omega
              have ks := fun w i1 i2 => ref18_Same (sa := la) (ta := ma) (n := m) (m := m) (sc := lc) (tc := mc) (H := hitG (fun _ => E) (fun _ => cost) N (↑S * E) (fun j => (B j % ↑N).toNat)) (O := goG (fun _ => E) (fun _ => cost) N (↑S * E) (fun j => (B j % ↑N).toNat)) (H' := hitG (fun _ => E) (fun _ => cost) N (↑S * E + E - 1) (fun j => (B j % ↑N).toNat)) (O' := goG (fun _ => E) (fun _ => cost) N (↑S * E + E - 1) (fun j => (B j % ↑N).toNat)) w i1 i2
              rw [decide_eq_true (show SameS _ _ _ _ _ _ from ⟨rfl, fun j _ => HSame.out j⟩)] at ks
              have hL5 := HL3.out.below hB
              have hM5 := HM3.out.below hB
              have HKS := Lib.hid ks
              clear ks
              go_wp2_with fail
              refine (HKS.out _ hL5 hM5).mono ?_
              rintro e w5 ⟨rfl, hb⟩
              have HB5 := Lib.hid (HB4.out.trans ((hB.trans (hb.mono hB.size)).mono HB4.out.size))
              clear hb hB hL5 hM5
              go_wp2_with fail
              go_ret
              exact ⟨rfl, HB5.out⟩
end Go.Proofs.Ytlhjacgocggbcaa
