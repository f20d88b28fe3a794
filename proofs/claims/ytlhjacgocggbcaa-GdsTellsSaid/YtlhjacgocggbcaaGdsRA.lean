/- The walks of the reference's Renew, weight, has, taken, without. -/
import Derived.Test.YtlhjacgocggbcaaGdsT
import Derived.Test.YtlhjacgocggbcaaOwnK
set_option linter.unusedVariables false
set_option maxRecDepth 100000
set_option maxHeartbeats 2000000
namespace Go.Proofs.Ytlhjacgocggbcaa
open Go.RowKit Go.Shelf
attribute [local go_sem ↓] lt_alloc

theorem ref18_Renew {aa : Option Addr} {m ac : Nat} {low : Int} {R : Nat → Int} (hl : 0 ≤ low) (hR : InK .u64 R) (w : World) (iA : IsK .u64 w aa m R) (hm : m ≤ 100000) :
    Calls Try.prog 19 #[.int .u64 low, .slice aa m ac] w fun e w' => ∃ a cap, e = .returned (.slice a m cap) ∧ m ≤ cap ∧ IsK .u64 w' a m (fun i => subS (R i) low) ∧ Below w.heap.size w w' := by
  obtain ⟨ti, ti1, ti2, ti3, ti4⟩ := info_parts u64_info
  obtain ⟨T, hT⟩ : ∃ T : Nat → Int, T = fun i => subS (R i) low := ⟨_, rfl⟩
  rw [← hT]
  have kb := fun (i : Nat) w => ref_Sub (R i) low (hR.u64 i).2 hl w
  have hTi : ∀ i, subS (R i) low = T i := fun i => by rw [hT]
  simp only [hTi] at kb
  have KB := Lib.hid kb
  have IA := Lib.hid iA
  clear hTi hT kb hR iA
  go_enter Try.func19, Try.ntmps19
  go_wp2_with fail
  go_loopw [5, 6] (fun sv iv W => ∃ i : Nat, i ≤ m ∧ iv = .int .i64 i ∧ W.ownsRow w.heap.size 23 1 sv i (listK .u64 T i) ∧ Below w.heap.size w W) (fun _ iv _ => m - (intOf iv).toNat)
  case atStart => exact ⟨0, Nat.zero_le _, rfl, World.ownsRow_nil _ _ _ _, Below.refl _ _⟩
  case round =>
    obtain ⟨i, hi, rfl, hO, hB⟩ := hrel
    have HO := Lib.hid hO
    clear hO
    by_cases hlt : i < m
    · obtain ⟨gb, go, rfl, h63, q0⟩ := (IA.out.below hB).row hlt
      have kb := KB.out i
      generalize R i = g at *
      generalize hti : T i = ti0 at *
      have HTI := Lib.hid hti
      clear hti
      go_wp2_with (first | (go_at_call 38; refine (kb _).mono ?_; rintro e w' ⟨rfl, rfl⟩) | (at_builtin; refine wpList_append_one wr rfl _ _ _ rfl .u64 w.heap.size 23 ti 8 (by kernel_rfl) ti1 ti2 ti3 ti4 u5 i T ti0 rfl rfl HO.out HTI.out.symm (by omega) (by decide) hB.size ?_; intro v1 W1 g1; have HO3 := Lib.hid g1.own; have HB3 := Lib.hid (hB.trans (g1.below HO.out hB.size)); clear g1))
      exact ⟨⟨i + 1, by omega, by go_num, HO3.out, HB3.out⟩, by simp [intOf]; omega⟩
    · obtain rfl : m = i := by omega
      go_wp2_with fail
      obtain ⟨sa, sc, rfl, hsc, hS⟩ := isK_own HO.out
      go_ret
      exact ⟨_, _, rfl, hsc, hS, hB⟩
theorem ref18_weight {sa ca : Option Addr} {n nc cs cc i : Nat} {Z C : Nat → Int} (hZ : InK .i64 Z) (hC : InK .i64 C) (hi : i < n) (hc : i < nc) (w : World) (iZ : IsK .i64 w sa n Z) (iC : IsK .i64 w ca nc C) :
    Calls Try.prog 32 #[.slice sa n cs, .slice ca nc cc, .int .i64 i] w fun e w' => e = .returned (.int .u64 (wgtO Z C i)) ∧ Below w.heap.size w w' := by
  obtain ⟨zb, zo, rfl, hn63, qz⟩ := iZ.row hi
  obtain ⟨cb, co, rfl, hc63, qc⟩ := iC.row hc
  have z1 := ofS_bd (Z i) (hZ.i64 i).2
  have c1 := ofS_bd (C i) (hC.i64 i).2
  have k1 := fun w => ref_Of (Z i) (hZ.i64 i).1 (hZ.i64 i).2 w
  have k2 := fun w => ref_Of (C i) (hC.i64 i).1 (hC.i64 i).2 w
  have k3 := fun w => ref18_Weight 1 (ofS (C i)) (ofS (Z i)) 0 c1.1 c1.2 z1.1 z1.2 (by decide) (by decide) w
  have e : weightS 1 (ofS (C i)) (ofS (Z i)) 0 = wgtO Z C i := by unfold wgtO weightS; simp
  rw [e] at k3
  clear e iZ iC hZ hC z1 c1
  generalize wgtO Z C i = v at *
  generalize ofS (Z i) = oz at *
  generalize ofS (C i) = oc at *
  generalize Z i = z at *
  generalize C i = c at *
  go_enter Try.func32, Try.ntmps32
  go_wp2_with fail
  have p1 := Under.cell qz
  have p2 := Under.cell qc
  clear qz qc
  (refine region_under (by kernel_rfl) (by kernel_rfl) ?_; (repeat (first | go_big_quiet_step ((first | (go_at_call 31; first | (with_reducible exact stayU (k1 _)) | (with_reducible exact stayU (k2 _))) | (go_at_call 16; with_reducible exact quietU (k3 _)))) | quiet_step ((first | (go_at_call 31; first | (with_reducible exact stayU (k1 _)) | (with_reducible exact stayU (k2 _))) | (go_at_call 16; with_reducible exact quietU (k3 _)))))); refine wpQuiet_nil ?_; intro _ hw'; obtain ⟨x, hw''⟩ := hw'; subst hw''; go_wp2_with fail)
  go_ret
  exact ⟨rfl, x.2⟩
end Go.Proofs.Ytlhjacgocggbcaa
