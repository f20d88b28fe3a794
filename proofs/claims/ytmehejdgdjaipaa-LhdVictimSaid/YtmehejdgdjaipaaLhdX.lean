/- The walk of the document's Age, and awake. -/
import Derived.Test.YtmehejdgdjaipaaLhdW
import Derived.Test.YtmehejdgdjaipaaLhdH
import Derived.Test.YtmehejdgdjaipaaLhdO
import Derived.Lib.BitFns
set_option linter.unusedVariables false
set_option maxRecDepth 100000
set_option maxHeartbeats 2000000
namespace Go.Proofs.Ytmehejdgdjaipaa
open Go.RowKit Go.Shelf
attribute [local go_sem ↓] lt_alloc

theorem bl_zero : Lib.bitLen 0 = 0 := by decide
theorem bl_step {x n m : Nat} (hx : x < 18446744073709551616) (h0 : x ≠ 0) (h : n + Lib.bitLen x = m) : (n + 1) + Lib.bitLen (x / 2) = m := by
  have := Lib.bitLen_half x h0 hx
  omega
theorem bl_64 {x : Nat} (hx : x < 18446744073709551616) : Lib.bitLen x ≤ 64 := Lib.bitLen_le x 64 (Nat.le_refl _) hx
theorem ref19_Age (t : Int) (h0 : 0 ≤ t) (h1 : t < 18446744073709551616) (w : World) :
    Calls Try.prog 14 #[.int .u64 t] w fun e w' => e = .returned (.int .i64 (ageV t)) ∧ w = w' := by
  obtain ⟨y, rfl⟩ : ∃ y : Nat, t = y := ⟨t.toNat, by omega⟩
  have hy : y < 18446744073709551616 := by omega
  have hr : ageV y = min ((Lib.bitLen y : Nat) : Int) 7 := rfl
  have hb := bl_64 hy
  have HR := Lib.hid hr
  clear hr h0 h1
  generalize hm : Lib.bitLen y = m at *
  go_enter Try.func14, Try.ntmps14
  go_wp2_with fail
  go_loop [0, 3] (fun tv nv => ∃ x n : Nat, x < 18446744073709551616 ∧ n + Lib.bitLen x = m ∧ tv = .int .u64 x ∧ nv = .int .i64 n) (fun tv _ => (intOf tv).toNat)
  case atStart => exact ⟨y, 0, hy, by omega, rfl, rfl⟩
  case round =>
    obtain ⟨x, n, hx, hn, rfl, rfl⟩ := hrel
    by_cases hz : x = 0
    · subst hz
      rw [bl_zero] at hn
      obtain rfl : n = m := by omega
      go_wp2_with fail
      go_ret
      exact ⟨by rw [HR.out]; first | rfl | simp, rfl⟩
    · have hs := bl_step hx hz hn
      have hd : ((x / 2 : Nat) : Int) = (x : Int) / 2 := by omega
      have h2 : x / 2 < x := by omega
      have hn64 : n ≤ 64 := by omega
      have hp : (0 : Int) < x := by omega
      have HS := Lib.hid hs
      clear hs hn hm
      go_wp2_with fail
      exact ⟨⟨x / 2, n + 1, by omega, HS.out, by rw [hd], by go_num⟩, by simp [intOf]; omega⟩

/-! awake -/
def rA : Nat → Int := moreR (moreR (moreR (moreR zeroR 0 8) 0 0) 0 0) 0 0
def rB : Nat → Int := moreR (moreR rA 3 8) 9 8
theorem zero_is : IsR zeroR := fun _ => by unfold zeroR; omega
theorem rA_is : IsR rA := moreR_is (moreR_is (moreR_is (moreR_is zero_is _ _) _ _) _ _) _ _
theorem rB_is : IsR rB := moreR_is (moreR_is rA_is _ _) _ _
def aA (i : Nat) : Int := [0, 0, 1].getD i 0
def aZ (i : Nat) : Int := [4, 8, 8].getD i 0
def aS (i : Nat) : Int := [0, 1, 2, 7].getD i 0
def zZ (_ : Nat) : Int := 0
theorem aA_in : InK .i64 aA := fun i => by unfold aA; rcases i with _ | _ | _ | i <;> simp <;> decide
theorem aZ_in : InK .u64 aZ := fun i => by unfold aZ; rcases i with _ | _ | _ | i <;> simp <;> decide
theorem aS_in : InK .i64 aS := fun i => by unfold aS; rcases i with _ | _ | _ | _ | i <;> simp <;> decide
theorem zZ_in : InK .u64 zZ := fun i => by unfold zZ; decide
theorem zZi_in : InK .i64 zZ := fun i => by unfold zZ; decide
theorem aw_v1 : lst (vN rA aA aZ aS 3 3) (vD aZ aS 3 3) 4 = (1, true) := by decide +kernel
theorem aw_v2 : lst (vN rA zZ zZ zZ 0 0) (vD zZ zZ 0 0) 1 = (0, false) := by decide +kernel
theorem aw_d : densV rA 0 = 3221225472 ∧ densV rA 1 = 4294967296 ∧ densV rB 3 = 0 ∧ densV rB 0 = 1073741824 ∧ densV rB 8 = 0 := by decide +kernel
theorem aw_a : ageV 0 = 0 ∧ ageV 5 = 3 ∧ ageV 64 = 7 ∧ ageV 9223372036854775808 = 7 := by decide +kernel
theorem aw_f : halfR rB 0 = 1 ∧ halfR rB 8 = 0 ∧ halfR rB 11 = 0 := by decide +kernel
end Go.Proofs.Ytmehejdgdjaipaa
