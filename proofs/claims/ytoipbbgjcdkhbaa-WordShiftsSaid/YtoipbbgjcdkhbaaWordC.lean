/- The walks of the layer word: each function comes to the plain number of WordS. -/
import Derived.Test.YtoipbbgjcdkhbaaRows
import Derived.Test.YtoipbbgjcdkhbaaWordS
import Derived.WalkKit
import Derived.ProofKit
import Derived.Deep.QuietTactic
import Derived.BigQuiet
import Derived.RowKit3
import Derived.Lib.Hide
import Derived.Shelf.Spec.BitsCarry
import Derived.Shelf.Bits.Mul64
set_option linter.unusedVariables false
namespace Go.Proofs.Ytoipbbgjcdkhbaa
open Go.RowKit Go.Shelf

/-- A callee that leaves the world as it is, met inside a region that draws. -/
theorem quietL {P : Program} {f : FuncId} {args : Array Value} {w : World} {n : Nat} {v : Value}
    (h : Calls P f args (w.drewN n) fun e w' => e = .returned v ∧ w.drewN n = w') : Calls P f args (w.drewN n) fun e w'' => e = .returned v ∧ ∃ m, w'' = w.drewN m :=
  h.mono fun _ _ ⟨he, hm⟩ => ⟨he, n, hm.symm⟩
theorem quietA {P : Program} {f : FuncId} {args : Array Value} {w : World} {a n : Nat} {v : Value}
    (h : Calls P f args (w.drewN (a + n)) fun e w' => e = .returned v ∧ w.drewN (a + n) = w') : Calls P f args (w.drewN (a + n)) fun e w'' => e = .returned v ∧ ∃ m, w'' = w.drewN (a + m) :=
  h.mono fun _ _ ⟨he, hm⟩ => ⟨he, n, hm.symm⟩
theorem grown_drewN {W w : World} (h : Grown W w) (n : Nat) : Grown W (w.drewN n) := h
theorem ret_u {a b : Int} (h : a = b) : Ending.returned (.int .u64 a) = .returned (.int .u64 b) := by rw [h]
theorem ret_i {a b : Int} (h : a = b) : Ending.returned (.int .i64 a) = .returned (.int .i64 b) := by rw [h]
theorem ret_b {a b : Bool} (h : a = b) : Ending.returned (.bool a) = .returned (.bool b) := by rw [h]
theorem ret_ui {a b c d : Int} (h : a = b) (h' : c = d) : Ending.returned (.tuple #[.int .u64 a, .int .i64 c]) = .returned (.tuple #[.int .u64 b, .int .i64 d]) := by rw [h, h']

def lays264_ren : Go.Shelf.Ren := ⟨fun | 264 => 28 | n => n, fun | 53 => 22 | 46 => 23 | n => n, fun | n => n⟩
theorem lays264 : Go.Proofs.Lays.n264 Try.prog lays264_ren := {
  mixed := by kernel_rfl
  f264 := Try.func28.trans (congrArg some (by kernel_rfl))
  t46 := Try.underlying23
  a46 := Try.isAgg23
  z46 := Try.sizeOf23
  v46 := Try.zeroValue23
  t53 := Try.underlying22
  a53 := Try.isAgg22
  z53 := Try.sizeOf22
  v53 := Try.zeroValue22 }
theorem mul64 (x y : Int) (hx : 0 ≤ x) (hx' : x < 18446744073709551616) (hy : 0 ≤ y) (hy' : y < 18446744073709551616) (w : World) :
    Calls Try.prog 28 #[.int .u64 x, .int .u64 y] w fun e w' => e = .returned (.tuple #[.int .u64 (x * y / 18446744073709551616), .int .u64 (x * y % 18446744073709551616)]) ∧ w = w' := by
  obtain ⟨x, rfl⟩ := Int.eq_ofNat_of_zero_le hx
  obtain ⟨y, rfl⟩ := Int.eq_ofNat_of_zero_le hy
  refine (Any.bits_Mul64 lays264 x y (by omega) (by omega) w).mono ?_
  rintro e w' ⟨rfl, rfl⟩
  refine ⟨?_, rfl⟩
  congr 5
def lays25_ren : Go.Shelf.Ren := ⟨fun | 25 => 27 | n => n, fun | 22 => 22 | n => n, fun | n => n⟩
theorem lays25 : Go.Proofs.Lays7.n25 Try.prog lays25_ren := {
  mixed := by kernel_rfl
  f25 := Try.func27.trans (congrArg some (by kernel_rfl))
  t22 := Try.underlying22
  a22 := Try.isAgg22
  z22 := Try.sizeOf22
  v22 := Try.zeroValue22
  i22 := by kernel_rfl }
theorem add64 (x y c : Int) (hx : 0 ≤ x) (hy : 0 ≤ y) (hc0 : 0 ≤ c) (hc : c ≤ 1) (w : World) : (callFunc 27 #[.int .u64 x, .int .u64 y, .int .u64 c]).run Try.prog w =
    .ok (.value (.tuple #[.int .u64 ((x + y + c) % 18446744073709551616), .int .u64 ((x + y + c) / 18446744073709551616)])) w := by
  obtain ⟨x, rfl⟩ := Int.eq_ofNat_of_zero_le hx
  obtain ⟨y, rfl⟩ := Int.eq_ofNat_of_zero_le hy
  obtain ⟨c, rfl⟩ := Int.eq_ofNat_of_zero_le hc0
  refine (Any7.bits_Add64 lays25 x y c (by omega) w).trans ?_
  congr 5 <;> omega
theorem add64_0 (x y : Int) (hx : 0 ≤ x) (hy : 0 ≤ y) (w : World) : (callFunc 27 #[.int .u64 x, .int .u64 y, .int .u64 0]).run Try.prog w =
    .ok (.value (.tuple #[.int .u64 ((x + y) % 18446744073709551616), .int .u64 ((x + y) / 18446744073709551616)])) w := by
  simpa using add64 x y 0 hx hy (Int.le_refl 0) (by decide) w
theorem held_u (n e : Int) (b : Bool) (w : World) :
    Calls Try.prog 29 #[.int .u64 n, .int .u64 e, .bool b] w fun r w' => r = .returned (.int .u64 (if b then e else n)) ∧ w = w' := by
  cases b
  · go_enter Try.func29, Try.ntmps29
    go_wp2
    go_ret
    exact ⟨rfl, rfl⟩
  · go_enter Try.func29, Try.ntmps29
    go_wp2
    go_ret
    exact ⟨rfl, rfl⟩
theorem held_i (n e : Int) (b : Bool) (w : World) :
    Calls Try.prog 30 #[.int .i64 n, .int .i64 e, .bool b] w fun r w' => r = .returned (.int .i64 (if b then e else n)) ∧ w = w' := by
  cases b
  · go_enter Try.func30, Try.ntmps30
    go_wp2
    go_ret
    exact ⟨rfl, rfl⟩
  · go_enter Try.func30, Try.ntmps30
    go_wp2
    go_ret
    exact ⟨rfl, rfl⟩
theorem word_Add (a b : Int) (ha : 0 ≤ a) (hb : 0 ≤ b) (w : World) :
    Calls Try.prog 13 #[.int .u64 a, .int .u64 b] w fun r w' => r = .returned (.int .u64 (addS a b)) ∧ w = w' := by
  have h0 := add64_0 a b ha hb
  go_enter Try.func13, Try.ntmps13
  go_wp2_with (go_at_call 29; refine (held_u _ _ _ _).mono ?_; rintro e w' ⟨rfl, rfl⟩)
  · go_ret
    exact ⟨ret_u (addS_lt ‹_›), rfl⟩
  · go_ret
    exact ⟨ret_u (addS_ge ‹_› ha hb), rfl⟩
theorem word_Sub (a b : Int) (ha' : a < 18446744073709551616) (hb : 0 ≤ b) (w : World) :
    Calls Try.prog 15 #[.int .u64 a, .int .u64 b] w fun r w' => r = .returned (.int .u64 (subS a b)) ∧ w = w' := by
  go_enter Try.func15, Try.ntmps15
  go_wp2_with (go_at_call 29; refine (held_u _ _ _ _).mono ?_; rintro e w' ⟨rfl, rfl⟩)
  · go_ret
    exact ⟨ret_u (by unfold subS; rw [if_pos ‹_›]), rfl⟩
  · go_ret
    exact ⟨ret_u (by unfold subS; rw [if_neg (by omega), IntKind.wrap_u64]; omega), rfl⟩
theorem word_Mul (a b : Int) (ha : 0 ≤ a) (ha' : a < 18446744073709551616) (hb : 0 ≤ b) (hb' : b < 18446744073709551616) (w : World) :
    Calls Try.prog 17 #[.int .u64 a, .int .u64 b] w fun r w' => r = .returned (.int .u64 (mulS a b)) ∧ w = w' := by
  go_enter Try.func17, Try.ntmps17
  go_wp2_with (first
    | (go_at_call 28; refine (mul64 a b ha ha' hb hb' _).mono ?_; rintro e w' ⟨rfl, rfl⟩)
    | (go_at_call 29; refine (held_u _ _ _ _).mono ?_; rintro e w' ⟨rfl, rfl⟩))
  · go_ret
    exact ⟨ret_u (mulS_lt ‹_›), rfl⟩
  · go_ret
    exact ⟨ret_u (mulS_ge ‹_› ha hb), rfl⟩
theorem word_Plus (a b : Int) (ha : 0 ≤ a) (hb : 0 ≤ b) (w : World) :
    Calls Try.prog 9 #[.int .u64 a, .int .u64 b] w fun r w' => r = .returned (.tuple #[.int .u64 (plusV a b), .int .i64 (plusE a b)]) ∧ w = w' := by
  have h0 := add64_0 a b ha hb
  go_enter Try.func9, Try.ntmps9
  go_wp2_with fail
  all_goals
    have hc := ‹((a + b) / 18446744073709551616 != 0) = _›
    simp only [bne_iff_ne, ne_eq, bne_eq_false_iff_eq] at hc
    go_ret2
    exact ⟨ret_ui (by unfold plusV; split <;> omega) (by unfold plusE; split <;> omega), rfl⟩
theorem word_Times (a b : Int) (ha : 0 ≤ a) (ha' : a < 18446744073709551616) (hb : 0 ≤ b) (hb' : b < 18446744073709551616) (w : World) :
    Calls Try.prog 11 #[.int .u64 a, .int .u64 b] w fun r w' => r = .returned (.tuple #[.int .u64 (timesV a b), .int .i64 (timesE a b)]) ∧ w = w' := by
  have hp := Int.mul_nonneg ha hb
  go_enter Try.func11, Try.ntmps11
  go_wp2_with (go_at_call 28; refine (mul64 a b ha ha' hb hb' _).mono ?_; rintro e w' ⟨rfl, rfl⟩)
  all_goals
    have hc := ‹((a * b) / 18446744073709551616 != 0) = _›
    simp only [bne_iff_ne, ne_eq, bne_eq_false_iff_eq] at hc
    go_ret2
    exact ⟨ret_ui (by unfold timesV; generalize a * b = p at *; split <;> omega) (by unfold timesE; generalize a * b = p at *; split <;> omega), rfl⟩
theorem word_Shl (a n : Int) (ha : 0 ≤ a) (hn : 0 ≤ n) (w : World) :
    Calls Try.prog 19 #[.int .u64 a, .int .u64 n] w fun r w' => r = .returned (.int .u64 (shlS a n)) ∧ w = w' := by
  go_enter Try.func19, Try.ntmps19
  go_wp2_with (go_at_call 29; refine (held_u _ _ _ _).mono ?_; rintro e w' ⟨rfl, rfl⟩)
  · go_ret
    exact ⟨ret_u (shlS_hi ha ‹_›), rfl⟩
  · go_ret
    exact ⟨ret_u (by rw [IntKind.wrap_u64]; exact shlS_lo ha ‹_›), rfl⟩
theorem word_Shr (a n : Int) (ha : 0 ≤ a) (ha' : a < 18446744073709551616) (hn : 0 ≤ n) (w : World) :
    Calls Try.prog 21 #[.int .u64 a, .int .u64 n] w fun r w' => r = .returned (.int .u64 (shrS a n)) ∧ w = w' := by
  go_enter Try.func21, Try.ntmps21
  go_wp2
  go_ret
  exact ⟨ret_u (shrS_cap ha ha'), rfl⟩
theorem word_Of (n : Int) (h : -9223372036854775808 ≤ n) (h' : n < 9223372036854775808) (w : World) :
    Calls Try.prog 23 #[.int .i64 n] w fun r w' => r = .returned (.int .u64 (ofS n)) ∧ w = w' := by
  go_enter Try.func23, Try.ntmps23
  go_wp2_with (go_at_call 29; refine (held_u _ _ _ _).mono ?_; rintro e w' ⟨rfl, rfl⟩)
  · go_ret
    exact ⟨ret_u (by unfold ofS; rw [if_pos (by omega)]), rfl⟩
  · go_ret
    exact ⟨ret_u (by unfold ofS; rw [if_neg (by omega), IntKind.wrap_u64]; omega), rfl⟩
theorem word_Int (a : Int) (ha : 0 ≤ a) (ha' : a < 18446744073709551616) (w : World) :
    Calls Try.prog 25 #[.int .u64 a] w fun r w' => r = .returned (.int .i64 (intS a)) ∧ w = w' := by
  go_enter Try.func25, Try.ntmps25
  go_wp2_with (go_at_call 30; refine (held_i _ _ _ _).mono ?_; rintro e w' ⟨rfl, rfl⟩)
  · go_ret
    exact ⟨ret_i (by unfold intS; rw [if_pos (by omega)]), rfl⟩
  · go_ret
    exact ⟨ret_i (by unfold intS; rw [if_neg (by omega)]; first | rfl | (unfold wrap64; omega)), rfl⟩
end Go.Proofs.Ytoipbbgjcdkhbaa
