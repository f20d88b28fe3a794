/- The walks of the layer word: each function comes to the plain number of WordS. -/
import Derived.Test.YtmehejdgdjaipaaBitsC
import Derived.Test.YtmehejdgdjaipaaWordS
set_option linter.unusedVariables false
namespace Go.Proofs.Ytmehejdgdjaipaa
open Go.RowKit Go.Shelf

theorem held_u (n e : Int) (b : Bool) (w : World) :
    Calls Try.prog 43 #[.int .u64 n, .int .u64 e, .bool b] w fun r w' => r = .returned (.int .u64 (if b then e else n)) ∧ w = w' := by
  cases b
  · go_enter Try.func43, Try.ntmps43
    go_wp2
    go_ret
    exact ⟨rfl, rfl⟩
  · go_enter Try.func43, Try.ntmps43
    go_wp2
    go_ret
    exact ⟨rfl, rfl⟩
theorem word_Add (a b : Int) (ha : 0 ≤ a) (hb : 0 ≤ b) (w : World) :
    Calls Try.prog 27 #[.int .u64 a, .int .u64 b] w fun r w' => r = .returned (.int .u64 (addS a b)) ∧ w = w' := by
  have h0 := add64_0 a b ha hb
  go_enter Try.func27, Try.ntmps27
  go_wp2_with (go_at_call 43; refine (held_u _ _ _ _).mono ?_; rintro e w' ⟨rfl, rfl⟩)
  · go_ret
    exact ⟨ret_u (addS_lt ‹_›), rfl⟩
  · go_ret
    exact ⟨ret_u (addS_ge ‹_› ha hb), rfl⟩
theorem word_Shl (a n : Int) (ha : 0 ≤ a) (hn : 0 ≤ n) (w : World) :
    Calls Try.prog 31 #[.int .u64 a, .int .u64 n] w fun r w' => r = .returned (.int .u64 (shlS a n)) ∧ w = w' := by
  go_enter Try.func31, Try.ntmps31
  go_wp2_with (go_at_call 43; refine (held_u _ _ _ _).mono ?_; rintro e w' ⟨rfl, rfl⟩)
  · go_ret
    exact ⟨ret_u (shlS_hi ha ‹_›), rfl⟩
  · go_ret
    exact ⟨ret_u (by rw [IntKind.wrap_u64]; exact shlS_lo ha ‹_›), rfl⟩
end Go.Proofs.Ytmehejdgdjaipaa
