/- The walks of the layer word: each function comes to the plain number of WordS. -/
import Derived.Test.YtgmgjbdbdekopaaBitsC
import Derived.Test.YtgmgjbdbdekopaaWordS
set_option linter.unusedVariables false
namespace Go.Proofs.Ytgmgjbdbdekopaa
open Go.RowKit Go.Shelf

theorem held_u (n e : Int) (b : Bool) (w : World) :
    Calls Try.prog 43 #[.int .u64 n, .int .u64 e, .bool b] w fun r w' => r = .returned (.int .u64 (if b then e else n)) ∧ w = w' := by
  cases b
  · go_enter Try.func43, Try.ntmps43
    go_wp2
    go_ret
    exact ⟨rfl, rfl⟩
  · go_enter Try.func43, Try.ntmps43
    go_wp2
    go_ret
    exact ⟨rfl, rfl⟩
theorem word_Add (a b : Int) (ha : 0 ≤ a) (hb : 0 ≤ b) (w : World) :
    Calls Try.prog 34 #[.int .u64 a, .int .u64 b] w fun r w' => r = .returned (.int .u64 (addS a b)) ∧ w = w' := by
  have h0 := add64_0 a b ha hb
  go_enter Try.func34, Try.ntmps34
  go_wp2_with (go_at_call 43; refine (held_u _ _ _ _).mono ?_; rintro e w' ⟨rfl, rfl⟩)
  · go_ret
    exact ⟨ret_u (addS_lt ‹_›), rfl⟩
  · go_ret
    exact ⟨ret_u (addS_ge ‹_› ha hb), rfl⟩
end Go.Proofs.Ytgmgjbdbdekopaa
