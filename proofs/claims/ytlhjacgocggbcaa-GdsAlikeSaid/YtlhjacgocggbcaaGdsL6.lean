/- GdsAlike at every input. -/
import Derived.Test.YtlhjacgocggbcaaGdsL5
set_option linter.unusedVariables false
set_option maxRecDepth 100000
set_option maxHeartbeats 4000000
namespace Go.Proofs.Ytlhjacgocggbcaa
open Go.RowKit Go.Shelf
attribute [local go_sem ↓] lt_alloc

theorem gdsAlike_walk {ba : Option Addr} {m bc : Nat} {B : Nat → Int} {n room size cost : Int} (n0 : 0 ≤ n ∧ n < 256) (r0 : 0 ≤ room ∧ room < 256) (s0 : 0 ≤ size ∧ size < 256) (c0 : 0 ≤ cost ∧ cost < 65536) (hB : InK .u8 B)
    (w : World) (iB : IsK .u8 w ba m B) :
    Calls Try.prog 5 #[.int .u8 n, .int .u8 room, .int .u8 size, .int .u16 cost, .slice ba m bc] w fun e w' => e = .returned (.bool true) ∧ Below w.heap.size w w' := by
  by_cases hm : m ≤ 60
  · exact gdsAlike_ok n0.1 n0.2 r0.1 r0.2 s0.1 s0.2 c0.1 c0.2 hB hm w iB
  · have hm' : (60 : Int) < m := by omega
    clear hm iB hB
    go_enter Try.func5, Try.ntmps5
    go_wp2_with fail
    refine (law18_awake w).mono ?_
    rintro e w0 ⟨rfl, hB0⟩
    go_wp2_with fail
    go_ret
    exact ⟨rfl, hB0⟩
end Go.Proofs.Ytlhjacgocggbcaa
