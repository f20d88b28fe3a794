/- Plain law: the list beside the bits, step by step. -/
import Derived.Test.YtlhjacgocggbcaaGdsRG
set_option linter.unusedVariables false
namespace Go.Proofs.Ytlhjacgocggbcaa

theorem mem_without {L : List Nat} {b j : Nat} : (j ∈ L.filter fun x => x != b) ↔ j ∈ L ∧ j ≠ b := by rw [List.mem_filter]; simp
theorem BesideR.out {Z : Nat → Int} {n : Nat} {L : List Nat} {s : Gd} (h : BesideR Z n L s) (b : Nat) : BesideR Z n (L.filter fun x => x != b) (outG Z s b) :=
  ⟨h.one.filter _, fun x hx => h.lt x (mem_without.1 hx).1, fun j hj => by
    rw [mem_without, ← h.mem j hj]
    show setB s.inn b false j = true ↔ _
    unfold setB
    by_cases e : j = b
    · simp [e]
    · simp [e]⟩
theorem BesideR.come {Z C : Nat → Int} {n i : Nat} {L : List Nat} {s : Gd} (h : BesideR Z n L s) (hi : i < n) : BesideR Z n ((L.filter fun x => x != i) ++ [i]) (comeG Z C s i) := by
  refine ⟨?_, fun x hx => ?_, fun j hj => ?_⟩
  · rw [List.nodup_append]
    refine ⟨h.one.filter _, by simp, fun a ha c hc => ?_⟩
    have := (mem_without.1 ha).2
    rw [List.mem_singleton] at hc
    rw [hc]; exact this
  · rcases List.mem_append.1 hx with h1 | h1
    · exact h.lt x (mem_without.1 h1).1
    · rw [List.mem_singleton] at h1; omega
  · rw [List.mem_append, mem_without, List.mem_singleton, ← h.mem j hj]
    show setB s.inn i true j = true ↔ _
    unfold setB
    by_cases e : j = i
    · simp [e]
    · simp [e]
theorem BesideR.again {Z C : Nat → Int} {n i : Nat} {L : List Nat} {s : Gd} (h : BesideR Z n L s) (hi : i < n) (hin : s.inn i = true) : BesideR Z n ((L.filter fun x => x != i) ++ [i]) (rankG Z C s i) := by
  obtain ⟨a, b, c⟩ := h.come (C := C) hi
  refine ⟨a, b, fun j hj => ?_⟩
  rw [← c j hj]
  show s.inn j = true ↔ setB s.inn i true j = true
  unfold setB
  by_cases e : j = i
  · simp [e, hin]
  · simp [e]
end Go.Proofs.Ytlhjacgocggbcaa
