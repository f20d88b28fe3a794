/- Run in one law, and few; parts of slices. -/
import Derived.Test.YtlhjacgocggbcaaGdsA
set_option linter.unusedVariables false
set_option maxRecDepth 100000
set_option maxHeartbeats 2000000
namespace Go.Proofs.Ytlhjacgocggbcaa
open Go.RowKit Go.Shelf
attribute [local go_sem ↓] lt_alloc

def cfgP (most : Int) (Z C : Nat → Int) (n nc : Nat) : Prop := 1 ≤ most ∧ most ≤ 65536 ∧ mayP Z C n nc
instance (most : Int) (Z C : Nat → Int) (n nc : Nat) : Decidable (cfgP most Z C n nc) := by unfold cfgP; infer_instance
def callsP (n m : Nat) (A : Nat → Int) : Prop := ∀ j, j < m → 0 ≤ A j ∧ A j < n
instance (n m : Nat) (A : Nat → Int) : Decidable (callsP n m A) := by unfold callsP; infer_instance
/-- Run's error. -/
def runE (most : Int) (Z C : Nat → Int) (n nc m : Nat) (A : Nat → Int) : Int := if ¬ cfgP most Z C n nc then 220 else if ¬ callsP n m A then 221 else 0
def natA (A : Nat → Int) (j : Nat) : Nat := (A j).toNat
theorem IsK.congr {k : IntKind} {w : World} {a : Option Addr} {n : Nat} {Z Y : Nat → Int} (h : IsK k w a n Z) (he : ∀ i, i < n → Z i = Y i) : IsK k w a n Y := by
  rcases h with h | ⟨b, off, h1, h2, h3⟩
  · exact Or.inl h
  · exact Or.inr ⟨b, off, h1, h2, fun i hi => by rw [← he i hi]; exact h3 i hi⟩
theorem runE_0 {most : Int} {Z C : Nat → Int} {n nc m : Nat} {A : Nat → Int} (h : runE most Z C n nc m A = 0) : cfgP most Z C n nc ∧ callsP n m A := by
  unfold runE at h
  by_cases h1 : cfgP most Z C n nc
  · rw [if_neg (fun h => h h1)] at h
    by_cases h2 : callsP n m A
    · exact ⟨h1, h2⟩
    · rw [if_pos h2] at h; omega
  · rw [if_pos h1] at h; omega
theorem runE_ok {most : Int} {Z C : Nat → Int} {n nc m : Nat} {A : Nat → Int} (h1 : cfgP most Z C n nc) (h2 : callsP n m A) : runE most Z C n nc m A = 0 := by
  unfold runE; rw [if_neg (fun h => h h1), if_neg (fun h => h h2)]
theorem runE_cases (most : Int) (Z C : Nat → Int) (n nc m : Nat) (A : Nat → Int) : runE most Z C n nc m A = 0 ∨ runE most Z C n nc m A = 220 ∨ runE most Z C n nc m A = 221 := by
  unfold runE
  split
  · exact Or.inr (Or.inl rfl)
  · split
    · exact Or.inr (Or.inr rfl)
    · exact Or.inl rfl
theorem gds_Run {most : Int} {sa ca aa : Option Addr} {n nc m cs cc ac : Nat} {Z C A : Nat → Int} (hZ : InK .i64 Z) (hC : InK .i64 C) (hmm : m ≤ 1000000)
    (w : World) (iZ : IsK .i64 w sa n Z) (iC : IsK .i64 w ca nc C) (iA : IsK .i64 w aa m A) :
    Calls Try.prog 10 #[.int .i64 most, .slice sa n cs, .slice ca nc cc, .slice aa m ac] w fun e w' => ∃ a len cap, e = .returned (.tuple #[.slice a len cap, .int .i64 (runE most Z C n nc m A)]) ∧ len ≤ cap ∧ len = (if runE most Z C n nc m A = 0 then m else 0) ∧ IsS w' a len (hitG Z C n most (natA A)) (goG Z C n most (natA A)) ∧ Below w.heap.size w w' := by
  by_cases h1 : cfgP most Z C n nc
  · obtain ⟨c1, c2, c3⟩ := h1
    obtain rfl : n = nc := c3.2.1
    by_cases h2 : callsP n m A
    · rw [runE_ok ⟨c1, c2, c3⟩ h2, if_pos rfl]
      have e : ∀ i, i < m → A i = (natA A i : Nat) := fun i hi => by have := h2 i hi; unfold natA; omega
      refine (gds_Run_ok (A := natA A) hZ hC c1 c2 c3 (fun j hj => by have := h2 j hj; unfold natA; omega) hmm w iZ iC (iA.congr e)).mono ?_
      rintro e w' ⟨a, cap, rfl, h3, h4, h5⟩
      exact ⟨a, m, cap, rfl, h3, rfl, h4, h5⟩
    · have hr : runE most Z C n n m A = 221 := by unfold runE; rw [if_neg (fun h => h ⟨c1, c2, c3⟩), if_pos h2]
      rw [hr, if_neg (by decide)]
      have hx : ∃ j, j < m ∧ ¬ (0 ≤ A j ∧ A j < n) := by
        apply Classical.byContradiction
        intro hno
        exact h2 fun j hj => Classical.byContradiction fun hh => hno ⟨j, hj, hh⟩
      refine (gds_Run_call hZ hC c1 c2 c3 hx hmm w iZ iC iA).mono ?_
      rintro e w' ⟨rfl, h5⟩
      exact ⟨none, 0, 0, rfl, Nat.le_refl _, rfl, Or.inl rfl, h5⟩
  · have hr : runE most Z C n nc m A = 220 := by unfold runE; rw [if_pos h1]
    rw [hr, if_neg (by decide)]
    refine (gds_Run_cfg hZ hC h1 w iZ iC).mono ?_
    rintro e w' ⟨rfl, h5⟩
    exact ⟨none, 0, 0, rfl, Nat.le_refl _, rfl, Or.inl rfl, h5⟩
/-- Few objects, and calls. -/
def fewP (n nc m : Nat) : Prop := n ≤ 100 ∧ nc ≤ 100 ∧ m ≤ 60
instance (n nc m : Nat) : Decidable (fewP n nc m) := by unfold fewP; infer_instance
theorem law18_few {sa ca aa : Option Addr} {n nc m cs cc ac : Nat} (w : World) :
    Calls Try.prog 9 #[.slice sa n cs, .slice ca nc cc, .slice aa m ac] w fun e w' => e = .returned (.bool (decide (fewP n nc m))) ∧ w = w' := by
  by_cases h1 : n ≤ 100
  · by_cases h2 : nc ≤ 100
    · by_cases h3 : m ≤ 60
      · rw [decide_eq_true (show fewP n nc m from ⟨h1, h2, h3⟩)]
        have d3 : decide ((m : Int) ≤ 60) = true := decide_eq_true (by omega)
        go_enter Try.func9, Try.ntmps9
        go_wp2_with fail
        go_ret
        exact ⟨rfl, rfl⟩
      · rw [decide_eq_false (show ¬ fewP n nc m from fun h => h3 h.2.2)]
        have d3 : decide ((m : Int) ≤ 60) = false := decide_eq_false (by omega)
        go_enter Try.func9, Try.ntmps9
        go_wp2_with fail
        go_ret
        exact ⟨rfl, rfl⟩
    · rw [decide_eq_false (show ¬ fewP n nc m from fun h => h2 h.2.1)]
      go_enter Try.func9, Try.ntmps9
      go_wp2_with fail
      go_ret
      exact ⟨rfl, rfl⟩
  · rw [decide_eq_false (show ¬ fewP n nc m from fun h => h1 h.1)]
    go_enter Try.func9, Try.ntmps9
    go_wp2_with fail
    go_ret
    exact ⟨rfl, rfl⟩
/-- A part of a slice begins here. -/
def subA (a : Option Addr) (l m s : Nat) : Option Addr := if m = l then a else a.map (·.add (l * s))
theorem subA_some (b off l m s : Nat) : ∃ o, subA (some ⟨b, off, none⟩) l m s = some ⟨b, o, none⟩ ∧ (m ≠ l → o = off + l * s) := by
  unfold subA
  split
  · exact ⟨off, rfl, fun h => absurd ‹_› h⟩
  · refine ⟨off + l * s, ?_, fun _ => rfl⟩
    rw [Option.map_some, Go.WideShapes.add_plain]
theorem IsK.sub {k : IntKind} {w : World} {a : Option Addr} {n : Nat} {Z : Nat → Int} (h : IsK k w a n Z) {l d m : Nat} (hd : l + d ≤ n) (hm : n ≤ m) : IsK k w (subA a l m 1) d (fun j => Z (l + j)) := by
  rcases h with h | ⟨b, off, rfl, h2, h3⟩
  · exact Or.inl (by omega)
  · obtain ⟨o, h4, h5⟩ := subA_some b off l m 1
    rcases Nat.eq_zero_or_pos d with h0 | h0
    · exact Or.inl h0
    · refine Or.inr ⟨b, o, h4, by omega, fun i hi => ?_⟩
      rw [h5 (by omega), show off + l * 1 + i = off + (l + i) by omega]
      exact h3 (l + i) (by omega)
theorem IsS.sub {w : World} {a : Option Addr} {n : Nat} {H : Nat → Bool} {O : Nat → List Nat} (h : IsS w a n H O) {l d m : Nat} (hd : l + d ≤ n) (hm : n ≤ m) : IsS w (subA a l m 2) d (fun j => H (l + j)) (fun j => O (l + j)) := by
  rcases h with h | ⟨b, off, rfl, h2, h3⟩
  · exact Or.inl (by omega)
  · obtain ⟨o, h4, h5⟩ := subA_some b off l m 2
    rcases Nat.eq_zero_or_pos d with h0 | h0
    · exact Or.inl h0
    · refine Or.inr ⟨b, o, h4, by omega, fun i hi => ?_⟩
      rw [h5 (by omega), show off + l * 2 + i * 2 = off + (l + i) * 2 by omega]
      exact h3 (l + i) (by omega)
theorem slice_int_h (w : World) (a : Option Addr) (len cap : Nat) (k : IntKind) (h : Int) (h0 : 0 ≤ h) (h1 : h ≤ cap) :
    (Instr.slice 22 (.slice a len cap) none (some (.int k h)) none).run Try.prog w = .ok (.slice (subA a 0 cap 1) h.toNat cap) w := by
  have ht : Try.prog.underlying 22 = some (.slice (Try.prog.elem 22)) := by kernel_rfl
  rw [run_slice_h (P := Try.prog) w 22 a len cap ht k h h0 h1]
  simp [go_sem, sliced, subA]
theorem slice_srv_h (w : World) (a : Option Addr) (len cap : Nat) (k : IntKind) (h : Int) (h0 : 0 ≤ h) (h1 : h ≤ cap) :
    (Instr.slice 28 (.slice a len cap) none (some (.int k h)) none).run Try.prog w = .ok (.slice (subA a 0 cap 2) h.toNat cap) w := by
  have ht : Try.prog.underlying 28 = some (.slice (Try.prog.elem 28)) := by kernel_rfl
  rw [run_slice_h (P := Try.prog) w 28 a len cap ht k h h0 h1]
  simp [go_sem, sliced, subA]
theorem slice_int_l (w : World) (a : Option Addr) (len cap : Nat) (k : IntKind) (l : Int) (h0 : 0 ≤ l) (h1 : l ≤ len) :
    (Instr.slice 22 (.slice a len cap) (some (.int k l)) none none).run Try.prog w = .ok (.slice (subA a l.toNat cap 1) (len - l.toNat) (cap - l.toNat)) w := by
  have ht : Try.prog.underlying 22 = some (.slice (Try.prog.elem 22)) := by kernel_rfl
  rw [run_slice_l (P := Try.prog) w 22 a len cap ht k l h0 h1]
  simp [go_sem, sliced, subA]
theorem slice_srv_l (w : World) (a : Option Addr) (len cap : Nat) (k : IntKind) (l : Int) (h0 : 0 ≤ l) (h1 : l ≤ len) :
    (Instr.slice 28 (.slice a len cap) (some (.int k l)) none none).run Try.prog w = .ok (.slice (subA a l.toNat cap 2) (len - l.toNat) (cap - l.toNat)) w := by
  have ht : Try.prog.underlying 28 = some (.slice (Try.prog.elem 28)) := by kernel_rfl
  rw [run_slice_l (P := Try.prog) w 28 a len cap ht k l h0 h1]
  simp [go_sem, sliced, subA]
end Go.Proofs.Ytlhjacgocggbcaa
