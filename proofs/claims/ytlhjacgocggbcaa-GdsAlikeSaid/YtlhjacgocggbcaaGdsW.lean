/- Plain law: runs of objects of one size. Nothing of the program is walked. -/
import Derived.Test.YtlhjacgocggbcaaGdsL
set_option linter.unusedVariables false
namespace Go.Proofs.Ytlhjacgocggbcaa

/-- A call, where all are of one size, and c of them are in it, of S that have room. -/
def aliG (E K : Int) (n S : Nat) (s : Gd) (c i : Nat) : Gd × Bool × List Nat :=
  if s.inn i = true then (rankG (fun _ => E) (fun _ => K) s i, true, [])
  else if c + 1 ≤ S then (comeG (fun _ => E) (fun _ => K) s i, false, [])
  else match leastG s n with
    | none => (comeG (fun _ => E) (fun _ => K) s i, false, [])
    | some b => (comeG (fun _ => E) (fun _ => K) (outG (fun _ => E) s b) i, false, [b])
def aliS (E K : Int) (n S : Nat) (A : Nat → Nat) : Nat → Gd × Nat
  | 0 => (gd0, 0)
  | j + 1 => let r := aliS E K n S A j; let q := aliG E K n S r.1 (min r.2 S) (A j); (q.1, r.2 + if q.2.1 = true then 0 else 1)
theorem fits_iff {E most : Int} {S c : Nat} (hE : 1 ≤ E) (h0 : S * E ≤ most) (h1 : most < S * E + E) : E * c + E ≤ most ↔ c + 1 ≤ S := by
  have e1 : E * (c : Int) + E = ((c + 1 : Nat) : Int) * E := by rw [Int.natCast_add, Int.add_mul, Int.mul_comm]; simp
  have e2 : (S : Int) * E + E = ((S + 1 : Nat) : Int) * E := by rw [Int.natCast_add, Int.add_mul]; simp
  rw [e1]
  constructor
  · intro h
    rw [e2] at h1
    have h2 : ((c + 1 : Nat) : Int) * E < ((S + 1 : Nat) : Int) * E := by omega
    have h3 := Int.lt_of_mul_lt_mul_right h2 (by omega)
    omega
  · intro h
    have h2 : ((c + 1 : Nat) : Int) * E ≤ (S : Int) * E := Int.mul_le_mul_of_nonneg_right (by omega) (by omega)
    omega
theorem serveG_ali {E K most : Int} {n S : Nat} (hE : 1 ≤ E) (hn : 1 ≤ n) (hS : 1 ≤ S) (h0 : S * E ≤ most) (h1 : most < S * E + E) {s : Gd} {c i : Nat} (hI : InvG (fun _ => E) n most s) (hc : s.tk = E * c) (hcS : c ≤ S) :
    serveG (fun _ => E) (fun _ => K) n most s i = aliG E K n S s c i ∧ (aliG E K n S s c i).1.tk = E * (if (aliG E K n S s c i).2.1 = true then c else min (c + 1) S : Nat) ∧
      (aliG E K n S s c i).2.2.length ≤ 1 ∧ ((aliG E K n S s c i).2.2.length = 1 ↔ (aliG E K n S s c i).2.1 = false ∧ c = S) := by
  have hEm : E ≤ most := by have h := (fits_iff (c := 0) hE h0 h1).2 (by omega); simpa using h
  unfold serveG aliG
  by_cases hin : s.inn i = true
  · rw [if_pos hin, if_pos hin]
    exact ⟨rfl, hc, by simp, by simp⟩
  · rw [if_neg hin, if_neg hin, if_neg (show ¬ most < (fun _ => E) i by show ¬ most < E; omega)]
    obtain ⟨f, rfl⟩ : ∃ f, n = f + 1 := ⟨n - 1, by omega⟩
    by_cases hf : c + 1 ≤ S
    · have hr := (fits_iff (c := c) hE h0 h1).2 hf
      rw [if_pos hf, roomG_stop (f + 1) (show s.tk + E ≤ most by rw [hc]; exact hr)]
      refine ⟨rfl, ?_, by simp, by simp; omega⟩
      show s.tk + E = E * _
      rw [if_neg (show ¬ (false = true) by decide), Nat.min_eq_left hf, hc, Int.natCast_add, Int.mul_add]; simp
    · have hr : ¬ s.tk + E ≤ most := by rw [hc]; exact fun h => hf ((fits_iff hE h0 h1).1 h)
      have hcs : c = S := by omega
      subst hcs
      obtain ⟨b, hb⟩ := hI.some (i := i) hr hEm
      rw [if_neg hf, hb]
      rw [roomG_step (Z := fun _ => E) (i := i) f hr hb]
      have e2 : (outG (fun _ => E) s b).tk = E * ((c - 1 : Nat) : Int) := by
        show s.tk - E = _
        rw [hc]
        have : (c : Int) = ((c - 1 : Nat) : Int) + 1 := by omega
        rw [this, Int.mul_add]; simp
      have hr2 := (fits_iff (c := c - 1) hE h0 h1).2 (by omega)
      rw [roomG_stop f (show (outG (fun _ => E) s b).tk + E ≤ most by rw [e2]; exact hr2)]
      refine ⟨rfl, ?_, by simp, by simp⟩
      show s.tk - E + E = E * _
      rw [if_neg (show ¬ (false = true) by decide), Nat.min_eq_right (by omega), hc]; omega
theorem ali_runs {E K most : Int} {n S : Nat} (hE : 1 ≤ E) (hn : 1 ≤ n) (hS : 1 ≤ S) (h0 : S * E ≤ most) (h1 : most < S * E + E) {A : Nat → Nat} (hA : ∀ j, A j < n) : ∀ j,
    stG (fun _ => E) (fun _ => K) n most A j = (aliS E K n S A j).1 ∧ (aliS E K n S A j).1.tk = E * (min (aliS E K n S A j).2 S : Nat)
  | 0 => ⟨rfl, by show (0 : Int) = E * ((min 0 S : Nat) : Int); rw [Nat.zero_min]; simp⟩
  | j + 1 => by
    obtain ⟨a, b⟩ := ali_runs (K := K) hE hn hS h0 h1 hA j
    have hm : 1 ≤ most := by have h := (fits_iff (c := 0) hE h0 h1).2 (by omega); simp at h; omega
    have hI := stG_inv (Z := fun _ => E) (C := fun _ => K) (n := n) (A := A) (fun _ _ => by show (0 : Int) ≤ E; omega) hm j (fun k _ => hA k)
    rw [a] at hI
    obtain ⟨s1, s2, _, _⟩ := serveG_ali (K := K) (i := A j) hE hn hS h0 h1 hI b (Nat.min_le_right _ _)
    constructor
    · show (serveG _ _ n most (stG _ _ n most A j) (A j)).1 = _
      rw [a, s1]; rfl
    · show (aliG E K n S (aliS E K n S A j).1 (min (aliS E K n S A j).2 S) (A j)).1.tk = E * (min ((aliS E K n S A j).2 + if (aliG E K n S (aliS E K n S A j).1 (min (aliS E K n S A j).2 S) (A j)).2.1 = true then 0 else 1) S : Nat)
      rw [s2]
      congr 2
      split <;> omega
/-- What is told of a call. -/
structure AliT (S : Nat) (hit : Bool) (l : List Nat) (m m' : Nat) : Prop where
  le : l.length ≤ 1
  one : l.length = 1 ↔ hit = false ∧ S < m'
  mis : m' = m + if hit = true then 0 else 1
theorem ali_told {E K most : Int} {n S : Nat} (hE : 1 ≤ E) (hn : 1 ≤ n) (hS : 1 ≤ S) (h0 : S * E ≤ most) (h1 : most < S * E + E) {A : Nat → Nat} (hA : ∀ j, A j < n) (j : Nat) :
    AliT S (hitG (fun _ => E) (fun _ => K) n most A j) (goG (fun _ => E) (fun _ => K) n most A j) (aliS E K n S A j).2 (aliS E K n S A (j + 1)).2 := by
  obtain ⟨a, b⟩ := ali_runs (K := K) hE hn hS h0 h1 hA j
  have hm : 1 ≤ most := by have h := (fits_iff (c := 0) hE h0 h1).2 (by omega); simp at h; omega
  have hI := stG_inv (Z := fun _ => E) (C := fun _ => K) (n := n) (A := A) (fun _ _ => by show (0 : Int) ≤ E; omega) hm j (fun k _ => hA k)
  rw [a] at hI
  obtain ⟨s1, s2, s3, s4⟩ := serveG_ali (K := K) (i := A j) hE hn hS h0 h1 hI b (Nat.min_le_right _ _)
  have e : serveG (fun _ => E) (fun _ => K) n most (stG (fun _ => E) (fun _ => K) n most A j) (A j) = aliG E K n S (aliS E K n S A j).1 (min (aliS E K n S A j).2 S) (A j) := by rw [a, s1]
  have e3 : (aliS E K n S A (j + 1)).2 = (aliS E K n S A j).2 + if (aliG E K n S (aliS E K n S A j).1 (min (aliS E K n S A j).2 S) (A j)).2.1 = true then 0 else 1 := rfl
  unfold hitG goG
  rw [e, e3]
  refine ⟨s3, s4.trans ⟨fun h => ⟨h.1, ?_⟩, fun h => ⟨h.1, ?_⟩⟩, rfl⟩
  · rw [h.1, if_neg (by decide)]; have := h.2; omega
  · have := h.2; rw [h.1, if_neg (by decide)] at this; omega
theorem ali_same {E K most most' : Int} {n S : Nat} (hE : 1 ≤ E) (hn : 1 ≤ n) (hS : 1 ≤ S) (h0 : S * E ≤ most) (h1 : most < S * E + E) (h0' : S * E ≤ most') (h1' : most' < S * E + E) {A : Nat → Nat} (hA : ∀ j, A j < n) (j : Nat) :
    goG (fun _ => E) (fun _ => K) n most A j = goG (fun _ => E) (fun _ => K) n most' A j ∧ hitG (fun _ => E) (fun _ => K) n most A j = hitG (fun _ => E) (fun _ => K) n most' A j := by
  have key : ∀ most : Int, S * E ≤ most → most < S * E + E → serveG (fun _ => E) (fun _ => K) n most (stG (fun _ => E) (fun _ => K) n most A j) (A j) = aliG E K n S (aliS E K n S A j).1 (min (aliS E K n S A j).2 S) (A j) := fun most h0 h1 => by
    obtain ⟨a, b⟩ := ali_runs (K := K) hE hn hS h0 h1 hA j
    have hm : 1 ≤ most := by have h := (fits_iff (c := 0) hE h0 h1).2 (by omega); simp at h; omega
    have hI := stG_inv (Z := fun _ => E) (C := fun _ => K) (n := n) (A := A) (fun _ _ => by show (0 : Int) ≤ E; omega) hm j (fun k _ => hA k)
    rw [a] at hI
    rw [a, (serveG_ali (K := K) (i := A j) hE hn hS h0 h1 hI b (Nat.min_le_right _ _)).1]
  unfold goG hitG
  rw [key most h0 h1, key most' h0' h1']
  exact ⟨rfl, rfl⟩
end Go.Proofs.Ytlhjacgocggbcaa
