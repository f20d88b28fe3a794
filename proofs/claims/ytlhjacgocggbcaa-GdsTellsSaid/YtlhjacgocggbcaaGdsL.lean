/- serve in one law; a run's states; what is told of a run, in memory. -/
import Derived.Test.YtlhjacgocggbcaaGdsK
set_option linter.unusedVariables false
set_option maxRecDepth 100000
set_option maxHeartbeats 1000000
namespace Go.Proofs.Ytlhjacgocggbcaa
open Go.RowKit Go.Shelf

theorem roomG_inv {Z : Nat → Int} {n : Nat} {most : Int} {i : Nat} (hZ : ∀ j, j < n → 0 ≤ Z j) (hm : Z i ≤ most) : ∀ f (s : Gd), InvG Z n most s → s.inn i = false → cntIn s.inn n ≤ f →
    InvG Z n most (roomG Z n most i f s).1 ∧ (roomG Z n most i f s).1.inn i = false ∧ (roomG Z n most i f s).1.tk + Z i ≤ most
  | 0, s, h, hi, hc => by
    refine ⟨h, hi, ?_⟩
    show s.tk + Z i ≤ most
    by_cases hr : s.tk + Z i ≤ most
    · exact hr
    · obtain ⟨b, hb⟩ := h.some (i := i) hr hm
      obtain ⟨b1, b2⟩ := leastG_some hb
      have := cntIn_pos s.inn b2 b1
      omega
  | f + 1, s, h, hi, hc => by
    by_cases hr : s.tk + Z i ≤ most
    · rw [roomG_stop _ hr]; exact ⟨h, hi, hr⟩
    · obtain ⟨b, hb⟩ := h.some (i := i) hr hm
      obtain ⟨b1, b2⟩ := leastG_some hb
      rw [roomG_step f hr hb]
      have hcc := cntIn_out s.inn b2 n
      rw [if_pos b1] at hcc
      refine roomG_inv hZ hm f (outG Z s b) (h.out hZ b1 b2) ?_ ?_
      · show setB s.inn b false i = false
        unfold setB; split
        · rfl
        · exact hi
      · show cntIn (setB s.inn b false) n ≤ f
        omega
theorem serveG_inv {Z C : Nat → Int} {n : Nat} {most : Int} {s : Gd} (hZ : ∀ j, j < n → 0 ≤ Z j) (h : InvG Z n most s) {i : Nat} (hi : i < n) : InvG Z n most (serveG Z C n most s i).1 := by
  unfold serveG
  by_cases hin : s.inn i = true
  · rw [if_pos hin]; exact h.rank i
  · rw [if_neg hin]
    by_cases hb : most < Z i
    · rw [if_pos hb]; exact h
    · rw [if_neg hb]
      obtain ⟨a, b, c⟩ := roomG_inv (i := i) hZ (Int.not_lt.1 hb) n s h (by simpa using hin) (cntIn_le _ _)
      exact a.come hi b c
/-- The cache ahead of the j-th call. -/
def stG (Z C : Nat → Int) (n : Nat) (most : Int) (A : Nat → Nat) : Nat → Gd
  | 0 => gd0
  | j + 1 => (serveG Z C n most (stG Z C n most A j) (A j)).1
def hitG (Z C : Nat → Int) (n : Nat) (most : Int) (A : Nat → Nat) (j : Nat) : Bool := (serveG Z C n most (stG Z C n most A j) (A j)).2.1
def goG (Z C : Nat → Int) (n : Nat) (most : Int) (A : Nat → Nat) (j : Nat) : List Nat := (serveG Z C n most (stG Z C n most A j) (A j)).2.2
theorem stG_inv {Z C : Nat → Int} {n : Nat} {most : Int} {A : Nat → Nat} (hZ : ∀ j, j < n → 0 ≤ Z j) (hm : 1 ≤ most) : ∀ j, (∀ k, k < j → A k < n) → InvG Z n most (stG Z C n most A j)
  | 0, _ => InvG.zero Z n hm
  | j + 1, h => serveG_inv hZ (stG_inv hZ hm j (fun k hk => h k (by omega))) (h j (by omega))
theorem gds_serve (g : Nat) {sa ca : Option Addr} {n cs cc i : Nat} {Z C : Nat → Int} {most : Int} {s : Gd} (hZ : InK .i64 Z) (hC : InK .i64 C) (hi : i < n) (hn : n ≤ 64) (hz : ∀ j, j < n → 1 ≤ Z j ∧ Z j ≤ 4096) (hm : most ≤ 65536)
    (hI : InvG Z n most s) (w : World) (hsg : ∀ b off, sa = some ⟨b, off, none⟩ → b ≠ g) (hcg : ∀ b off, ca = some ⟨b, off, none⟩ → b ≠ g)
    (iZ : IsK .i64 w sa n Z) (iC : IsK .i64 w ca n C) (hc : CourseAt w g (.slice sa n cs) (.slice ca n cc) most s) :
    Calls Try.prog 22 #[.pointer (some ⟨g, 0, none⟩), .int .i64 i] w fun e w' => ∃ ov, e = .returned (.agg #[.bool (serveG Z C n most s i).2.1, ov]) ∧ OutsAt w.heap.size w' ov (serveG Z C n most s i).2.2 ∧ CourseAt w' g (.slice sa n cs) (.slice ca n cc) most (serveG Z C n most s i).1 ∧ Only g w w' := by
  by_cases hin : s.inn i = true
  · refine (gds_serve_hit g hZ hC hi hn hI hin w iZ iC hc).mono ?_
    rintro e w' ⟨rfl, h1, h2⟩
    unfold serveG
    rw [if_pos hin]
    exact ⟨_, rfl, OutsAt.nil _ _, h1, h2⟩
  · have hin' : s.inn i = false := by simpa using hin
    by_cases hb : most < Z i
    · refine (gds_serve_big g hi hn hin' hb w iZ hc).mono ?_
      rintro e w' ⟨rfl, h1, h2⟩
      unfold serveG
      rw [if_neg hin, if_pos hb]
      exact ⟨_, rfl, OutsAt.nil _ _, h1, h2⟩
    · rcases iZ with h0 | ⟨sb, so, rfl, hl, hrow⟩
      · omega
      refine (gds_serve_room g hZ hC hi hn hz hm hI hin' hb w (hsg sb so rfl) hcg hrow iC hc).mono ?_
      rintro e w' ⟨ov, rfl, h0, h1, h2⟩
      unfold serveG
      rw [if_neg hin, if_neg hb]
      exact ⟨_, rfl, h0, h1, h2⟩
/-- A slice of Serves. -/
def SrvRow (w : World) (b off m : Nat) (H : Nat → Bool) (O : Nat → List Nat) : Prop := ∀ j, j < m → w.cell? ⟨b, off + j * 2, none⟩ = some (.bool (H j)) ∧ ∃ ov, w.cell? ⟨b, off + j * 2 + 1, none⟩ = some ov ∧ OutsAt 0 w ov (O j)
def IsS (w : World) (a : Option Addr) (m : Nat) (H : Nat → Bool) (O : Nat → List Nat) : Prop := m = 0 ∨ ∃ b off, a = some ⟨b, off, none⟩ ∧ m ≤ 9223372036854775807 ∧ SrvRow w b off m H O
theorem OutsAt.below {B : Nat} {w w' : World} {v : Value} {l : List Nat} (h : OutsAt B w v l) (hb : Below w.heap.size w w') : OutsAt B w' v l := by
  obtain ⟨a, cap, h1, h2, h3⟩ := h
  exact ⟨a, cap, h1, h2.below hb, h3⟩
theorem OutsAt.le {B B' : Nat} {w : World} {v : Value} {l : List Nat} (h : OutsAt B w v l) (hb : B' ≤ B) : OutsAt B' w v l := by
  obtain ⟨a, cap, h1, h2, h3⟩ := h
  exact ⟨a, cap, h1, h2, fun b off h => Nat.le_trans hb (h3 b off h)⟩
theorem OutsAt.only {B g : Nat} {w w' : World} {v : Value} {l : List Nat} (h : OutsAt B w v l) (hb : Only g w w') (hg : g < B) : OutsAt B w' v l := by
  obtain ⟨a, cap, h1, h2, h3⟩ := h
  exact ⟨a, cap, h1, h2.only hb (fun b off h => by have := h3 b off h; omega), h3⟩
theorem IsS.below {w w' : World} {a : Option Addr} {m : Nat} {H : Nat → Bool} {O : Nat → List Nat} (h : IsS w a m H O) (hb : Below w.heap.size w w') : IsS w' a m H O := by
  rcases h with h | ⟨b, off, h1, h2, h3⟩
  · exact Or.inl h
  · refine Or.inr ⟨b, off, h1, h2, fun j hj => ?_⟩
    obtain ⟨a1, ov, a2, a3⟩ := h3 j hj
    exact ⟨keepB hb a1, ov, keepB hb a2, a3.below hb⟩
/-- The row of Serves while it is written: the first i are told. -/
structure ToldAt (w : World) (g T m i : Nat) (H : Nat → Bool) (O : Nat → List Nat) : Prop where
  row : ∃ cur : Array Value, w.heap[T]? = some (.cells cur 40 (0, 0)) ∧ cur.size = m * 2 ∧ ∀ j, j < i → cur[j * 2]? = some (.bool (H j)) ∧ ∃ ov, cur[j * 2 + 1]? = some ov ∧ OutsAt (T + 1) w ov (O j)
theorem ToldAt.only {w w' : World} {g T m i : Nat} {H : Nat → Bool} {O : Nat → List Nat} (h : ToldAt w g T m i H O) (hb : Only g w w') (hg : g < T) : ToldAt w' g T m i H O := by
  obtain ⟨cur, h1, h2, h3⟩ := h.row
  have hT : T < w.heap.size := (Array.getElem?_eq_some_iff.1 h1).1
  refine ⟨cur, (hb.block T hT (by omega)).trans h1, h2, fun j hj => ?_⟩
  obtain ⟨a1, ov, a2, a3⟩ := h3 j hj
  exact ⟨a1, ov, a2, a3.only hb (by omega)⟩
theorem ToldAt.below {w w' : World} {g T m i : Nat} {H : Nat → Bool} {O : Nat → List Nat} (h : ToldAt w g T m i H O) (hb : Below w.heap.size w w') : ToldAt w' g T m i H O := by
  obtain ⟨cur, h1, h2, h3⟩ := h.row
  have hT : T < w.heap.size := (Array.getElem?_eq_some_iff.1 h1).1
  refine ⟨cur, (hb.block T hT).trans h1, h2, fun j hj => ?_⟩
  obtain ⟨a1, ov, a2, a3⟩ := h3 j hj
  exact ⟨a1, ov, a2, a3.below hb⟩
theorem ToldAt.cells {w : World} {g T m i : Nat} {H : Nat → Bool} {O : Nat → List Nat} (h : ToldAt w g T m i H O) {k : Nat} (hk : k < m * 2) : (∃ v, w.cell? ⟨T, k, none⟩ = some v) ∧ w.frozen? ⟨T, k, none⟩ = false := by
  obtain ⟨cur, h1, h2, h3⟩ := h.row
  exact ⟨⟨_, (cell_of_row w T k _ _ _ h1).trans (Array.getElem?_eq_getElem (by omega))⟩, frozen_of_row w T k _ _ h1⟩
theorem ToldAt.put {w : World} {g T m i : Nat} {H : Nat → Bool} {O : Nat → List Nat} (h : ToldAt w g T m i H O) (hi : i < m) {ov : Value} (ho : OutsAt (T + 1) w ov (O i)) :
    ToldAt ((w.setCell ⟨T, i * 2, none⟩ (.bool (H i))).setCell ⟨T, i * 2 + 1, none⟩ ov) g T m (i + 1) H O := by
  obtain ⟨cur, h1, h2, h3⟩ := h.row
  have r1 := heap_setCell_same w T (i * 2) _ _ (.bool (H i)) h1
  have r2 := heap_setCell_same _ T (i * 2 + 1) _ _ ov r1
  have on : ∀ v l, OutsAt (T + 1) w v l → OutsAt (T + 1) ((w.setCell ⟨T, i * 2, none⟩ (.bool (H i))).setCell ⟨T, i * 2 + 1, none⟩ ov) v l := fun v l h =>
    h.only (((⟨rfl, rfl, rfl, Nat.le_refl _, fun _ _ _ => rfl⟩ : Only T w w).setCell).setCell) (by omega)
  refine ⟨_, r2, by simp [h2], fun j hj => ?_⟩
  simp only [Array.getElem?_setIfInBounds, Array.size_setIfInBounds]
  rcases Nat.lt_or_ge j i with hlt | hge
  · obtain ⟨a1, ov', a2, a3⟩ := h3 j hlt
    refine ⟨?_, ov', ?_, on _ _ a3⟩
    · rw [if_neg (by omega), if_neg (by omega)]; exact a1
    · rw [if_neg (by omega), if_neg (by omega)]; exact a2
  · obtain rfl : j = i := by omega
    refine ⟨?_, ov, ?_, on _ _ ho⟩
    · rw [if_neg (by omega), if_pos rfl, if_pos (by omega)]
    · rw [if_pos rfl, if_pos (by omega)]
theorem ToldAt.done {w : World} {g T m : Nat} {H : Nat → Bool} {O : Nat → List Nat} (h : ToldAt w g T m m H O) (hm : m ≤ 9223372036854775807) : IsS w (some ⟨T, 0, none⟩) m H O := by
  obtain ⟨cur, h1, h2, h3⟩ := h.row
  refine Or.inr ⟨T, 0, rfl, hm, fun j hj => ?_⟩
  obtain ⟨a1, ov, a2, a3⟩ := h3 j hj
  rw [Nat.zero_add]
  exact ⟨(cell_of_row w T _ _ _ _ h1).trans a1, ov, (cell_of_row w T _ _ _ _ h1).trans a2, a3.le (by omega)⟩
end Go.Proofs.Ytlhjacgocggbcaa
