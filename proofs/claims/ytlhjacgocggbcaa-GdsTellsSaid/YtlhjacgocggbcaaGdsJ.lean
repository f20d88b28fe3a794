/- The walk of serve, where room is made. -/
import Derived.Test.YtlhjacgocggbcaaGdsI
set_option linter.unusedVariables false
set_option maxRecDepth 100000
set_option maxHeartbeats 4000000
namespace Go.Proofs.Ytlhjacgocggbcaa
open Go.RowKit Go.Shelf
attribute [local go_sem ↓] lt_alloc

def lenV : Value → Nat
  | .slice _ l _ => l
  | _ => 0
def intsL (l : List Nat) : List Value := l.map fun k => Value.int .i64 (k : Nat)
/-- The world inside serve, and the row of those that went. -/
structure LW (w : World) (g i : Nat) (sv cv : Value) (most : Int) (s : Gd) (ov : Value) (l : List Nat) (W : World) : Prop where
  sw : SW w g i sv cv most s W
  own : W.ownsRow (w.heap.size + 3) 3 1 ov l.length (intsL l)
theorem LW.below {w W W' : World} {g i : Nat} {sv cv : Value} {most : Int} {s : Gd} {ov : Value} {l : List Nat} (h : LW w g i sv cv most s ov l W) (hb : Below W.heap.size W W') : LW w g i sv cv most s ov l W' :=
  ⟨h.sw.below hb, h.own.kept (row := none) ⟨hb.os, hb.tape, hb.output, hb.size, fun k hk _ => hb.block k hk⟩ (by cases ov.ownBlock <;> simp)⟩
theorem LW.set {w W : World} {g i : Nat} {sv cv : Value} {most : Int} {s s' : Gd} {ov : Value} {l : List Nat} (h : LW w g i sv cv most s ov l W) (hg : g < w.heap.size) (k : Nat) (v : Value) (hs : ∀ j, j < 133 → updV (courseF sv cv most s) k v j = courseF sv cv most s' j) :
    LW w g i sv cv most s' ov l (W.setCell ⟨g, k, none⟩ v) :=
  ⟨h.sw.set hg k v hs, ownsRow_setCell_below h.own (by show g < _; omega) v⟩
theorem SW.grown {w W W' : World} {g i : Nat} {sv cv : Value} {most : Int} {s : Gd} (h : SW w g i sv cv most s W) (hg : g < w.heap.size) {row : Option Nat} (hb : W.grownBy W' row) (hr : ∀ k, row = some k → w.heap.size + 3 ≤ k) : SW w g i sv cv most s W' := by
  have hs := h.sz
  have e : ∀ k, k < w.heap.size + 3 → W'.heap[k]? = W.heap[k]? := fun k hk => hb.block k (by omega) (fun hh => by have := hr k hh.symm; omega)
  refine ⟨?_, ?_, ?_, ?_, ?_, by have := hb.size; omega⟩
  · unfold CourseAt; rw [e g (by omega)]; exact h.co
  · rw [World.cell?_of_block (e _ (by show w.heap.size < _; omega))]; exact h.c2
  · rw [World.cell?_of_block (e _ (by show w.heap.size + 1 < _; omega))]; exact h.c3
  · rw [e _ (by omega)]; exact h.c4
  · exact ⟨hb.os.trans h.on.os, hb.tape.trans h.on.tape, hb.output.trans h.on.output, Nat.le_trans h.on.size hb.size, fun k hk hne => (e k (by omega)).trans (h.on.block k hk hne)⟩
theorem ownB {w : World} {base : Nat} {e : TypeId} {v : Value} {n : Nat} {xs : List Value} (h : w.ownsRow base e 1 v n xs) : ∀ k, v.ownBlock = some k → base ≤ k := fun k hk => (h.lt k hk).1
theorem outsAt_own {w : World} {B B' : Nat} {v : Value} {l : List Nat} (h : w.ownsRow B 3 1 v l.length (intsL l)) (hB : B' ≤ B) : OutsAt B' w v l := by
  rcases h.2 with ⟨rfl, h0⟩ | ⟨g, cap, cur, rfl, hb, hgg, _, hm, _, _⟩
  · have : l = [] := List.length_eq_zero_iff.1 h0
    subst this
    exact OutsAt.nil B' w
  · refine ⟨some ⟨g, 0, none⟩, cap, rfl, Or.inr ⟨g, 0, rfl, by unfold maxLen at hm; omega, fun k hk => ?_⟩, fun b off hh => ?_⟩
    · have e := h.cells rfl k (.int .i64 ((l.getD k 0 : Nat) : Int)) (by unfold intsL; rw [List.getElem?_map, List.getD_eq_getElem?_getD, List.getElem?_eq_getElem hk]; rfl)
      rwa [Addr.add_lit] at e
    · cases hh; omega
theorem ownsRow_len {w : World} {base : Nat} {e : TypeId} {v : Value} {n : Nat} {xs : List Value} (h : w.ownsRow base e 1 v n xs) : lenV v = n := by
  rcases h.2 with ⟨rfl, rfl⟩ | ⟨g, cap, cur, rfl, _⟩
  · rfl
  · rfl
theorem LW.only {w W W' : World} {g i : Nat} {sv cv : Value} {most : Int} {s s' : Gd} {ov : Value} {l : List Nat} (h : LW w g i sv cv most s ov l W) (hg : g < w.heap.size) (hc : CourseAt W' g sv cv most s') (ho : Only g W W') : LW w g i sv cv most s' ov l W' := by
  have hs := h.sw.sz
  refine ⟨⟨hc, ho.cell (by show w.heap.size ≠ g; omega) h.sw.c2, ho.cell (by show w.heap.size + 1 ≠ g; omega) h.sw.c3, (ho.block _ (by omega) (by omega)).trans h.sw.c4, h.sw.on.trans ho, by have := ho.size; omega⟩, ?_⟩
  refine h.own.kept (row := some g) ⟨ho.os, ho.tape, ho.output, ho.size, fun k hk hne => ho.block k hk (fun hh => hne (by rw [hh]))⟩ ?_
  refine Or.inr fun hh => ?_
  have := ownB h.own g hh
  omega
/-- One round of the making of room. -/
structure RoomR (Z : Nat → Int) (n : Nat) (most : Int) (i : Nat) (R : Gd × List Nat) (s : Gd) (l : List Nat) : Prop where
  inv : InvG Z n most s
  inn : s.inn i = false
  cnt : l.length + cntIn s.inn n ≤ n
  eq : R = ((roomG Z n most i (n - l.length) s).1, l ++ (roomG Z n most i (n - l.length) s).2)
theorem cntIn_pos (f : Nat → Bool) {b : Nat} (hb : f b = true) {n : Nat} (h : b < n) : 1 ≤ cntIn f n := by
  have := cntIn_out f hb n
  rw [if_pos h] at this
  omega
theorem RoomR.step {Z : Nat → Int} {n : Nat} {most : Int} {i : Nat} {R : Gd × List Nat} {s : Gd} {l : List Nat} (h : RoomR Z n most i R s l) (hZ : ∀ j, j < n → 0 ≤ Z j) (hr : ¬ s.tk + Z i ≤ most) {b : Nat} (hb : leastG s n = some b) :
    RoomR Z n most i R (outG Z s b) (l ++ [b]) ∧ l.length < n := by
  obtain ⟨b1, b2⟩ := leastG_some hb
  have hc := cntIn_out s.inn b2 n
  rw [if_pos b1] at hc
  have h1 := h.cnt
  have hl : l.length < n := by omega
  obtain ⟨f, hf⟩ : ∃ f, n - l.length = f + 1 := ⟨n - l.length - 1, by omega⟩
  refine ⟨⟨h.inv.out hZ b1 b2, ?_, ?_, ?_⟩, hl⟩
  · show setB s.inn b false i = false
    unfold setB; split
    · rfl
    · exact h.inn
  · rw [List.length_append, List.length_singleton]
    show l.length + 1 + cntIn (setB s.inn b false) n ≤ n
    omega
  · rw [h.eq, hf, roomG_step f hr hb, List.length_append, List.length_singleton, show n - (l.length + 1) = f from by omega, List.append_assoc]
    rfl
theorem RoomR.stop {Z : Nat → Int} {n : Nat} {most : Int} {i : Nat} {R : Gd × List Nat} {s : Gd} {l : List Nat} (h : RoomR Z n most i R s l) (hr : s.tk + Z i ≤ most) : R = (s, l) := by
  rw [h.eq, roomG_stop _ hr, List.append_nil]
theorem RoomR.start {Z : Nat → Int} {n : Nat} {most : Int} {i : Nat} {s : Gd} (hI : InvG Z n most s) (hi : s.inn i = false) : RoomR Z n most i (roomG Z n most i n s) s [] :=
  ⟨hI, hi, by have := cntIn_le s.inn n; simpa using this, by simp⟩
theorem InvG.tk0 {Z : Nat → Int} {n : Nat} {most : Int} {s : Gd} (h : InvG Z n most s) (hZ : ∀ j, j < n → 0 ≤ Z j) : 0 ≤ s.tk ∧ ∀ b, b < n → s.inn b = true → Z b ≤ s.tk := by
  rw [h.tk]; exact sumIn_ge Z s.inn hZ n (Nat.le_refl _)
theorem serve_ret {w W : World} {g i : Nat} {sv cv : Value} {most : Int} {s : Gd} {ov : Value} {l : List Nat} (h : LW w g i sv cv most s ov l W) (hg : g < w.heap.size) :
    let W' := (W.setCell ⟨w.heap.size + 1 + 1, 0, none⟩ (.bool false)).setCell ⟨w.heap.size + 1 + 1, 1, none⟩ ov
    W'.heap[w.heap.size + 1 + 1]? = some (.cells #[.bool false, ov] 40 (0, 0)) ∧ OutsAt w.heap.size W' ov l ∧ CourseAt W' g sv cv most s ∧ Only g w W' := by
  have hn2 : w.heap.size + 1 + 1 ≠ g := by omega
  refine ⟨?_, ?_, ?_, ?_⟩
  · have r1 := heap_setCell_same W (w.heap.size + 1 + 1) 0 _ _ (.bool false) h.sw.c4
    exact heap_setCell_same _ (w.heap.size + 1 + 1) 1 _ _ ov r1
  · exact outsAt_own (ownsRow_setCell_below (ownsRow_setCell_below h.own (by show w.heap.size + 1 + 1 < _; omega) _) (by show w.heap.size + 1 + 1 < _; omega) _) (by omega)
  · have hc := h.sw.co
    unfold CourseAt at *
    rw [heap_setCell_other _ ⟨w.heap.size + 1 + 1, 1, none⟩ g _ (fun h => hn2 h.symm), heap_setCell_other _ ⟨w.heap.size + 1 + 1, 0, none⟩ g _ (fun h => hn2 h.symm)]
    exact hc
  · exact h.sw.on.thenB (((Below.refl _ _).setCell (by show _ ≤ w.heap.size + 1 + 1; omega) _).setCell (by show _ ≤ w.heap.size + 1 + 1; omega) _)
/-- What is loaded inside serve. -/
structure LF (w : World) (g i sb so : Nat) (Z : Nat → Int) (n cs : Nat) (most : Int) (s : Gd) (W : World) : Prop where
  c2 : W.cell? ⟨w.heap.size, 0, none⟩ = some (.pointer (some ⟨g, 0, none⟩))
  c3 : W.cell? ⟨w.heap.size + 1, 0, none⟩ = some (.int .i64 i)
  g0 : W.cell? ⟨g, 0, none⟩ = some (.slice (some ⟨sb, so, none⟩) n cs)
  g2 : W.cell? ⟨g, 2, none⟩ = some (.int .i64 most)
  g3 : W.cell? ⟨g, 3, none⟩ = some (.int .i64 s.tk)
  gl : W.cell? ⟨g, 132, none⟩ = some (.int .u64 s.lv)
  fz : ∀ k, W.frozen? ⟨g, k, none⟩ = false
  gi : ∀ j, j < 64 → W.cell? ⟨g, 4 + j, none⟩ = some (.bool (s.inn j))
  gr : ∀ j, j < 64 → W.cell? ⟨g, 68 + j, none⟩ = some (.int .u64 (s.rk j))
  z : ∀ j, j < n → W.cell? ⟨sb, so + j, none⟩ = some (.int .i64 (Z j))
theorem SW.loads {w W : World} {g i sb so : Nat} {Z : Nat → Int} {n cs : Nat} {cv : Value} {most : Int} {s : Gd} (h : SW w g i (.slice (some ⟨sb, so, none⟩) n cs) cv most s W) (hz : ∀ j, j < n → w.cell? ⟨sb, so + j, none⟩ = some (.int .i64 (Z j))) (hs : sb ≠ g) :
    LF w g i sb so Z n cs most s W :=
  ⟨h.c2, h.c3, h.co.cell (i := 0) (by decide), h.co.cell (i := 2) (by decide), h.co.cell (i := 3) (by decide), h.co.cell (i := 132) (by decide), fun k => h.co.frozen k, fun j hj => h.co.inn hj, fun j hj => h.co.rk hj, fun j hj => h.on.cell (p := ⟨sb, so + j, none⟩) hs (hz j hj)⟩
end Go.Proofs.Ytlhjacgocggbcaa
