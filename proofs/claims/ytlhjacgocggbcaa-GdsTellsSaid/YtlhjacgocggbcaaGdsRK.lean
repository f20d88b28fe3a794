/- The reference's serve: the cache beside the bits, and its blocks. Nothing is walked. -/
import Derived.Test.YtlhjacgocggbcaaGdsRJ
import Derived.Test.YtlhjacgocggbcaaGdsRC
import Derived.Test.YtlhjacgocggbcaaGdsRH
set_option linter.unusedVariables false
namespace Go.Proofs.Ytlhjacgocggbcaa
open Go.RowKit Go.Shelf

/-- The reference's list beside the program's cache, with what it takes. -/
structure KeptR (Z : Nat → Int) (n : Nat) (most : Int) (L : List Nat) (s : Gd) : Prop where
  be : BesideR Z n L s
  tk : sumL Z L = s.tk
  inv : InvG Z n most s
theorem sumL_snoc (Z : Nat → Int) (L : List Nat) (i : Nat) : sumL Z (L ++ [i]) = sumL Z L + Z i := by
  rw [sumL_append]
  show _ + (Z i + 0) = _
  omega
theorem KeptR.out {Z : Nat → Int} {n : Nat} {most : Int} {L : List Nat} {s : Gd} (h : KeptR Z n most L s) (hZ : ∀ j, j < n → 0 ≤ Z j) {b : Nat} (hb : leastG s n = some b) : KeptR Z n most (L.filter fun x => x != b) (outG Z s b) := by
  obtain ⟨b1, b2⟩ := leastG_some hb
  refine ⟨h.be.out b, ?_, h.inv.out hZ b1 b2⟩
  rw [sumL_without h.be.one ((h.be.mem b b1).1 b2), h.tk]; rfl
theorem KeptR.come {Z C : Nat → Int} {n i : Nat} {most : Int} {L : List Nat} {s : Gd} (h : KeptR Z n most L s) (hi : i < n) (hn : s.inn i = false) (hr : s.tk + Z i ≤ most) : KeptR Z n most ((L.filter fun x => x != i) ++ [i]) (comeG Z C s i) := by
  refine ⟨h.be.come hi, ?_, h.inv.come hi hn hr⟩
  have hm : i ∉ L := fun hh => by rw [(h.be.mem i hi).2 hh] at hn; cases hn
  rw [sumL_snoc, without_out (Z := Z) hm, h.tk]; rfl
theorem KeptR.again {Z C : Nat → Int} {n i : Nat} {most : Int} {L : List Nat} {s : Gd} (h : KeptR Z n most L s) (hi : i < n) (hn : s.inn i = true) : KeptR Z n most ((L.filter fun x => x != i) ++ [i]) (rankG Z C s i) := by
  refine ⟨h.be.again hi hn, ?_, h.inv.rank i⟩
  rw [sumL_snoc, sumL_without h.be.one ((h.be.mem i hi).1 hn), h.tk]
  show s.tk - Z i + Z i = s.tk
  omega
theorem sumL_len {Z : Nat → Int} {n : Nat} (hZ : ∀ j, j < n → 1 ≤ Z j) : ∀ {L : List Nat}, (∀ x ∈ L, x < n) → (L.length : Int) ≤ sumL Z L
  | [], _ => Int.le_refl _
  | x :: L, h => by
    have a := sumL_len hZ (L := L) fun y hy => h y (List.mem_cons_of_mem _ hy)
    have b := hZ x (h x (List.mem_cons_self ..))
    show ((L.length + 1 : Nat) : Int) ≤ Z x + sumL Z L
    omega
theorem KeptR.len {Z : Nat → Int} {n : Nat} {most : Int} {L : List Nat} {s : Gd} (h : KeptR Z n most L s) (hZ : ∀ j, j < n → 1 ≤ Z j) (hm : most ≤ 65536) : L.length ≤ 65536 := by
  have a := sumL_len hZ h.be.lt
  have b := h.tk
  have c := h.inv.le
  omega
theorem KeptR.pos {Z : Nat → Int} {n : Nat} {most : Int} {L : List Nat} {s : Gd} (h : KeptR Z n most L s) {b : Nat} (hb : leastG s n = some b) : 0 < L.length := by
  obtain ⟨b1, b2⟩ := leastG_some hb
  exact List.length_pos_of_mem ((h.be.mem b b1).1 b2)
theorem KeptR.zero (Z : Nat → Int) (n : Nat) {most : Int} (hm : 1 ≤ most) : KeptR Z n most [] gd0 :=
  ⟨⟨List.nodup_nil, (fun x hx => by cases hx), fun j hj => ⟨(fun h => by cases h), (fun h => by cases h)⟩⟩, rfl, InvG.zero Z n hm⟩
/-- The list's cells: none of serve's own three blocks, nor the row of those that went. -/
def InAt (w0 : Nat) (W : World) (ia : Option Addr) (L : List Nat) (ov : Value) : Prop := L.length = 0 ∨ ∃ b off, ia = some ⟨b, off, none⟩ ∧ L.length ≤ 9223372036854775807 ∧ RowK .i64 W b off L.length (nthI L) ∧ (b < w0 ∨ w0 + 3 ≤ b) ∧ ov.ownBlock ≠ some b
theorem InAt.isL {w0 : Nat} {W : World} {ia : Option Addr} {L : List Nat} {ov : Value} (h : InAt w0 W ia L ov) : IsL W ia L := by
  rcases h with h | ⟨b, off, h1, h2, h3, _⟩
  · exact Or.inl h
  · exact Or.inr ⟨b, off, h1, h2, h3⟩
theorem InAt.below {w0 : Nat} {W W' : World} {ia : Option Addr} {L : List Nat} {ov : Value} (h : InAt w0 W ia L ov) (hb : Below W.heap.size W W') : InAt w0 W' ia L ov := by
  rcases h with h | ⟨b, off, h1, h2, h3, h4⟩
  · exact Or.inl h
  · exact Or.inr ⟨b, off, h1, h2, h3.below hb, h4⟩
theorem inAt_start {w W : World} {ia : Option Addr} {L : List Nat} (h : IsL w ia L) (hb : Below w.heap.size w W) : InAt w.heap.size W ia L (.slice none 0 0) := by
  rcases h with h | ⟨b, off, h1, h2, h3⟩
  · exact Or.inl h
  · rcases Nat.eq_zero_or_pos L.length with h0 | h0
    · exact Or.inl h0
    · have hl : b < w.heap.size := block_lt_of_cell (h3 0 h0)
      exact Or.inr ⟨b, off, h1, h2, h3.below hb, Or.inl hl, by simp [Value.ownBlock]⟩
theorem InAt.set {w0 : Nat} {W : World} {ia : Option Addr} {L : List Nat} {ov : Value} (h : InAt w0 W ia L ov) {k : Nat} (hk : w0 ≤ k ∧ k < w0 + 3) (j : Nat) (x : Value) : InAt w0 (W.setCell ⟨k, j, none⟩ x) ia L ov := by
  rcases h with h | ⟨b, off, h1, h2, h3, h4, h5⟩
  · exact Or.inl h
  · refine Or.inr ⟨b, off, h1, h2, fun i hi => ?_, h4, h5⟩
    rw [World.cell?_setCell_other _ _ _ _ (fun e => by have hh := congrArg Addr.block e; dsimp only at hh; omega)]
    exact h3 i hi
theorem InAt.grown {w0 base n : Nat} {W W' : World} {ia : Option Addr} {L : List Nat} {ov ov' : Value} {xs : List Value} (h : InAt w0 W ia L ov) (hg : GrewR 3 1 base W W' ov ov' n xs) : InAt w0 W' ia L ov' := by
  rcases h with h | ⟨b, off, h1, h2, h3, h4, h5⟩
  · exact Or.inl h
  · rcases Nat.eq_zero_or_pos L.length with h0 | h0
    · exact Or.inl h0
    · have hl : b < W.heap.size := block_lt_of_cell (h3 0 h0)
      refine Or.inr ⟨b, off, h1, h2, fun i hi => ?_, h4, ?_⟩
      · rw [World.cell?_of_block (hg.grown.block b hl (fun e => h5 e.symm))]; exact h3 i hi
      · rcases hg.new with e | ⟨k, e, hk⟩
        · rw [e]; exact h5
        · rw [e]; intro hh; cases hh; omega
theorem inAt_own {w0 B : Nat} {W : World} {a : Option Addr} {k c : Nat} {L : List Nat} {ov : Value} (h : OwnL B W (.slice a k c) L) (hB : w0 + 3 ≤ B) (ho : ∀ j, ov.ownBlock = some j → j < B) : L.length = k ∧ InAt w0 W a L ov := by
  obtain ⟨h1, h2⟩ := h.isL
  refine ⟨h1, ?_⟩
  rcases Nat.eq_zero_or_pos L.length with h0 | h0
  · exact Or.inl h0
  · obtain ⟨b, off, e, h3, h4⟩ := h2.resolve_left (by omega)
    subst e
    have hb : B ≤ b := own_ge h b (by simp [Value.ownBlock])
    exact Or.inr ⟨b, off, rfl, h3, h4, Or.inr (by omega), fun hh => by have := ho b hh; omega⟩
theorem outsAt_ownL {B B' : Nat} {w : World} {v : Value} {l : List Nat} (h : OwnL B w v l) (hB : B' ≤ B) : OutsAt B' w v l := by
  obtain ⟨a, c, rfl, _, h2⟩ := isK_own h
  refine ⟨a, c, rfl, h2, fun b off e => ?_⟩
  subst e
  have := own_ge h b (by simp [Value.ownBlock])
  omega
/-- serve's blocks: the cache, the two answers. -/
structure SvW (w W : World) (cv av sv : Array Value) : Prop where
  c : W.heap[w.heap.size]? = some (.cells cv 56 (0, 0))
  d : W.heap[w.heap.size + 1]? = some (.cells av 56 (0, 0))
  e : W.heap[w.heap.size + 1 + 1]? = some (.cells sv 40 (0, 0))
  on : Below w.heap.size w W
theorem SvW.below {w W W' : World} {cv av sv : Array Value} (h : SvW w W cv av sv) (hb : Below W.heap.size W W') : SvW w W' cv av sv :=
  ⟨(hb.block _ (Array.getElem?_eq_some_iff.1 h.c).1).trans h.c, (hb.block _ (Array.getElem?_eq_some_iff.1 h.d).1).trans h.d, (hb.block _ (Array.getElem?_eq_some_iff.1 h.e).1).trans h.e, h.on.trans (hb.mono h.on.size)⟩
theorem SvW.sz {w W : World} {cv av sv : Array Value} (h : SvW w W cv av sv) : w.heap.size + 3 ≤ W.heap.size := by
  have := (Array.getElem?_eq_some_iff.1 h.e).1
  omega
theorem SvW.grown {w W W' : World} {cv av sv : Array Value} {row : Option Nat} (h : SvW w W cv av sv) (hg : W.grownBy W' row) (hr : ∀ k, row = some k → w.heap.size + 3 ≤ k) : SvW w W' cv av sv := by
  have hs := h.sz
  have ne : ∀ k, k < w.heap.size + 3 → some k ≠ row := fun k hk he => by have := hr k he.symm; omega
  exact ⟨(hg.block _ (by omega) (ne _ (by omega))).trans h.c, (hg.block _ (by omega) (ne _ (by omega))).trans h.d, (hg.block _ (by omega) (ne _ (by omega))).trans h.e, h.on.grown hg h.on.size (fun k hk => by have := hr k hk; omega)⟩
theorem SvW.setC {w W : World} {cv av sv : Array Value} (h : SvW w W cv av sv) (j : Nat) (x : Value) : SvW w (W.setCell ⟨w.heap.size, j, none⟩ x) (cv.setIfInBounds j x) av sv := by
  refine ⟨heap_setCell_same W w.heap.size j _ _ x h.c, ?_, ?_, h.on.setCell (Nat.le_refl _) _⟩
  · rw [heap_setCell_other _ ⟨w.heap.size, j, none⟩ _ _ (by show w.heap.size + 1 ≠ w.heap.size; omega)]; exact h.d
  · rw [heap_setCell_other _ ⟨w.heap.size, j, none⟩ _ _ (by show w.heap.size + 1 + 1 ≠ w.heap.size; omega)]; exact h.e
theorem SvW.setD {w W : World} {cv av sv : Array Value} (h : SvW w W cv av sv) (j : Nat) (x : Value) : SvW w (W.setCell ⟨w.heap.size + 1, j, none⟩ x) cv (av.setIfInBounds j x) sv := by
  refine ⟨?_, heap_setCell_same W (w.heap.size + 1) j _ _ x h.d, ?_, h.on.setCell (by show w.heap.size ≤ w.heap.size + 1; omega) _⟩
  · rw [heap_setCell_other _ ⟨w.heap.size + 1, j, none⟩ _ _ (by show w.heap.size ≠ w.heap.size + 1; omega)]; exact h.c
  · rw [heap_setCell_other _ ⟨w.heap.size + 1, j, none⟩ _ _ (by show w.heap.size + 1 + 1 ≠ w.heap.size + 1; omega)]; exact h.e
theorem SvW.setE {w W : World} {cv av sv : Array Value} (h : SvW w W cv av sv) (j : Nat) (x : Value) : SvW w (W.setCell ⟨w.heap.size + 1 + 1, j, none⟩ x) cv av (sv.setIfInBounds j x) := by
  refine ⟨?_, ?_, heap_setCell_same W (w.heap.size + 1 + 1) j _ _ x h.e, h.on.setCell (by show w.heap.size ≤ w.heap.size + 1 + 1; omega) _⟩
  · rw [heap_setCell_other _ ⟨w.heap.size + 1 + 1, j, none⟩ _ _ (by show w.heap.size ≠ w.heap.size + 1 + 1; omega)]; exact h.c
  · rw [heap_setCell_other _ ⟨w.heap.size + 1 + 1, j, none⟩ _ _ (by show w.heap.size + 1 ≠ w.heap.size + 1 + 1; omega)]; exact h.d
theorem OwnL.below {base : Nat} {w w' : World} {v : Value} {L : List Nat} (h : OwnL base w v L) (hb : Below w.heap.size w w') : OwnL base w' v L := own_below h hb
theorem svW_new (w : World) (cv av sv : Array Value) : SvW w (((w.alloc (.cells cv 56)).alloc (.cells av 56)).alloc (.cells sv 40)) cv av sv := by
  have e1 : (w.alloc (.cells cv 56)).heap.size = w.heap.size + 1 := by simp
  have e2 : ((w.alloc (.cells cv 56)).alloc (.cells av 56)).heap.size = w.heap.size + 1 + 1 := by simp
  refine ⟨?_, ?_, ?_, (((Below.refl _ _).alloc (Nat.le_refl _) _).alloc (by rw [e1]; omega) _).alloc (by rw [e2]; omega) _⟩
  · rw [heap_alloc_old _ _ (by rw [e2]; omega), heap_alloc_old _ _ (by rw [e1]; omega)]; exact heap_alloc_new w _
  · rw [heap_alloc_old _ _ (by rw [e2]; omega)]
    have h := heap_alloc_new (w.alloc (.cells cv 56)) (.cells av 56)
    rwa [e1] at h
  · have h := heap_alloc_new ((w.alloc (.cells cv 56)).alloc (.cells av 56)) (.cells sv 40)
    rwa [e2] at h
theorem SvW.cC {w W : World} {a b c : Value} {av sv : Array Value} (h : SvW w W #[a, b, c] av sv) : W.cell? ⟨w.heap.size, 0, none⟩ = some a ∧ W.cell? ⟨w.heap.size, 1, none⟩ = some b ∧ W.cell? ⟨w.heap.size, 2, none⟩ = some c :=
  ⟨cell_of_row _ _ 0 _ _ _ h.c, cell_of_row _ _ 1 _ _ _ h.c, cell_of_row _ _ 2 _ _ _ h.c⟩
theorem SvW.fC {w W : World} {cv av sv : Array Value} (h : SvW w W cv av sv) (j : Nat) : W.frozen? ⟨w.heap.size, j, none⟩ = false := frozen_of_row _ _ _ _ _ h.c
theorem SvW.fD {w W : World} {cv av sv : Array Value} (h : SvW w W cv av sv) (j : Nat) : W.frozen? ⟨w.heap.size + 1, j, none⟩ = false := frozen_of_row _ _ _ _ _ h.d
theorem SvW.fE {w W : World} {cv av sv : Array Value} (h : SvW w W cv av sv) (j : Nat) : W.frozen? ⟨w.heap.size + 1 + 1, j, none⟩ = false := frozen_of_row _ _ _ _ _ h.e
theorem SvW.cD {w W : World} {a b c : Value} {cv sv : Array Value} (h : SvW w W cv #[a, b, c] sv) : W.cell? ⟨w.heap.size + 1, 0, none⟩ = some a ∧ W.cell? ⟨w.heap.size + 1, 1, none⟩ = some b ∧ W.cell? ⟨w.heap.size + 1, 2, none⟩ = some c :=
  ⟨cell_of_row _ _ 0 _ _ _ h.d, cell_of_row _ _ 1 _ _ _ h.d, cell_of_row _ _ 2 _ _ _ h.d⟩
theorem SvW.cE {w W : World} {a b : Value} {cv av : Array Value} (h : SvW w W cv av #[a, b]) : W.cell? ⟨w.heap.size + 1 + 1, 0, none⟩ = some a ∧ W.cell? ⟨w.heap.size + 1 + 1, 1, none⟩ = some b :=
  ⟨cell_of_row _ _ 0 _ _ _ h.e, cell_of_row _ _ 1 _ _ _ h.e⟩
theorem SvW.ans {w W : World} {cv : Array Value} {a b c d e : Value} (h : SvW w W cv #[a, b, c] #[d, e]) (x y z u v : Value) :
    SvW w (((((W.setCell ⟨w.heap.size + 1, 0, none⟩ x).setCell ⟨w.heap.size + 1, 1, none⟩ y).setCell ⟨w.heap.size + 1, 2, none⟩ z).setCell ⟨w.heap.size + 1 + 1, 0, none⟩ u).setCell ⟨w.heap.size + 1 + 1, 1, none⟩ v) cv #[x, y, z] #[u, v] :=
  ((((h.setD 0 x).setD 1 y).setD 2 z).setE 0 u).setE 1 v
/-- The answers' cells are none of a row that is older, or newer. -/
theorem IsK.ansSet {k : IntKind} {w0 n : Nat} {W : World} {a : Option Addr} {Z : Nat → Int} (h : IsK k W a n Z) (hf : ∀ b off, a = some ⟨b, off, none⟩ → 0 < n → b < w0 ∨ w0 + 3 ≤ b) (x y z u v : Value) :
    IsK k (((((W.setCell ⟨w0 + 1, 0, none⟩ x).setCell ⟨w0 + 1, 1, none⟩ y).setCell ⟨w0 + 1, 2, none⟩ z).setCell ⟨w0 + 1 + 1, 0, none⟩ u).setCell ⟨w0 + 1 + 1, 1, none⟩ v) a n Z := by
  rcases h with h | ⟨b, off, h1, h2, h3⟩
  · exact Or.inl h
  · refine Or.inr ⟨b, off, h1, h2, fun i hi => ?_⟩
    have hb := hf b off h1 (by omega)
    rw [World.cell?_setCell_other _ _ _ _ (fun e => by have hh := congrArg Addr.block e; dsimp only at hh; omega), World.cell?_setCell_other _ _ _ _ (fun e => by have hh := congrArg Addr.block e; dsimp only at hh; omega), World.cell?_setCell_other _ _ _ _ (fun e => by have hh := congrArg Addr.block e; dsimp only at hh; omega), World.cell?_setCell_other _ _ _ _ (fun e => by have hh := congrArg Addr.block e; dsimp only at hh; omega), World.cell?_setCell_other _ _ _ _ (fun e => by have hh := congrArg Addr.block e; dsimp only at hh; omega)]
    exact h3 i hi
end Go.Proofs.Ytlhjacgocggbcaa
