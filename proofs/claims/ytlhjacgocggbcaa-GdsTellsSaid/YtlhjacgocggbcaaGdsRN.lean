/- serve in one law; the walk of the reference's Run. -/
import Derived.Test.YtlhjacgocggbcaaGdsRM
set_option linter.unusedVariables false
set_option maxRecDepth 100000
set_option maxHeartbeats 4000000
namespace Go.Proofs.Ytlhjacgocggbcaa
open Go.RowKit Go.Shelf
attribute [local go_sem ↓] lt_alloc

theorem ref18_serve {ia ra sa ca : Option Addr} {m n ic rc cs cc i : Nat} {most : Int} {L : List Nat} {s : Gd} {Z C : Nat → Int} (hL : L.length = m) (hi : i < n) (hn : n ≤ 64) (hZ : InK .i64 Z) (hC : InK .i64 C) (hz : ∀ j, j < n → 1 ≤ Z j ∧ Z j ≤ 4096) (hm : most ≤ 65536) (hK : KeptR Z n most L s)
    (w : World) (iL : IsL w ia L) (iR : IsK .u64 w ra n s.rk) (iZ : IsK .i64 w sa n Z) (iC : IsK .i64 w ca n C) :
    Calls Try.prog 23 #[.agg #[.slice ia m ic, .slice ra n rc, .int .u64 s.lv], .int .i64 most, .slice sa n cs, .slice ca n cc, .int .i64 i] w (ServeEnd w ia L ra Z C n most (serveG Z C n most s i)) := by
  have hl := hK.len (fun j hj => (hz j hj).1) hm
  unfold serveG
  by_cases hin : s.inn i = true
  · rw [if_pos hin]
    exact ref18_serve_hit hL (by omega) hi (by omega) hZ hC hK hin w iL iR iZ iC
  · have hin' : s.inn i = false := by simpa using hin
    rw [if_neg hin]
    by_cases hb : most < Z i
    · rw [if_pos hb]
      exact ref18_serve_big hL hi hK hin' hb w iL iR iZ
    · rw [if_neg hb]
      exact ref18_serve_room hL hi hn hZ hC hz hm hK hin' hb w iL iR iZ iC
/-- A row that is neither the block g nor the row v. -/
def FarK (k : IntKind) (g : Nat) (v : Value) (W : World) (a : Option Addr) (n : Nat) (Z : Nat → Int) : Prop :=
  n = 0 ∨ ∃ b off, a = some ⟨b, off, none⟩ ∧ n ≤ 9223372036854775807 ∧ RowK k W b off n Z ∧ b ≠ g ∧ v.ownBlock ≠ some b
theorem FarK.isK {k : IntKind} {g n : Nat} {v : Value} {W : World} {a : Option Addr} {Z : Nat → Int} (h : FarK k g v W a n Z) : IsK k W a n Z := by
  rcases h with h | ⟨b, off, h1, h2, h3, _⟩
  · exact Or.inl h
  · exact Or.inr ⟨b, off, h1, h2, h3⟩
theorem FarK.below {k : IntKind} {g n : Nat} {v : Value} {W W' : World} {a : Option Addr} {Z : Nat → Int} (h : FarK k g v W a n Z) (hb : Below W.heap.size W W') : FarK k g v W' a n Z := by
  rcases h with h | ⟨b, off, h1, h2, h3, h4⟩
  · exact Or.inl h
  · exact Or.inr ⟨b, off, h1, h2, h3.below hb, h4⟩
theorem FarK.set {k : IntKind} {g n : Nat} {v : Value} {W : World} {a : Option Addr} {Z : Nat → Int} (h : FarK k g v W a n Z) (j : Nat) (x : Value) : FarK k g v (W.setCell ⟨g, j, none⟩ x) a n Z := by
  rcases h with h | ⟨b, off, h1, h2, h3, h4, h5⟩
  · exact Or.inl h
  · refine Or.inr ⟨b, off, h1, h2, fun i hi => ?_, h4, h5⟩
    rw [World.cell?_setCell_other _ _ _ _ (fun e => by have hh := congrArg Addr.block e; dsimp only at hh; omega)]
    exact h3 i hi
theorem FarK.grown {k : IntKind} {g n base m : Nat} {e : TypeId} {size : Nat} {v v' : Value} {W W' : World} {a : Option Addr} {Z : Nat → Int} {xs : List Value} (h : FarK k g v W a n Z) (hg : GrewR e size base W W' v v' m xs) : FarK k g v' W' a n Z := by
  rcases h with h | ⟨b, off, h1, h2, h3, h4, h5⟩
  · exact Or.inl h
  · rcases Nat.eq_zero_or_pos n with h0 | h0
    · exact Or.inl h0
    · have hl : b < W.heap.size := block_lt_of_cell (h3 0 h0)
      refine Or.inr ⟨b, off, h1, h2, fun i hi => ?_, h4, ?_⟩
      · rw [World.cell?_of_block (hg.grown.block b hl (fun e => h5 e.symm))]; exact h3 i hi
      · rcases hg.new with e | ⟨k, e, hk⟩
        · rw [e]; exact h5
        · rw [e]; intro hh; cases hh; omega
/-- What serve hands back lies apart: it is the row that was there, or new. -/
theorem farK_of {k : IntKind} {g n h0 hc : Nat} {v : Value} {W' : World} {a : Option Addr} {Z : Nat → Int} (h : IsK k W' a n Z) (hn : ∀ b o, a = some ⟨b, o, none⟩ → 0 < n → (b < h0 ∧ b ≠ g ∧ v.ownBlock ≠ some b) ∨ hc ≤ b) (hg : g < hc) (hv : ∀ j, v.ownBlock = some j → j < hc) : FarK k g v W' a n Z := by
  rcases h with h | ⟨b, off, h1, h2, h3⟩
  · exact Or.inl h
  · rcases Nat.eq_zero_or_pos n with h0' | h0'
    · exact Or.inl h0'
    · refine Or.inr ⟨b, off, h1, h2, h3, ?_⟩
      rcases hn b off h1 h0' with ⟨_, e2, e3⟩ | e
      · exact ⟨e2, e3⟩
      · exact ⟨by omega, fun hh => by have := hv b hh; omega⟩
theorem FarK.old {k : IntKind} {g n : Nat} {v : Value} {W : World} {a : Option Addr} {Z : Nat → Int} (h : FarK k g v W a n Z) : ∀ b o, a = some ⟨b, o, none⟩ → 0 < n → b < W.heap.size ∧ b ≠ g ∧ v.ownBlock ≠ some b := by
  intro b o e hn
  rcases h with h | ⟨b', o', e1, _, h3, e2, e3⟩
  · omega
  · rw [e1] at e
    cases e
    exact ⟨block_lt_of_cell (h3 0 hn), e2, e3⟩
/-- All but two blocks are as they were. -/
structure Keeps (A B : Nat) (W W' : World) : Prop where
  size : W.heap.size ≤ W'.heap.size
  block : ∀ k, k < W.heap.size → k ≠ A → k ≠ B → W'.heap[k]? = W.heap[k]?
theorem Keeps.refl (A B : Nat) (W : World) : Keeps A B W W := ⟨Nat.le_refl _, fun _ _ _ _ => rfl⟩
theorem Keeps.alloc {A B : Nat} {W W' : World} (h : Keeps A B W W') (o : Obj) : Keeps A B W (W'.alloc o) :=
  ⟨by have := h.size; simp; omega, fun k hk ha hb => (heap_alloc_old W' o (by have := h.size; omega)).trans (h.block k hk ha hb)⟩
theorem Keeps.drew {A B : Nat} {W W' : World} (h : Keeps A B W W') : Keeps A B W W'.drew := ⟨h.size, h.block⟩
theorem Keeps.setA {A B : Nat} {W W' : World} (h : Keeps A B W W') (j : Nat) (x : Value) : Keeps A B W (W'.setCell ⟨A, j, none⟩ x) :=
  ⟨by rw [World.size_setCell]; exact h.size, fun k hk ha hb => (heap_setCell_other _ ⟨A, j, none⟩ k _ ha).trans (h.block k hk ha hb)⟩
theorem Keeps.setB {A B : Nat} {W W' : World} (h : Keeps A B W W') (j : Nat) (x : Value) : Keeps A B W (W'.setCell ⟨B, j, none⟩ x) :=
  ⟨by rw [World.size_setCell]; exact h.size, fun k hk ha hb => (heap_setCell_other _ ⟨B, j, none⟩ k _ hb).trans (h.block k hk ha hb)⟩
theorem FarK.two {k : IntKind} {g n A B h0 hc : Nat} {v : Value} {W W' : World} {a : Option Addr} {Z : Nat → Int} (h : FarK k g v W a n Z) (hk : Keeps A B W W') (hn : ∀ b o, a = some ⟨b, o, none⟩ → 0 < n → (b < h0 ∧ b ≠ g ∧ v.ownBlock ≠ some b) ∨ hc ≤ b)
    (hA : h0 ≤ A ∧ (A < hc ∨ W.heap.size ≤ A)) (hB : h0 ≤ B ∧ (B < hc ∨ W.heap.size ≤ B)) : FarK k g v W' a n Z := by
  rcases h with h | ⟨b, off, h1, h2, h3, h4⟩
  · exact Or.inl h
  · rcases Nat.eq_zero_or_pos n with h0' | h0'
    · exact Or.inl h0'
    · have hl : b < W.heap.size := block_lt_of_cell (h3 0 h0')
      have hh := hn b off h1 h0'
      refine Or.inr ⟨b, off, h1, h2, fun i hi => ?_, h4⟩
      rw [World.cell?_of_block (hk.block b hl (by omega) (by omega))]
      exact h3 i hi
/-- The row of Serves that the reference's Run makes: i are told. -/
def TolAt (W : World) (g : Nat) (v : Value) (i : Nat) (H : Nat → Bool) (O : Nat → List Nat) : Prop :=
  ∃ xs, W.ownsRow (g + 1) 40 2 v i xs ∧ ∀ j, j < i → xs[j * 2]? = some (.bool (H j)) ∧ ∃ a cap, xs[j * 2 + 1]? = some (.slice a (O j).length cap) ∧ FarK .i64 g v W a (O j).length (fun k => ((O j).getD k 0 : Nat))
theorem TolAt.nil (W : World) (g : Nat) (H : Nat → Bool) (O : Nat → List Nat) : TolAt W g (.slice none 0 0) 0 H O := ⟨[], World.ownsRow_nil _ _ _ _, fun j hj => absurd hj (Nat.not_lt_zero j)⟩
theorem TolAt.below {W W' : World} {g i : Nat} {v : Value} {H : Nat → Bool} {O : Nat → List Nat} (h : TolAt W g v i H O) (hb : Below W.heap.size W W') : TolAt W' g v i H O := by
  obtain ⟨xs, h1, h2⟩ := h
  refine ⟨xs, own_below h1 hb, fun j hj => ?_⟩
  obtain ⟨a1, a, cap, a2, a3⟩ := h2 j hj
  exact ⟨a1, a, cap, a2, a3.below hb⟩
theorem TolAt.set {W : World} {g i : Nat} {v : Value} {H : Nat → Bool} {O : Nat → List Nat} (h : TolAt W g v i H O) (j : Nat) (x : Value) : TolAt (W.setCell ⟨g, j, none⟩ x) g v i H O := by
  obtain ⟨xs, h1, h2⟩ := h
  refine ⟨xs, ⟨h1.1, ?_⟩, fun j hj => ?_⟩
  · rcases h1.2 with h3 | ⟨b, cap, cur, e1, e2, e3, e4⟩
    · exact Or.inl h3
    · exact Or.inr ⟨b, cap, cur, e1, e2, (heap_setCell_other _ ⟨g, j, none⟩ b _ (by show b ≠ g; omega)).trans e3, e4⟩
  · obtain ⟨a1, a, cap, a2, a3⟩ := h2 j hj
    exact ⟨a1, a, cap, a2, a3.set _ _⟩
theorem TolAt.grown {W W' : World} {g i : Nat} {v v' : Value} {H : Nat → Bool} {O : Nat → List Nat} {xs : List Value} {a : Option Addr} {cap : Nat} (h : ∀ j, j < i → xs[j * 2]? = some (.bool (H j)) ∧ ∃ a cap, xs[j * 2 + 1]? = some (.slice a (O j).length cap) ∧ FarK .i64 g v W a (O j).length (fun k => ((O j).getD k 0 : Nat)))
    (hl : xs.length = i * 2) (hf : FarK .i64 g v W a (O i).length (fun k => ((O i).getD k 0 : Nat))) (hg : GrewR 40 2 (g + 1) W W' v v' (i + 1) (xs ++ [.bool (H i), .slice a (O i).length cap])) : TolAt W' g v' (i + 1) H O := by
  refine ⟨_, hg.own, fun j hj => ?_⟩
  rcases Nat.lt_or_ge j i with hlt | hge
  · obtain ⟨a1, a, cap, a2, a3⟩ := h j hlt
    rw [List.getElem?_append_left (by omega), List.getElem?_append_left (by omega)]
    exact ⟨a1, a, cap, a2, a3.grown hg⟩
  · obtain rfl : j = i := by omega
    rw [List.getElem?_append_right (by omega), List.getElem?_append_right (by omega), hl, Nat.sub_self, show j * 2 + 1 - j * 2 = 1 by omega]
    exact ⟨rfl, a, cap, rfl, hf.grown hg⟩
theorem TolAt.isS {W : World} {g m : Nat} {v : Value} {H : Nat → Bool} {O : Nat → List Nat} (h : TolAt W g v m H O) (hm : m ≤ 1000000) : ∃ a cap, v = .slice a m cap ∧ m ≤ cap ∧ IsS W a m H O := by
  obtain ⟨xs, h1, h2⟩ := h
  rcases h1.2 with ⟨rfl, rfl⟩ | ⟨b, cap, cur, rfl, e2, e3, e4, _⟩
  · exact ⟨none, 0, rfl, Nat.le_refl _, Or.inl rfl⟩
  · refine ⟨_, cap, rfl, e4, Or.inr ⟨b, 0, rfl, by omega, fun j hj => ?_⟩⟩
    obtain ⟨a1, a, c, a2, a3⟩ := h2 j hj
    have c1 := h1.cells (g := b) rfl _ _ a1
    have c2 := h1.cells (g := b) rfl _ _ a2
    rw [Addr.add_lit] at c1 c2
    exact ⟨c1, _, c2, a, c, rfl, a3.isK, fun _ _ _ => Nat.zero_le _⟩
theorem wpList_append_serve {P : Program} (W : World) {ops : Array Oper} {rest : List Oper} {o : Oper} {a : Act} {Q : Exit → Act → World → Prop} (hgd : o.guard = none) (s x : Operand) (t : TypeId)
    (ho : o.op = .call { callee := .builtin .append, args := #[s, x], argTypes := #[t, t] })
    (base : Nat) (e : TypeId) (i : TypeInfo) (u0 : Value) (bytes : Nat) (ht : P.underlying t = some (.slice e)) (hi : P.info? e = some i) (hz : i.zero = some u0) (hsize : i.size = 2) (hby : i.bytes = bytes) (hzs : u0.cells.size = 2)
    (v : Value) (n : Nat) (xs : List Value) (h : Bool) (b : Option Addr) (l c : Nat) (hs : a.eval s = v) (H : Nat) (hH : W.heap.size = H) (hx : a.eval x = .slice (some ⟨H, 0, none⟩) 1 1) (hown : W.ownsRow base e 2 v n xs)
    (hn : n + 1 ≤ 1000000) (hb : bytes ≤ 1000) (hbase : base ≤ W.heap.size)
    (hh : ∀ v' w', GrewR e 2 base W w' v v' (n + 1) (xs ++ [.bool h, .slice b l c]) → wpList P ops Q rest (a.put o.dst v') w') : wpList P ops Q (o :: rest) a (W.alloc (.cells #[.bool h, .slice b l c] e)) := by
  subst hH
  refine wpList_plain hgd fun K hK => ?_
  obtain ⟨v', w', hr, h2⟩ := grew_one (P := P) (W := W) base t o.type e i u0 2 bytes ht hi hz hsize hby hzs (by decide) v n _ hown [.bool h, .slice b l c] rfl (by intro u hu; simp at hu; rcases hu with rfl | rfl <;> rfl) hn hb hbase
  have hr' : (Builtin.append_ #[t, t] o.type #[v, .slice (some ⟨W.heap.size, 0, none⟩) 1 1]).run P (W.alloc (.cells #[.bool h, .slice b l c] e)) = .ok v' w' := hr
  unfold Oper.wp execOp
  simp only [ho, resolve, invoke, builtin, Sem.run_bind, Sem.run_pure, Result.andThen_ok, List.map_toArray, List.map_cons, List.map_nil, hs, hx, hr']
  exact hK _ _ (hh v' w' h2)
end Go.Proofs.Ytlhjacgocggbcaa
