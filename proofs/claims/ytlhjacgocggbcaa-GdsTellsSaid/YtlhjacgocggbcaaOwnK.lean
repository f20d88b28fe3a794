/- Rows of the call's own that grow by one int at a time. -/
import Derived.Test.YtlhjacgocggbcaaKRow
import Derived.OwnWalk
import Derived.Maps.AppendAt
set_option linter.unusedVariables false
namespace Go.Proofs.Ytlhjacgocggbcaa
open Go.RowKit Go.Shelf

/-- Ints as cells. -/
def listK (k : IntKind) (Z : Nat → Int) (n : Nat) : List Value := (List.range n).map fun i => .int k (Z i)
theorem listK_length (k : IntKind) (Z : Nat → Int) (n : Nat) : (listK k Z n).length = n := by simp [listK]
theorem listK_get {k : IntKind} {Z : Nat → Int} {n i : Nat} (h : i < n) : (listK k Z n)[i]? = some (.int k (Z i)) := by simp [listK, h]
theorem listK_snoc (k : IntKind) (Z : Nat → Int) (n : Nat) : listK k Z n ++ [.int k (Z n)] = listK k Z (n + 1) := by
  unfold listK; rw [List.range_succ, List.map_append]; rfl
theorem listK_congr {k : IntKind} {Z Y : Nat → Int} {n : Nat} (h : ∀ i, i < n → Z i = Y i) : listK k Z n = listK k Y n := by
  unfold listK
  exact List.map_congr_left fun i hi => by rw [h i (List.mem_range.1 hi)]
/-- Two values' rows are not one. -/
def apartV (u v : Value) : Prop := ∀ k, u.ownBlock = some k → v.ownBlock = some k → False
theorem apartV.symm {u v : Value} (h : apartV u v) : apartV v u := fun k a b => h k b a
theorem apartV_nil (v : Value) : apartV (.slice none 0 0) v := fun k h => by simp [Value.ownBlock] at h
/-- What append of one makes of a row of the call's own. -/
structure GrewR (e : TypeId) (size base : Nat) (W w' : World) (v v' : Value) (n : Nat) (xs : List Value) : Prop where
  own : w'.ownsRow base e size v' n xs
  grown : W.grownBy w' v.ownBlock
  new : v'.ownBlock = v.ownBlock ∨ ∃ k, v'.ownBlock = some k ∧ W.heap.size ≤ k
theorem GrewR.keep {e : TypeId} {size base : Nat} {W w' : World} {v v' : Value} {n : Nat} {xs : List Value} (h : GrewR e size base W w' v v' n xs)
    {base2 : Nat} {e2 : TypeId} {sz : Nat} {u : Value} {m : Nat} {X : List Value} (hu : W.ownsRow base2 e2 sz u m X) (ha : apartV u v) : w'.ownsRow base2 e2 sz u m X ∧ apartV u v' := by
  refine ⟨hu.kept h.grown ?_, ?_⟩
  · cases hb : u.ownBlock with
    | none => exact Or.inl rfl
    | some k => exact Or.inr fun hh => ha k hb hh.symm
  · intro k hk hk'
    have hl := (hu.lt k hk).2
    rcases h.new with hn | ⟨j, hj, hj2⟩
    · exact ha k hk (hn ▸ hk')
    · rw [hj] at hk'; cases hk'; omega
theorem GrewR.below {e : TypeId} {size base : Nat} {W w' : World} {v v' : Value} {n m : Nat} {xs ys : List Value} (h : GrewR e size base W w' v v' n xs) (hv : W.ownsRow base e size v m ys) (hb : base ≤ W.heap.size) : Below base W w' :=
  ⟨h.grown.os, h.grown.tape, h.grown.output, h.grown.size, fun k hk => h.grown.block k (by omega) (fun hh => by have := (hv.lt k hh.symm).1; omega)⟩
theorem grew_one {P : Program} {W : World} (base : Nat) (t ty e : TypeId) (i : TypeInfo) (u0 : Value) (size bytes : Nat) (ht : P.underlying t = some (.slice e)) (hi : P.info? e = some i) (hz : i.zero = some u0)
    (hsize : i.size = size) (hby : i.bytes = bytes) (hzs : u0.cells.size = size) (hsz : 0 < size) (v : Value) (n : Nat) (xs : List Value) (hown : W.ownsRow base e size v n xs) (news : List Value) (hl : news.length = size) (h1 : ∀ u ∈ news, u.oneCell' = true)
    (hn : n + 1 ≤ 1000000) (hb : bytes ≤ 1000) (hbase : base ≤ W.heap.size) :
    ∃ v' w', (Builtin.append_ #[t, t] ty #[v, .slice (some ⟨W.heap.size, 0, none⟩) 1 1]).run P (W.alloc (.cells news.toArray e)) = .ok v' w' ∧ GrewR e size base W w' v v' (n + 1) (xs ++ news) := by
  have hb' : (n + 1) * bytes ≤ 140737488355328 := Nat.le_trans (Nat.mul_le_mul hn hb) (by decide)
  obtain ⟨v', w', h1, h2, h3, _, h5⟩ := run_append_own_at (P := P) (w := W.alloc (.cells news.toArray e)) base t ty e i u0 size bytes ht hi hz hsize hby hzs hsz v n xs (hown.alloc _) ⟨W.heap.size, 0, none⟩ 1 1 news (by omega)
    (by
      intro j u hj
      rw [Addr.add_lit, Nat.zero_add]
      exact (cell_of_row _ _ j _ _ _ (heap_alloc_new W _)).trans (by simpa using hj)) h1 (by unfold maxLen; omega) hb' (by simp; omega)
  refine ⟨v', w', h1, h2, ⟨h3.os, h3.tape, h3.output, Nat.le_trans (by simp) h3.size, fun k hk hne => (h3.block k (by simp; omega) hne).trans (heap_alloc_old W _ hk)⟩, ?_⟩
  rcases h5 with h5 | h5
  · exact Or.inl h5
  · exact Or.inr ⟨_, h5, by simp⟩
theorem wpList_append_one {P : Program} (W : World) {ops : Array Oper} {rest : List Oper} {o : Oper} {a : Act} {Q : Exit → Act → World → Prop} (hgd : o.guard = none) (s x : Operand) (t : TypeId)
    (ho : o.op = .call { callee := .builtin .append, args := #[s, x], argTypes := #[t, t] })
    (k : IntKind) (base : Nat) (e : TypeId) (i : TypeInfo) (bytes : Nat) (ht : P.underlying t = some (.slice e)) (hi : P.info? e = some i) (hz : i.zero = some (.int k 0)) (hsize : i.size = 1) (hby : i.bytes = bytes)
    (v : Value) (n : Nat) (Z : Nat → Int) (z : Int) (hs : a.eval s = v) (hx : a.eval x = .slice (some ⟨W.heap.size, 0, none⟩) 1 1) (hown : W.ownsRow base e 1 v n (listK k Z n)) (hZ : z = Z n)
    (hn : n + 1 ≤ 1000000) (hb : bytes ≤ 1000) (hbase : base ≤ W.heap.size)
    (h : ∀ v' w', GrewR e 1 base W w' v v' (n + 1) (listK k Z (n + 1)) → wpList P ops Q rest (a.put o.dst v') w') : wpList P ops Q (o :: rest) a (W.alloc (.cells #[.int k z] e)) := by
  refine wpList_plain hgd fun K hK => ?_
  obtain ⟨v', w', hr, h2⟩ := grew_one (P := P) (W := W) base t o.type e i (.int k 0) 1 bytes ht hi hz hsize hby rfl (by decide) v n _ hown [.int k z] rfl (by intro u hu; simp at hu; subst hu; rfl) hn hb hbase
  rw [hZ, listK_snoc] at h2
  unfold Oper.wp execOp
  simp only [ho, resolve, invoke, builtin, Sem.run_bind, Sem.run_pure, Result.andThen_ok, List.map_toArray, List.map_cons, List.map_nil, hs, hx, hr]
  exact hK _ _ (h v' w' h2)
theorem isK_own {k : IntKind} {w : World} {base : Nat} {e : TypeId} {v : Value} {n : Nat} {Z : Nat → Int} (h : w.ownsRow base e 1 v n (listK k Z n)) : ∃ a c, v = .slice a n c ∧ n ≤ c ∧ IsK k w a n Z := by
  rcases h.2 with ⟨rfl, rfl⟩ | ⟨g, cap, cur, rfl, _, _, hn, hc, _, _⟩
  · exact ⟨none, 0, rfl, Nat.le_refl _, Or.inl rfl⟩
  · refine ⟨some ⟨g, 0, none⟩, cap, rfl, hn, Or.inr ⟨g, 0, rfl, by unfold maxLen at hc; omega, fun i hi => ?_⟩⟩
    have e0 := h.cells (g := g) rfl i _ (listK_get hi)
    rwa [Addr.add_lit] at e0
theorem own_below {w w' : World} {base sz : Nat} {e : TypeId} {v : Value} {n : Nat} {xs : List Value} (h : w.ownsRow base e sz v n xs) (hb : Below w.heap.size w w') : w'.ownsRow base e sz v n xs :=
  h.kept (row := none) ⟨hb.os, hb.tape, hb.output, hb.size, fun k hk _ => hb.block k hk⟩ (by cases v.ownBlock <;> simp)
end Go.Proofs.Ytlhjacgocggbcaa
