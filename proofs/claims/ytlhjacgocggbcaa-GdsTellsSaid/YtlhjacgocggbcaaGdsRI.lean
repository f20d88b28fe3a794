/- append of a slice of u64 to a row of the call's own. -/
import Derived.Test.YtlhjacgocggbcaaOwnK
import Derived.OwnWalk
set_option linter.unusedVariables false
namespace Go.Proofs.Ytlhjacgocggbcaa
open Go.RowKit Go.Shelf
theorem run_append_u64s {P : Program} {w : World} (base : Nat) (t ty e : TypeId) (i : TypeInfo) (ht : P.underlying t = some (.slice e)) (hi : P.info? e = some i) (hz : i.zero = some (.int .u64 0))
    (hsize : i.size = 1) (hby : i.bytes = 8) (v : Value) (n : Nat) (xs : List Value) (hown : w.ownsRow base e 1 v n xs)
    (g : Option Addr) (m c : Nat) (Z : Nat → Int) (hg : IsK .u64 w g m Z) (h63 : n + m ≤ maxLen) (hbytes : (n + m) * 8 ≤ 140737488355328) (hbase : base ≤ w.heap.size) :
    ∃ v' w', (Builtin.append_ #[t, t] ty #[v, .slice g m c]).run P w = .ok v' w' ∧ w'.ownsRow base e 1 v' (n + m) (xs ++ listK .u64 Z m) ∧ w.grownBy w' v.ownBlock := by
  rcases hg with rfl | ⟨b, off, rfl, hl, hr⟩
  · cases g with
    | none =>
      refine ⟨v, w, ?_, by simpa [listK] using hown, ⟨rfl, rfl, rfl, Nat.le_refl _, fun _ _ _ => rfl⟩⟩
      rcases hown.2 with ⟨rfl, rfl⟩ | ⟨g, cap, cur, rfl, _, _, hnc, _⟩
      · simp [Builtin.append_, run_underlying ht, sizeOf, typeInfo, hi, Builtin.lenOf, Builtin.firstCells]
      · simp [Builtin.append_, run_underlying ht, sizeOf, typeInfo, hi, Builtin.lenOf, Builtin.firstCells, hnc, storeCells]
    | some ad =>
      obtain ⟨v', w', h1, h2, h3, _⟩ := run_append_own (P := P) w base t ty e i (.int .u64 0) 1 8 ht hi hz hsize hby rfl (by decide) v n xs hown ad 0 c [] rfl (by intro j u h; simp at h) (by intro u h; simp at h) h63 hbytes hbase
      exact ⟨v', w', h1, by simpa [listK] using h2, h3⟩
  · obtain ⟨v', w', h1, h2, h3, _⟩ := run_append_own (P := P) w base t ty e i (.int .u64 0) 1 8 ht hi hz hsize hby rfl (by decide) v n xs hown ⟨b, off, none⟩ m c (listK .u64 Z m) (by rw [listK_length]; omega)
      (by intro j u h; exact (fun hj => by rw [listK_get hj] at h; cases h; rw [Addr.add_lit]; exact hr j hj) (by have := (List.getElem?_eq_some_iff.1 h).1; rwa [listK_length] at this)) (by intro u h; obtain ⟨k, _, rfl⟩ := List.mem_map.1 h; rfl) h63 hbytes hbase
    exact ⟨v', w', h1, h2, h3⟩
theorem wpList_append_u64s {P : Program} (w : World) {ops : Array Oper} {rest : List Oper} {o : Oper} {a : Act} {Q : Exit → Act → World → Prop} (hgd : o.guard = none) (s x : Operand) (t : TypeId)
    (ho : o.op = .call { callee := .builtin .append, args := #[s, x], argTypes := #[t, t] })
    (base : Nat) (e : TypeId) (i : TypeInfo) (ht : P.underlying t = some (.slice e)) (hi : P.info? e = some i) (hz : i.zero = some (.int .u64 0))
    (hsize : i.size = 1) (hby : i.bytes = 8) (v : Value) (n : Nat) (xs : List Value) (hs : a.eval s = v) (hown : w.ownsRow base e 1 v n xs)
    (g : Option Addr) (m c : Nat) (Z : Nat → Int) (hx : a.eval x = .slice g m c) (hg : IsK .u64 w g m Z) (h63 : n + m ≤ maxLen) (hbytes : (n + m) * 8 ≤ 140737488355328) (hbase : base ≤ w.heap.size)
    (h : ∀ v' w', w'.ownsRow base e 1 v' (n + m) (xs ++ listK .u64 Z m) → w.grownBy w' v.ownBlock → wpList P ops Q rest (a.put o.dst v') w') : wpList P ops Q (o :: rest) a w := by
  refine wpList_plain hgd fun K hK => ?_
  obtain ⟨v', w', hr, h2, h3⟩ := run_append_u64s (P := P) (w := w) base t o.type e i ht hi hz hsize hby v n xs hown g m c Z hg h63 hbytes hbase
  unfold Oper.wp execOp
  simp only [ho, resolve, invoke, builtin, Sem.run_bind, Sem.run_pure, Result.andThen_ok, List.map_toArray, List.map_cons, List.map_nil, hs, hx, hr]
  exact hK _ _ (h v' w' h2 h3)
end Go.Proofs.Ytlhjacgocggbcaa
