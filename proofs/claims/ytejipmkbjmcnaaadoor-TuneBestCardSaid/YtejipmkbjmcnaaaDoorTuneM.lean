/- Windows in memory; copy and append of rows of structs. -/
import Derived.Test.YtejipmkbjmcnaaaDoorTuneS
import Derived.Test.YtejipmkbjmcnaaaDoorOwnK
import Derived.Test.YtejipmkbjmcnaaaDoorQTail
import Derived.Laws.CopyRow
import Derived.Lib.AppendZerosOnto
set_option linter.unusedVariables false
namespace Go.Proofs.YtejipmkbjmcnaaaDoor
open Go.RowKit Go.Shelf

/-- A window's members, one behind the other. -/
def WAt (w : World) (b off : Nat) (l : List Sn) : Prop := ∀ i, i < l.length → w.cell? ⟨b, off + i * 3, none⟩ = some (.string (wAt l i).key) ∧ w.cell? ⟨b, off + i * 3 + 1, none⟩ = some (.int .i64 (wAt l i).size) ∧ w.cell? ⟨b, off + i * 3 + 2, none⟩ = some (.int .i64 (wAt l i).n)
def IsW (w : World) (a : Option Addr) (l : List Sn) : Prop := l.length = 0 ∨ ∃ b off, a = some ⟨b, off, none⟩ ∧ l.length ≤ 9223372036854775807 ∧ WAt w b off l
theorem IsW.below {w w' : World} {a : Option Addr} {l : List Sn} (h : IsW w a l) (hb : Below w.heap.size w w') : IsW w' a l := by
  rcases h with h | ⟨b, off, h1, h2, h3⟩
  · exact Or.inl h
  · exact Or.inr ⟨b, off, h1, h2, fun i hi => ⟨keepB hb (h3 i hi).1, keepB hb (h3 i hi).2.1, keepB hb (h3 i hi).2.2⟩⟩
theorem IsW.row {w : World} {a : Option Addr} {l : List Sn} (h : IsW w a l) {i : Nat} (hi : i < l.length) : ∃ b off, a = some ⟨b, off, none⟩ ∧ l.length ≤ 9223372036854775807 ∧ w.cell? ⟨b, off + i * 3, none⟩ = some (.string (wAt l i).key) ∧ w.cell? ⟨b, off + i * 3 + 1, none⟩ = some (.int .i64 (wAt l i).size) ∧ w.cell? ⟨b, off + i * 3 + 2, none⟩ = some (.int .i64 (wAt l i).n) := by
  rcases h with h | ⟨b, off, h1, h2, h3⟩
  · omega
  · exact ⟨b, off, h1, h2, h3 i hi⟩
/-- The numbers of a window are ints. -/
def InW (l : List Sn) : Prop := ∀ i, i < l.length → (-9223372036854775808 ≤ (wAt l i).size ∧ (wAt l i).size < 9223372036854775808) ∧ (-9223372036854775808 ≤ (wAt l i).n ∧ (wAt l i).n < 9223372036854775808)
/-- Its cells. -/
def cellsS (s : Sn) : List Value := [.string s.key, .int .i64 s.size, .int .i64 s.n]
def cellsW (l : List Sn) : List Value := l.flatMap cellsS
theorem cellsW_length (l : List Sn) : (cellsW l).length = l.length * 3 := by
  induction l with
  | nil => rfl
  | cons s l ih => unfold cellsW at *; rw [List.flatMap_cons, List.length_append, ih, List.length_cons]; simp [cellsS]; omega
theorem cellsW_get : ∀ (l : List Sn) (i : Nat), i < l.length → (cellsW l)[i * 3]? = some (.string (wAt l i).key) ∧ (cellsW l)[i * 3 + 1]? = some (.int .i64 (wAt l i).size) ∧ (cellsW l)[i * 3 + 2]? = some (.int .i64 (wAt l i).n)
  | [], i, h => by simp at h
  | s :: l, 0, _ => ⟨rfl, rfl, rfl⟩
  | s :: l, i + 1, h => by
    have ih := cellsW_get l i (by simpa using h)
    have e : ∀ k, (cellsW (s :: l))[(i + 1) * 3 + k]? = (cellsW l)[i * 3 + k]? := fun k => by
      have hc : cellsW (s :: l) = cellsS s ++ cellsW l := rfl
      rw [hc, List.getElem?_append_right (by simp [cellsS]; omega)]
      congr 1
      simp [cellsS]; omega
    exact ⟨(e 0).trans ih.1, (e 1).trans ih.2.1, (e 2).trans ih.2.2⟩
theorem cellsW_one (l : List Sn) : ∀ v ∈ cellsW l, v.oneCell' = true := by
  intro v hv
  obtain ⟨s, _, hs⟩ := List.mem_flatMap.1 hv
  simp [cellsS] at hs
  rcases hs with rfl | rfl | rfl <;> rfl
theorem cellsW_append (l k : List Sn) : cellsW (l ++ k) = cellsW l ++ cellsW k := by unfold cellsW; rw [List.flatMap_append]
theorem cellsS_length (s : Sn) : (cellsS s).length = 3 := rfl
theorem cellsW_take (l : List Sn) : ∀ k, cellsW (l.take k) = (cellsW l).take (k * 3) := by
  induction l with
  | nil => intro k; simp [cellsW]
  | cons s l ih =>
    intro k
    cases k with
    | zero => simp [cellsW]
    | succ k =>
      rw [List.take_succ_cons]
      show cellsS s ++ cellsW (l.take k) = (cellsS s ++ cellsW l).take ((k + 1) * 3)
      rw [ih, List.take_append, cellsS_length, List.take_of_length_le (l := cellsS s) (by rw [cellsS_length]; omega), show (k + 1) * 3 - 3 = k * 3 from by omega]
theorem cellsW_drop (l : List Sn) : ∀ k, cellsW (l.drop k) = (cellsW l).drop (k * 3) := by
  induction l with
  | nil => intro k; simp [cellsW]
  | cons s l ih =>
    intro k
    cases k with
    | zero => simp [cellsW]
    | succ k =>
      rw [List.drop_succ_cons, ih]
      show _ = (cellsS s ++ cellsW l).drop ((k + 1) * 3)
      rw [List.drop_append, cellsS_length, List.drop_of_length_le (l := cellsS s) (by rw [cellsS_length]; omega), List.nil_append, show (k + 1) * 3 - 3 = k * 3 from by omega]
/-- What is read of cells that are there. -/
theorem isW_cells {w : World} {b off : Nat} {l : List Sn} (hl : l.length ≤ 9223372036854775807) (h : ∀ j v, (cellsW l)[j]? = some v → w.cell? ⟨b, off + j, none⟩ = some v) : IsW w (some ⟨b, off, none⟩) l :=
  Or.inr ⟨b, off, rfl, hl, fun i hi => by
    obtain ⟨h1, h2, h3⟩ := cellsW_get l i hi
    exact ⟨h _ _ h1, h _ _ h2, h _ _ h3⟩⟩
theorem idx3 {j n : Nat} (h : j < n * 3) : j / 3 < n ∧ (j = j / 3 * 3 ∨ j = j / 3 * 3 + 1 ∨ j = j / 3 * 3 + 2) := by omega
theorem IsW.cells {w : World} {b off : Nat} {l : List Sn} (h : IsW w (some ⟨b, off, none⟩) l) : ∀ j v, (cellsW l)[j]? = some v → w.cell? ⟨b, off + j, none⟩ = some v := by
  intro j v hj
  have hlt : j < l.length * 3 := by
    have := (List.getElem?_eq_some_iff.1 hj).1
    rwa [cellsW_length] at this
  obtain ⟨hi, hc⟩ := idx3 hlt
  obtain ⟨b', off', hh, _, c1, c2, c3⟩ := h.row hi
  cases hh
  obtain ⟨g1, g2, g3⟩ := cellsW_get l (j / 3) hi
  rcases hc with hc | hc | hc
  · rw [hc] at hj ⊢; rw [g1] at hj; cases hj; exact c1
  · rw [hc] at hj ⊢; rw [g2] at hj; cases hj; rw [← Nat.add_assoc]; exact c2
  · rw [hc] at hj ⊢; rw [g3] at hj; cases hj; rw [← Nat.add_assoc]; exact c3
/-- All but one block is as it was. -/
structure Only (g : Nat) (w w' : World) : Prop where
  os : w'.os = w.os
  tape : w'.tape = w.tape
  output : w'.output = w.output
  size : w.heap.size ≤ w'.heap.size
  block : ∀ k, k < w.heap.size → k ≠ g → w'.heap[k]? = w.heap[k]?
theorem Only.refl (g : Nat) (w : World) : Only g w w := ⟨rfl, rfl, rfl, Nat.le_refl _, fun _ _ _ => rfl⟩
theorem Only.trans {g : Nat} {a b c : World} (h : Only g a b) (k : Only g b c) : Only g a c :=
  ⟨k.os.trans h.os, k.tape.trans h.tape, k.output.trans h.output, Nat.le_trans h.size k.size, fun i hi hg => (k.block i (Nat.lt_of_lt_of_le hi h.size) hg).trans (h.block i hi hg)⟩
theorem Only.below {g B : Nat} {a b : World} (h : Only g a b) (hg : B ≤ g) (hB : B ≤ a.heap.size) : Below B a b := ⟨h.os, h.tape, h.output, h.size, fun k hk => h.block k (by omega) (by omega)⟩
theorem Only.cell {g : Nat} {a b : World} (h : Only g a b) {p : Addr} {v : Value} (hp : p.block ≠ g) (hc : a.cell? p = some v) : b.cell? p = some v := by
  have hb := block_lt_of_cell hc
  unfold World.cell? at *
  rw [h.block p.block hb hp]; exact hc
theorem splice_get {cur : List Value} {off : Nat} {cs : List Value} (hfit : off + cs.length ≤ cur.length) (j : Nat) :
    (cur.take off ++ cs ++ cur.drop (off + cs.length))[j]? = if j < off then cur[j]? else if j < off + cs.length then cs[j - off]? else cur[j]? := by
  have ht : (cur.take off).length = off := by rw [List.length_take]; omega
  split
  · rw [List.append_assoc, List.getElem?_append_left (by omega), List.getElem?_take, if_pos (by assumption)]
  · split
    · rw [List.append_assoc, List.getElem?_append_right (by omega), ht, List.getElem?_append_left (by omega)]
    · rw [List.getElem?_append_right (by rw [List.length_append]; omega), List.length_append, ht, List.getElem?_drop]
      congr 1; omega
theorem splice_length {cur : List Value} {off : Nat} {cs : List Value} (hfit : off + cs.length ≤ cur.length) : (cur.take off ++ cs ++ cur.drop (off + cs.length)).length = cur.length := by
  rw [List.length_append, List.length_append, List.length_take, List.length_drop]; omega
/-- copy of elements of any size into a row that is whole in memory. -/
theorem wpList_copy_rowN {P : Program} {w : World} {ops : Array Oper} {rest : List Oper} {o : Oper} {a : Act} {Q : Exit → Act → World → Prop} (hgd : o.guard = none) (d s : Operand) (dT sT : TypeId)
    (ho : o.op = .call { callee := .builtin .copy, args := #[d, s], argTypes := #[dT, sT] }) (elem : TypeId) (k : Nat) (hu : P.underlying dT = some (.slice elem)) (hsz : (P.info? elem).map (·.size) = some k)
    (g off dLen dCap : Nat) (hd : a.eval d = .slice (some ⟨g, off, none⟩) dLen dCap) (sp : Option Addr) (sLen sCap : Nat) (hs : a.eval s = .slice sp sLen sCap) (n : Nat) (hn : Nat.min sLen dLen = n)
    (cur : Array Value) (t : TypeId) (hg : w.heap[g]? = some (.cells cur t (0, 0))) (cs : List Value) (hl : cs.length = n * k) (hsrc : 0 < cs.length → ∃ ad, sp = some ad ∧ ∀ j v, cs[j]? = some v → w.cell? (ad.add j) = some v)
    (hfit : off + cs.length ≤ cur.size) (h1 : ∀ v ∈ cs, v.oneCell' = true)
    (h : ∀ w', w'.heap[g]? = some (.cells (cur.toList.take off ++ cs ++ cur.toList.drop (off + cs.length)).toArray t (0, 0)) → Only g w w' → wpList P ops Q rest (a.put o.dst (goInt n)) w') :
    wpList P ops Q (o :: rest) a w := by
  refine wpList_plain hgd fun K hK => ?_
  have hst := run_storeCells_at P g off t cs 0 cur w hg (by simpa using hfit) h1
  have key : (Builtin.copy_ #[dT, sT] o.type #[.slice (some ⟨g, off, none⟩) dLen dCap, .slice sp sLen sCap]).run P w = .ok (goInt n) (w.setRow g (cur.toList.take off ++ cs ++ cur.toList.drop (off + cs.length)).toArray) := by
    cases hq : P.info? elem with
    | none => simp [hq] at hsz
    | some i =>
      have hi : i.size = k := by simpa [hq] using hsz
      rcases Nat.eq_zero_or_pos cs.length with h0 | h0
      · have hcs : cs = [] := List.eq_nil_of_length_eq_zero h0
        subst hcs
        have hnk : n * k = 0 := by simpa using hl.symm
        cases sp with
        | none => simp [Builtin.copy_, run_underlying hu, Builtin.lenOf, Builtin.firstCells, sizeOf, typeInfo, hq, hn, hst]
        | some ad =>
          have hl0 : (loadCells ad 0).run P w = .ok #[] w := by simpa using run_loadCells_list (P := P) w ad [] (by simp)
          simp [Builtin.copy_, run_underlying hu, Builtin.lenOf, Builtin.firstCells, sizeOf, typeInfo, hq, hi, hn, hnk, hl0, hst]
      · obtain ⟨ad, rfl, hc⟩ := hsrc h0
        have hlc := run_loadCells_list (P := P) w ad cs hc
        rw [hl] at hlc
        simp [Builtin.copy_, run_underlying hu, Builtin.lenOf, Builtin.firstCells, sizeOf, typeInfo, hq, hi, hn, hlc, hst]
  unfold Oper.wp execOp
  simp only [ho, resolve, invoke, builtin, Sem.run_bind, Sem.run_pure, Result.andThen_ok, List.map_toArray, List.map_cons, List.map_nil, hd, hs, key]
  refine hK _ _ (h _ (setRow_heap _ _ _ _ _ _ hg) ⟨rfl, rfl, rfl, by simp, fun j hj hne => setRow_other _ _ _ _ hne⟩)
end Go.Proofs.YtejipmkbjmcnaaaDoor
