/- What came in as a slice of Seens reads as a window's members; slices of strings; a Seen by value. -/
import Derived.Test.YtejipmkbjmcnaaaDoorTuneM
import Derived.Deep.SlicePairs
import Derived.Deep.Slices
import Derived.Lib.SmallJoins
import Derived.OpenShut
set_option linter.unusedVariables false
namespace Go.Proofs.YtejipmkbjmcnaaaDoor
open Go.ChangeShapes Go.WideShapes Go.RowKit
instance : Inhabited Sn := ⟨sn0⟩
section
variable {H : Type} {enc : TypeId × Value → H} {P : Program} {w : World} {base : Nat} {spare : Nat → Bool} {held : Bool}
theorem isW_of {t e f0 f1 f2 : TypeId} {n0 n1 n2 : Field} (ht : P.underlying t = some (.slice e)) (he : P.underlying e = some (.struct #[n0, n1, n2])) (ce : P.cellsOf e = 3)
    (o0 : n0.offset = 0) (o1 : n1.offset = 1) (o2 : n2.offset = 2) (c0 : P.cellsOf n0.type = 1) (c1 : P.cellsOf n1.type = 1) (c2 : P.cellsOf n2.type = 1)
    (u0 : P.underlying n0.type = some .string) (u1 : P.underlying n1.type = some (.int .i64)) (u2 : P.underlying n2.type = some (.int .i64)) {a : Option Addr} {len cap : Nat} {d : DataW H} {ps : List MemPlace}
    (h : DataW.Trod enc P w base spare held t (.slice a len cap) d ps) : ∃ l : List Sn, l.length = len ∧ InW l ∧ IsW w a l ∧ len ≤ cap := by
  obtain ⟨n, h⟩ := h
  have h' : DataW.trod enc P w base spare held n t [.slice a len cap] = some (d, ps) := h
  rcases Go.Deep.open_slice ht h' with ⟨h0, _⟩ | ⟨A, len', cap', m, n', D, Pl, hcs, hb, hl, hc, hm, hx, hf⟩
  · simp at h0
    obtain ⟨_, rfl, rfl⟩ := h0
    exact ⟨[], rfl, fun i hi => absurd hi (Nat.not_lt_zero i), Or.inl rfl, Nat.le_refl _⟩
  · simp at hcs
    obtain ⟨rfl, rfl, rfl⟩ := hcs
    have hlm : len ≤ m := by rw [hm]; split <;> omega
    have each : ∀ i, i < len → ∃ s : Sn, (w.cell? (A.add (i * 3)) = some (.string s.key) ∧ w.cell? ((A.add (i * 3)).add 1) = some (.int .i64 s.size) ∧ w.cell? ((A.add (i * 3)).add 2) = some (.int .i64 s.n)) ∧
        (-9223372036854775808 ≤ s.size ∧ s.size < 9223372036854775808) ∧ (-9223372036854775808 ≤ s.n ∧ s.n < 9223372036854775808) := by
      intro i hi
      obtain ⟨cs', hc', ht'⟩ := hf i (by omega)
      rw [ce] at hc'
      obtain ⟨_, hcl, hat⟩ := World.cells?_some hc'
      obtain ⟨ys, k, rfl, hy, hlen, hyl, hfs⟩ := DataW.trod_struct he ht'
      have f0 := hfs 0 n0 rfl
      have f1 := hfs 1 n1 rfl
      have f2 := hfs 2 n2 rfl
      rw [o0, c0] at f0; rw [o1, c1] at f1; rw [o2, c2] at f2
      have hyl' : ys.length = 3 := hyl
      have one : ∀ j, j < 3 → (cs'.drop j).take 1 = [cs'[j]?.getD undef] := fun j hj => by
        rw [List.drop_eq_getElem_cons (by omega), List.getElem?_eq_getElem (by omega)]; rfl
      have get : ∀ j, j < 3 → cs'[j]? = some (cs'[j]?.getD undef) := fun j hj => by rw [List.getElem?_eq_getElem (by omega)]; rfl
      have y0 : ys[0]? = some (ys[0]'(by omega)) := List.getElem?_eq_getElem (by omega)
      have y1 : ys[1]? = some (ys[1]'(by omega)) := List.getElem?_eq_getElem (by omega)
      have y2 : ys[2]? = some (ys[2]'(by omega)) := List.getElem?_eq_getElem (by omega)
      rw [one 0 (by decide), y0] at f0
      rw [one 1 (by decide), y1] at f1
      rw [one 2 (by decide), y2] at f2
      obtain ⟨s, es, _, _⟩ := DataW.trod_string u0 f0
      obtain ⟨x, ex, _, wx⟩ := DataW.trod_int u1 f1
      obtain ⟨y, ey, _, wy⟩ := DataW.trod_int u2 f2
      have bx := bounds_i64 wx
      have by' := bounds_i64 wy
      have a0 := hat 0 (by omega)
      have a1 := hat 1 (by omega)
      have a2 := hat 2 (by omega)
      rw [get 0 (by decide)] at a0; rw [get 1 (by decide)] at a1; rw [get 2 (by decide)] at a2
      have q0 : cs'[0]?.getD undef = .string s := by simpa using es
      have q1 : cs'[1]?.getD undef = .int .i64 x := by simpa using ex
      have q2 : cs'[2]?.getD undef = .int .i64 y := by simpa using ey
      rw [q0] at a0; rw [q1] at a1; rw [q2] at a2
      refine ⟨⟨s, x, y⟩, ⟨?_, a1, a2⟩, by dsimp only; omega, by dsimp only; omega⟩
      have e : ((A.add (i * 3)).add 0) = A.add (i * 3) := by simp [Addr.add]
      rw [e] at a0; exact a0
    obtain ⟨q, hq⟩ := Go.Deep.choose_lt each
    have hget : ∀ i, i < len → wAt ((List.range len).map q) i = q i := fun i hi => wAt_of (by simp [hi])
    refine ⟨(List.range len).map q, by simp, fun i hi => ?_, ?_, hl⟩
    · have hi' : i < len := by simpa using hi
      rw [hget i hi']
      exact (hq i hi').2
    · rcases Nat.eq_zero_or_pos len with hz | hz
      · exact Or.inl (by simp [hz])
      · obtain ⟨b, off, spot⟩ := A
        have hspot : spot = none := by simpa [Addr.add] using World.cell?_spot (hq 0 (by omega)).1.1
        subst hspot
        refine Or.inr ⟨b, off, rfl, by simp; unfold maxLen at hc; omega, fun i hi => ?_⟩
        have hi' : i < len := by simpa using hi
        obtain ⟨⟨e0, e1, e2⟩, _⟩ := hq i hi'
        rw [hget i hi']
        rw [add_plain] at e0
        rw [add_plain, add_plain] at e1 e2
        exact ⟨e0, e1, e2⟩
end
end Go.Proofs.YtejipmkbjmcnaaaDoor
