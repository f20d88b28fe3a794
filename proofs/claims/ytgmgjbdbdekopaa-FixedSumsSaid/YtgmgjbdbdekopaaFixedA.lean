/- FixedSums: two rows laid behind each other by append. -/
import Derived.Test.YtgmgjbdbdekopaaFixedL
import Derived.OwnWalk
set_option linter.unusedVariables false
namespace Go.Proofs.Ytgmgjbdbdekopaa
open Go.RowKit Go.Shelf
attribute [local go_sem ↓] lt_alloc

def rowZ (Z : Nat → Int) (m : Nat) : List Value := (List.range m).map fun i => .int .u64 (Z i)
def catI (Z : Nat → Int) (n : Nat) (Y : Nat → Int) (i : Nat) : Int := if i < n then Z i else Y (i - n)
theorem rowZ_length (Z : Nat → Int) (m : Nat) : (rowZ Z m).length = m := by simp [rowZ]
theorem rowZ_get {Z : Nat → Int} {m i : Nat} (h : i < m) : (rowZ Z m)[i]? = some (.int .u64 (Z i)) := by simp [rowZ, h]
theorem rowZ_of {Z : Nat → Int} {m j : Nat} {u : Value} (h : (rowZ Z m)[j]? = some u) : j < m ∧ u = .int .u64 (Z j) := by
  have hj : j < m := by
    have := (List.getElem?_eq_some_iff.1 h).1
    rwa [rowZ_length] at this
  rw [rowZ_get hj] at h
  exact ⟨hj, (Option.some.inj h).symm⟩
theorem rowZ_cat (Z Y : Nat → Int) (n m : Nat) : rowZ Z n ++ rowZ Y m = rowZ (catI Z n Y) (n + m) := by
  apply List.ext_getElem?
  intro j
  rcases Nat.lt_or_ge j n with h | h
  · rw [List.getElem?_append_left (by rw [rowZ_length]; exact h), rowZ_get h, rowZ_get (by omega), catI, if_pos h]
  · rw [List.getElem?_append_right (by rw [rowZ_length]; exact h), rowZ_length]
    rcases Nat.lt_or_ge j (n + m) with h2 | h2
    · rw [rowZ_get (by omega), rowZ_get h2, catI, if_neg (by omega)]
    · rw [List.getElem?_eq_none (by rw [rowZ_length]; omega), List.getElem?_eq_none (by rw [rowZ_length]; omega)]
theorem sumF_congr {Z Y : Nat → Int} : ∀ n, (∀ i, i < n → Z i = Y i) → sumF Z n = sumF Y n
  | 0, _ => rfl
  | n + 1, h => by unfold sumF; rw [sumF_congr n (fun i hi => h i (by omega)), h n (by omega)]
theorem sumF_cat {Z Y : Nat → Int} (hZ : ∀ i, 0 ≤ Z i) (hY : ∀ i, 0 ≤ Y i) (n : Nat) : ∀ m, sumF (catI Z n Y) (n + m) = addS (sumF Z n) (sumF Y m)
  | 0 => by
    have hb := sumF_bd hZ n
    rw [Nat.add_zero, sumF_congr (Y := Z) n (fun i hi => by rw [catI, if_pos hi])]
    show _ = addS _ 0
    unfold addS
    rw [if_pos (by omega)]; omega
  | m + 1 => by
    rw [← Nat.add_assoc]
    show addS (sumF (catI Z n Y) (n + m)) (catI Z n Y (n + m)) = addS _ (addS (sumF Y m) (Y m))
    rw [sumF_cat hZ hY n m, catI, if_neg (by omega), show n + m - n = m from by omega]
    exact addS_assoc _ _ _ (sumF_bd hZ n).1 (sumF_bd hY m).1 (hY m)
theorem catI_0 {Z Y : Nat → Int} (hZ : ∀ i, 0 ≤ Z i) (hY : ∀ i, 0 ≤ Y i) (n i : Nat) : 0 ≤ catI Z n Y i := by
  unfold catI; split
  · exact hZ _
  · exact hY _
theorem isInts_own {w : World} {base : Nat} {e : TypeId} {v : Value} {n : Nat} {Z : Nat → Int} (h : w.ownsRow base e 1 v n (rowZ Z n)) :
    ∃ g c, v = .slice g n c ∧ IsInts w g n Z := by
  rcases h.2 with ⟨rfl, rfl⟩ | ⟨g, cap, cur, rfl, _, _, hn, hc, _, _⟩
  · exact ⟨none, 0, rfl, Or.inl rfl⟩
  · refine ⟨some ⟨g, 0, none⟩, cap, rfl, Or.inr ⟨g, 0, rfl, by unfold maxLen at hc; omega, fun i hi => ?_⟩⟩
    have e0 := h.cells (g := g) rfl i _ (rowZ_get hi)
    rwa [Addr.add_lit] at e0
theorem run_append_ints {P : Program} {w : World} (base : Nat) (t ty e : TypeId) (i : TypeInfo) (ht : P.underlying t = some (.slice e)) (hi : P.info? e = some i) (hz : i.zero = some (.int .u64 0))
    (hsize : i.size = 1) (hby : i.bytes = 8) (v : Value) (n : Nat) (xs : List Value) (hown : w.ownsRow base e 1 v n xs)
    (g : Option Addr) (m c : Nat) (Z : Nat → Int) (hg : IsInts w g m Z) (h63 : n + m ≤ maxLen) (hbytes : (n + m) * 8 ≤ 140737488355328) (hbase : base ≤ w.heap.size) :
    ∃ v' w', (Builtin.append_ #[t, t] ty #[v, .slice g m c]).run P w = .ok v' w' ∧ w'.ownsRow base e 1 v' (n + m) (xs ++ rowZ Z m) ∧ w.grownBy w' v.ownBlock := by
  rcases hg with rfl | ⟨b, off, rfl, hl, hr⟩
  · cases g with
    | none =>
      refine ⟨v, w, ?_, by simpa [rowZ] using hown, ⟨rfl, rfl, rfl, Nat.le_refl _, fun _ _ _ => rfl⟩⟩
      rcases hown.2 with ⟨rfl, rfl⟩ | ⟨g, cap, cur, rfl, _, _, hnc, _⟩
      · simp [Builtin.append_, run_underlying ht, sizeOf, typeInfo, hi, Builtin.lenOf, Builtin.firstCells]
      · simp [Builtin.append_, run_underlying ht, sizeOf, typeInfo, hi, Builtin.lenOf, Builtin.firstCells, hnc, storeCells]
    | some ad =>
      obtain ⟨v', w', h1, h2, h3, _⟩ := run_append_own (P := P) w base t ty e i (.int .u64 0) 1 8 ht hi hz hsize hby rfl (by decide) v n xs hown ad 0 c [] rfl (by intro j u h; simp at h) (by intro u h; simp at h) h63 hbytes hbase
      exact ⟨v', w', h1, by simpa [rowZ] using h2, h3⟩
  · obtain ⟨v', w', h1, h2, h3, _⟩ := run_append_own (P := P) w base t ty e i (.int .u64 0) 1 8 ht hi hz hsize hby rfl (by decide) v n xs hown ⟨b, off, none⟩ m c (rowZ Z m) (by rw [rowZ_length]; omega)
      (by intro j u h; obtain ⟨hj, rfl⟩ := rowZ_of h; rw [Addr.add_lit]; exact hr j hj) (by intro u h; obtain ⟨k, _, rfl⟩ := List.mem_map.1 h; rfl) h63 hbytes hbase
    exact ⟨v', w', h1, h2, h3⟩
theorem wpList_append_ints {P : Program} (w : World) {ops : Array Oper} {rest : List Oper} {o : Oper} {a : Act} {Q : Exit → Act → World → Prop} (hgd : o.guard = none) (s x : Operand) (t : TypeId)
    (ho : o.op = .call { callee := .builtin .append, args := #[s, x], argTypes := #[t, t] })
    (base : Nat) (e : TypeId) (i : TypeInfo) (ht : P.underlying t = some (.slice e)) (hi : P.info? e = some i) (hz : i.zero = some (.int .u64 0))
    (hsize : i.size = 1) (hby : i.bytes = 8) (v : Value) (n : Nat) (xs : List Value) (hs : a.eval s = v) (hown : w.ownsRow base e 1 v n xs)
    (g : Option Addr) (m c : Nat) (Z : Nat → Int) (hx : a.eval x = .slice g m c) (hg : IsInts w g m Z) (h63 : n + m ≤ maxLen) (hbytes : (n + m) * 8 ≤ 140737488355328) (hbase : base ≤ w.heap.size)
    (h : ∀ v' w', w'.ownsRow base e 1 v' (n + m) (xs ++ rowZ Z m) → w.grownBy w' v.ownBlock → wpList P ops Q rest (a.put o.dst v') w') : wpList P ops Q (o :: rest) a w := by
  refine wpList_plain hgd fun K hK => ?_
  obtain ⟨v', w', hr, h2, h3⟩ := run_append_ints (P := P) (w := w) base t o.type e i ht hi hz hsize hby v n xs hown g m c Z hg h63 hbytes hbase
  unfold Oper.wp execOp
  simp only [ho, resolve, invoke, builtin, Sem.run_bind, Sem.run_pure, Result.andThen_ok, List.map_toArray, List.map_cons, List.map_nil, hs, hx, hr]
  exact hK _ _ (h v' w' h2 h3)
theorem u64_info : (Try.prog.info? 22).map (fun i => (i.zero, i.size, i.bytes)) = some (some (.int .u64 0), 1, 8) := by kernel_rfl
theorem made0 {w w' : World} (e : TypeId) (h : Below w.heap.size w w') : (w'.alloc (.cells #[] e)).ownsRow w.heap.size e 1 (.slice (some ⟨w'.heap.size, 0, none⟩) 0 0) 0 (rowZ (fun _ => 0) 0) :=
  World.ownsRow_made w' #[] 0 h.size (by decide) rfl
set_option maxRecDepth 100000 in
set_option maxHeartbeats 1000000 in
theorem sums4_out {s t : Option Addr} {n m c d : Nat} (h : ¬ (n ≤ 100 ∧ m ≤ 100)) (w : World) :
    Calls Try.prog 8 #[.slice s n c, .slice t m d] w fun r w' => r = .returned (.bool true) ∧ Below w.heap.size w w' := by
  rcases Nat.lt_or_ge 100 n with hn | hn
  · go_enter Try.func8, Try.ntmps8
    go_wp2_with fail
    refine (awake4_any _).mono ?_
    rintro r w1 ⟨rfl, hb1⟩
    have hB1 : Below w.heap.size w w1 := by repeat' (first | (with_reducible exact Below.refl _ _) | (with_reducible assumption) | (with_reducible refine Below.trans ?_ (Below.mono hb1 ?_)) | (with_reducible refine Below.alloc ?_ ?_ _) | (with_reducible refine below_drewN ?_ _) | (with_reducible refine Below.drew ?_) | (with_reducible refine Below.setCell ?_ ?_ _) | go_size | omega | (simp; omega))
    have hS1 := hB1.size
    clear hb1
    go_wp2_with fail
    go_ret
    exact ⟨rfl, hB1⟩
  · have hm : 100 < m := by omega
    clear h
    go_enter Try.func8, Try.ntmps8
    go_wp2_with fail
    refine (awake4_any _).mono ?_
    rintro r w1 ⟨rfl, hb1⟩
    have hB1 : Below w.heap.size w w1 := by repeat' (first | (with_reducible exact Below.refl _ _) | (with_reducible assumption) | (with_reducible refine Below.trans ?_ (Below.mono hb1 ?_)) | (with_reducible refine Below.alloc ?_ ?_ _) | (with_reducible refine below_drewN ?_ _) | (with_reducible refine Below.drew ?_) | (with_reducible refine Below.setCell ?_ ?_ _) | go_size | omega | (simp; omega))
    have hS1 := hB1.size
    clear hb1
    go_wp2_with fail
    go_ret
    exact ⟨rfl, hB1⟩
end Go.Proofs.Ytgmgjbdbdekopaa
