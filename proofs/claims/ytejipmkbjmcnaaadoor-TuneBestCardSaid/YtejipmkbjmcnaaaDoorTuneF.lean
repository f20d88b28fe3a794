/- The walk of slices.Insert of one member, into a row that is full. -/
import Derived.Test.YtejipmkbjmcnaaaDoorTuneD
set_option linter.unusedVariables false
set_option maxRecDepth 100000
set_option maxHeartbeats 2000000
namespace Go.Proofs.YtejipmkbjmcnaaaDoor
open Go.RowKit Go.Shelf
attribute [local go_sem ↓] lt_alloc

/-- append of so many zero values to a row that has no room for them. -/
theorem wpList_append_zeros {P : Program} {w : World} {ops : Array Oper} {rest : List Oper} {o : Oper} {a : Act} {Q : Exit → Act → World → Prop} (hgd : o.guard = none) (s x : Operand) (t tn : TypeId)
    (ho : o.op = .call { callee := .builtin .append, args := #[s, x], argTypes := #[t, tn] }) (e : TypeId) (i : TypeInfo) (z : Value) (k bytes : Nat) (ht : P.underlying t = some (.slice e)) (htn : P.underlying tn = some (.int .i64))
    (hi : P.info? e = some i) (hz : i.zero = some z) (hsize : i.size = k) (hby : i.bytes = bytes) (hzs : z.cells.size = k) (hk : 0 < k) (g sLen sCap q : Nat) (Z : Int) (hs : a.eval s = .slice (some ⟨g, 0, none⟩) sLen sCap) (hx : a.eval x = .int .i64 Z) (hZ : Z = (q : Nat))
    (olds : List Value) (hol : olds.length = sLen * k) (hold : ∀ j v, olds[j]? = some v → w.cell? ⟨g, 0 + j, none⟩ = some v) (h0 : 0 < q) (T : Nat) (hT : sLen + q = T) (hg : sCap < sLen + q) (hsm : sLen + q ≤ 1000001) (hb : bytes ≤ 1000)
    (h : ∀ (G : Nat) (cur : Array Value) (w' : World), T ≤ G → G ≤ 9223372036854775807 → w'.heap[w.heap.size]? = some (.cells cur e (0, 0)) → cur.size = G * k → (∀ j, j < sLen * k → cur[j]? = olds[j]?) → Below w.heap.size w w' → wpList P ops Q rest (a.put o.dst (.slice (some ⟨w.heap.size, 0, none⟩) T G)) w') :
    wpList P ops Q (o :: rest) a w := by
  subst hZ hsize hby hT
  refine wpList_plain hgd fun K hK => ?_
  have hb1 : (sLen + q) * i.bytes ≤ 140737488355328 := Nat.le_trans (Nat.mul_le_mul hsm hb) (by decide)
  have hb2 : q * i.bytes ≤ 281474976710656 := Nat.le_trans (Nat.mul_le_mul (show q ≤ 1000001 by omega) hb) (by decide)
  have hr := Lib.run_append_grow_zeros (P := P) w t tn o.type e i z .i64 .i64 ht htn hi hz (some ⟨g, 0, none⟩) sLen sCap olds
    (run_firstCells_some w.drew i.size sLen ⟨g, 0, none⟩ sLen sCap olds hol (fun j v hj => by rw [Addr.add_lit]; exact hold j v hj)) q h0 hk hg (by omega) hb2 (growslice_fits hg hb1)
  have hge := grownCap_ge w (sLen + q) sCap e
  have hle := grownCap_le_maxLen w (sLen + q) sCap e (by unfold maxLen; omega)
  generalize grownCap w (sLen + q) sCap e = G at *
  unfold Oper.wp execOp
  simp only [ho, resolve, invoke, builtin, Sem.run_bind, Sem.run_pure, Result.andThen_ok, List.map_toArray, List.map_cons, List.map_nil, hs, hx, hr]
  refine hK _ _ (h G _ _ hge (by unfold maxLen at hle; omega) (heap_alloc_new w.drew _) ?_ (fun j hj => ?_) ⟨rfl, rfl, rfl, by simp, fun k hk => heap_alloc_old w.drew _ hk⟩)
  · rw [Array.size_append, Array.size_append, size_zeroCells, size_zeroCells, hzs]
    simp only [List.size_toArray, hol]
    rw [← Nat.add_mul, ← Nat.add_mul]
    congr 1; omega
  · rw [Array.append_assoc, Array.getElem?_append_left (by simp [hol]; omega)]
    simp
theorem wpList_append_run {P : Program} {w : World} {ops : Array Oper} {rest : List Oper} {o : Oper} {a : Act} {Q : Exit → Act → World → Prop} (hgd : o.guard = none) (s x : Operand) (t t' : TypeId)
    (ho : o.op = .call { callee := .builtin .append, args := #[s, x], argTypes := #[t, t'] }) (v u : Value) (hs : a.eval s = v) (hx : a.eval x = u) (v' : Value) (w' : World)
    (hr : (Builtin.append_ #[t, t'] o.type #[v, u]).run P w = .ok v' w') (h : wpList P ops Q rest (a.put o.dst v') w') : wpList P ops Q (o :: rest) a w := by
  refine wpList_plain hgd fun K hK => ?_
  unfold Oper.wp execOp
  simp only [ho, resolve, invoke, builtin, Sem.run_bind, Sem.run_pure, Result.andThen_ok, List.map_toArray, List.map_cons, List.map_nil, hs, hx, hr]
  exact hK _ _ h
theorem cut_l (w : World) (g off len cap : Nat) (k : IntKind) (h : Int) (h0 : 0 ≤ h) (h1 : h ≤ len) (h2 : h.toNat ≠ cap) :
    (Instr.slice 22 (.slice (some ⟨g, off, none⟩) len cap) (some (.int k h)) none none).run Tryd.prog w = .ok (.slice (some ⟨g, off + h.toNat * 3, none⟩) (len - h.toNat) (cap - h.toNat)) w := by
  have ht : Tryd.prog.underlying 22 = some (.slice (Tryd.prog.elem 22)) := by kernel_rfl
  rw [run_slice_l (P := Tryd.prog) w 22 (some ⟨g, off, none⟩) len cap ht k h h0 h1]
  have hc : ¬ cap = h.toNat := fun hh => h2 hh.symm
  simp [go_sem, sliced, hc, Addr.add]
theorem cut_h (w : World) (g off len cap : Nat) (k : IntKind) (h : Nat) (h1 : h ≤ cap) :
    (Instr.slice 22 (.slice (some ⟨g, off, none⟩) len cap) none (some (.int k (h : Nat))) none).run Tryd.prog w = .ok (.slice (some ⟨g, off, none⟩) h cap) w := by
  have ht : Tryd.prog.underlying 22 = some (.slice (Tryd.prog.elem 22)) := by kernel_rfl
  rw [run_slice_h (P := Tryd.prog) w 22 (some ⟨g, off, none⟩) len cap ht k h (by omega) (by omega)]
  by_cases hc : cap = 0
  · simp [go_sem, sliced, hc]
  · simp [go_sem, sliced, hc, Addr.add]
theorem own_isW {w : World} {base : Nat} {e : TypeId} {v : Value} {n : Nat} {l : List Sn} (hn : l.length = n) (hm : n ≤ 2000000) (h : w.ownsRow base e 3 v n (cellsW l)) : ∃ a c, v = .slice a n c ∧ n ≤ c ∧ IsW w a l := by
  rcases h.2 with ⟨rfl, rfl⟩ | ⟨g, cap, cur, rfl, _, _, hnc, hc, _, _⟩
  · exact ⟨none, 0, rfl, Nat.le_refl _, Or.inl hn⟩
  · refine ⟨some ⟨g, 0, none⟩, cap, rfl, hnc, isW_cells (by omega) fun j v hj => ?_⟩
    have e0 := h.cells (g := g) rfl j v hj
    rwa [Addr.add_lit] at e0
theorem insert_end {g n vb : Nat} {l : List Sn} {s : Sn} (hn : l.length = n) (hm : n ≤ 1000000) (w : World) (hg : WBlk w g l) (hv : w.heap[vb]? = some (.cells (cellsS s).toArray 25 (0, 0))) :
    Calls Tryd.prog 33 #[.slice (some ⟨g, 0, none⟩) n n, .int .i64 n, .slice (some ⟨vb, 0, none⟩) 1 1] w fun e w' => ∃ a c, e = .returned (.slice a (n + 1) c) ∧ n + 1 ≤ c ∧ IsW w' a (l ++ [s]) ∧ Only g w w' := by
  obtain ⟨ti, ti1, ti2, ti3, ti4⟩ := info_parts seen_info
  have hcl := cellsW_length l
  rw [hn] at hcl
  have hown : w.ownsRow 0 25 3 (.slice (some ⟨g, 0, none⟩) n n) n (cellsW l) :=
    ⟨hcl, Or.inr ⟨g, n, _, rfl, Nat.zero_le _, hg, Nat.le_refl _, by unfold maxLen; omega, by simp [hcl], by rw [List.take_of_length_le (by simp; omega)]⟩⟩
  have hN : ∀ j u, (cellsS s)[j]? = some u → w.cell? ((⟨vb, 0, none⟩ : Addr).add j) = some u := fun j u hj => by
    rw [Addr.add_lit, Nat.zero_add]
    exact (cell_of_row w vb j _ _ _ hv).trans (by simpa using hj)
  have hone : ∀ u ∈ cellsS s, u.oneCell' = true := by
    intro u hu; simp [cellsS] at hu; rcases hu with rfl | rfl | rfl <;> rfl
  have hlen : (l ++ [s]).length = n + 1 := by simp [hn]
  have hcat : cellsW l ++ cellsS s = cellsW (l ++ [s]) := by rw [cellsW_append]; rfl
  obtain ⟨v', w', h1, h2, h3, _⟩ := run_append_own_at (P := Tryd.prog) (w := w) 0 22 22 25 ti _ 3 32 (by kernel_rfl) ti1 ti2 ti3 ti4 rfl (by decide) (.slice (some ⟨g, 0, none⟩) n n) n (cellsW l) hown ⟨vb, 0, none⟩ 1 1 (cellsS s) rfl hN hone (by unfold maxLen; omega) (by omega) (Nat.zero_le _)
  rw [hcat] at h2
  obtain ⟨a, c, rfl, hc, hW⟩ := own_isW hlen (by omega) h2
  have HW := Lib.hid hW
  have HO := Lib.hid (show Only g w w' from ⟨h3.os, h3.tape, h3.output, h3.size, fun k hk hne => h3.block k hk (fun hh => hne (by simpa [Value.ownBlock] using hh))⟩)
  have H1 := Lib.hid h1
  clear h1 hown hN hone hcat hlen h2 h3 hW ti1 ti2 ti3 ti4 hg hv hcl hn
  go_enter Tryd.func33, Tryd.ntmps33
  go_wp2_with (refine wpList_append_run rfl _ _ _ _ rfl (.slice (some ⟨g, 0, none⟩) n n) (.slice (some ⟨vb, 0, none⟩) 1 1) rfl rfl (.slice a (n + 1) c) w' H1.out ?_)
  go_ret
  exact ⟨_, _, rfl, hc, HW.out, HO.out⟩
end Go.Proofs.YtejipmkbjmcnaaaDoor
