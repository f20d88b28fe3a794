/- The walk of serve. -/
import Derived.Test.YtlhjacgocggbcaaGdsG
import Derived.Test.YtlhjacgocggbcaaGdsP
import Derived.OwnWalk
import Derived.Maps.AppendAt
import Derived.WalkMore
set_option linter.unusedVariables false
set_option maxRecDepth 100000
set_option maxHeartbeats 2000000
namespace Go.Proofs.Ytlhjacgocggbcaa
open Go.RowKit Go.Shelf
attribute [local go_sem ↓] lt_alloc

theorem wpList_append_at {P : Program} (w : World) {ops : Array Oper} {rest : List Oper} {o : Oper} {a : Act} {Q : Exit → Act → World → Prop} (hgd : o.guard = none) (s x : Operand) (t : TypeId)
    (ho : o.op = .call { callee := .builtin .append, args := #[s, x], argTypes := #[t, t] })
    (base : Nat) (e : TypeId) (i : TypeInfo) (z : Value) (size bytes : Nat) (ht : P.underlying t = some (.slice e)) (hi : P.info? e = some i) (hz : i.zero = some z) (hsize : i.size = size) (hby : i.bytes = bytes) (hzs : z.cells.size = size) (hsz : 0 < size)
    (v : Value) (n : Nat) (xs : List Value) (hs : a.eval s = v) (hown : w.ownsRow base e size v n xs)
    (ad : Addr) (m c : Nat) (news : List Value) (hx : a.eval x = .slice (some ad) m c) (hl : news.length = m * size) (hnews : ∀ j u, news[j]? = some u → w.cell? (ad.add j) = some u) (h1 : ∀ u ∈ news, u.oneCell' = true)
    (h63 : n + m ≤ maxLen) (hbytes : (n + m) * bytes ≤ 140737488355328) (hbase : base ≤ w.heap.size)
    (h : ∀ v' w', w'.ownsRow base e size v' (n + m) (xs ++ news) → w.grownBy w' v.ownBlock → wpList P ops Q rest (a.put o.dst v') w') : wpList P ops Q (o :: rest) a w := by
  refine wpList_plain hgd fun K hK => ?_
  obtain ⟨v', w', hr, h2, h3, _⟩ := run_append_own_at (P := P) (w := w) base t o.type e i z size bytes ht hi hz hsize hby hzs hsz v n xs hown ad m c news hl hnews h1 h63 hbytes hbase
  unfold Oper.wp execOp
  simp only [ho, resolve, invoke, builtin, Sem.run_bind, Sem.run_pure, Result.andThen_ok, List.map_toArray, List.map_cons, List.map_nil, hs, hx, hr]
  exact hK _ _ (h v' w' h2 h3)
theorem int_info : (Try.prog.info? 3).map (fun i => (i.zero, i.size, i.bytes)) = some (some (.int .i64 0), 1, 8) := by kernel_rfl
/-- The world inside serve, that was called in w. -/
structure SW (w : World) (g i : Nat) (sv cv : Value) (most : Int) (s : Gd) (W : World) : Prop where
  co : CourseAt W g sv cv most s
  c2 : W.cell? ⟨w.heap.size, 0, none⟩ = some (.pointer (some ⟨g, 0, none⟩))
  c3 : W.cell? ⟨w.heap.size + 1, 0, none⟩ = some (.int .i64 i)
  c4 : W.heap[w.heap.size + 2]? = some (.cells #[.bool false, .slice none 0 0] 40 (0, 0))
  on : Only g w W
  sz : w.heap.size + 3 ≤ W.heap.size
theorem SW.below {w W W' : World} {g i : Nat} {sv cv : Value} {most : Int} {s : Gd} (h : SW w g i sv cv most s W) (hb : Below W.heap.size W W') : SW w g i sv cv most s W' := by
  have hs := h.sz
  have hg : g < W.heap.size := block_lt_of_cell (a := ⟨g, 0, none⟩) (h.co.cell (i := 0) (by decide))
  exact ⟨(hb.block g hg).trans h.co, keepB hb h.c2, keepB hb h.c3, (hb.block _ (by omega)).trans h.c4, h.on.trans (Only.of_below hb), by have := hb.size; omega⟩
theorem SW.set {w W : World} {g i : Nat} {sv cv : Value} {most : Int} {s s' : Gd} (h : SW w g i sv cv most s W) (hg : g < w.heap.size) (k : Nat) (v : Value) (hs : ∀ j, j < 133 → updV (courseF sv cv most s) k v j = courseF sv cv most s' j) :
    SW w g i sv cv most s' (W.setCell ⟨g, k, none⟩ v) := by
  have e : ∀ (p : Addr) u, p.block ≠ g → W.cell? p = some u → (W.setCell ⟨g, k, none⟩ v).cell? p = some u := fun p u hp hc => by
    unfold World.cell? at *
    rw [heap_setCell_other W ⟨g, k, none⟩ p.block v hp]; exact hc
  exact ⟨h.co.set k v hs, e _ _ (by show w.heap.size ≠ g; omega) h.c2, e _ _ (by show w.heap.size + 1 ≠ g; omega) h.c3, (heap_setCell_other W ⟨g, k, none⟩ _ v (by show w.heap.size + 2 ≠ g; omega)).trans h.c4, h.on.setCell, by simp; exact h.sz⟩
/-- A row that does not lie in g is as it was. -/
theorem IsK.only {k : IntKind} {w W : World} {a : Option Addr} {len g : Nat} {Z : Nat → Int} (h : IsK k w a len Z) (ho : Only g w W) (ha : ∀ b off, a = some ⟨b, off, none⟩ → b ≠ g) : IsK k W a len Z := by
  rcases h with h | ⟨b, off, h1, h2, h3⟩
  · exact Or.inl h
  · exact Or.inr ⟨b, off, h1, h2, fun i hi => ho.cell (ha b off h1) (h3 i hi)⟩
theorem Only.thenB {g : Nat} {a b c : World} (h : Only g a b) (k : Below a.heap.size b c) : Only g a c :=
  ⟨k.os.trans h.os, k.tape.trans h.tape, k.output.trans h.output, Nat.le_trans h.size k.size, fun i hi hg => (k.block i hi).trans (h.block i hi hg)⟩
theorem serve_size : (Try.prog.info? 40).map (·.size) = some 2 := by kernel_rfl
theorem serve_some : (Try.prog.underlying 40).isSome = true := by kernel_rfl
theorem ret_serve {fn : Func} {p : Tmp} (h : fn.results = #[.cell p 40]) {tmps : Array Value} {w : World} {g : Nat} {cs : Array Value}
    (hp : tmps.getD p undef = .pointer (some ⟨g, 0, none⟩)) (hg : w.heap[g]? = some (.cells cs 40)) (hs : cs.size = 2) : (results fn tmps).run Try.prog w = .ok (.agg cs) w := by
  exact results_cell_row h tmps w g 40 cs (0, 0) ((Try.prog.underlying 40).get serve_some) hp hg (Option.some_get _).symm (by kernel_rfl) (by rw [serve_size, hs])
/-- Those that went, as a slice of ints. -/
def OutsAt (B : Nat) (w : World) (v : Value) (l : List Nat) : Prop := ∃ a cap, v = .slice a l.length cap ∧ IsK .i64 w a l.length (fun k => (l.getD k 0 : Nat)) ∧ ∀ b off, a = some ⟨b, off, none⟩ → B ≤ b
theorem OutsAt.nil (B : Nat) (w : World) : OutsAt B w (.slice none 0 0) [] := ⟨none, 0, rfl, Or.inl rfl, fun _ _ h => by cases h⟩
theorem serve_start (g : Nat) {sv cv : Value} {most : Int} {s : Gd} {i : Nat} {w : World} (hc : CourseAt w g sv cv most s) (hg : g < w.heap.size) :
    SW w g i sv cv most s (((w.alloc (.cells #[.pointer (some ⟨g, 0, none⟩)] 66)).alloc (.cells #[.int .i64 i] 3)).alloc (.cells #[.bool false, .slice none 0 0] 40)) := by
  have e1 : (w.alloc (.cells #[.pointer (some ⟨g, 0, none⟩)] 66)).heap.size = w.heap.size + 1 := by simp
  have e2 : ((w.alloc (.cells #[.pointer (some ⟨g, 0, none⟩)] 66)).alloc (.cells #[.int .i64 i] 3)).heap.size = w.heap.size + 2 := by simp
  refine ⟨?_, ?_, ?_, ?_, Only.of_below ?_, ?_⟩
  · unfold CourseAt
    rw [heap_alloc_old _ _ (by rw [e2]; omega), heap_alloc_old _ _ (by rw [e1]; omega), heap_alloc_old _ _ hg]; exact hc
  · refine keepA _ (keepA _ ?_)
    exact cell_of_row _ _ _ _ _ _ (heap_alloc_new w _)
  · refine keepA _ ?_
    have h := heap_alloc_new (w.alloc (.cells #[.pointer (some ⟨g, 0, none⟩)] 66)) (.cells #[.int .i64 i] 3)
    rw [e1] at h
    exact cell_of_row _ _ _ _ _ _ h
  · have h := heap_alloc_new ((w.alloc (.cells #[.pointer (some ⟨g, 0, none⟩)] 66)).alloc (.cells #[.int .i64 i] 3)) (.cells #[.bool false, .slice none 0 0] 40)
    rw [e2] at h
    exact h
  · exact (((Below.refl _ _).alloc (Nat.le_refl _) _).alloc (by simp) _).alloc (by simp; omega) _
  · simp
theorem hmf (fn : Fn) (first cap : Array Value) (w : World) : (Instr.makeFunc fn first cap).run Try.prog w = .ok (.func fn first cap) w := rfl
theorem gds_serve_hit (g : Nat) {sa ca : Option Addr} {n cs cc i : Nat} {Z C : Nat → Int} {most : Int} {s : Gd} (hZ : InK .i64 Z) (hC : InK .i64 C) (hi : i < n) (hn : n ≤ 64) (hI : InvG Z n most s) (hin : s.inn i = true) (w : World)
    (iZ : IsK .i64 w sa n Z) (iC : IsK .i64 w ca n C) (hc : CourseAt w g (.slice sa n cs) (.slice ca n cc) most s) :
    Calls Try.prog 22 #[.pointer (some ⟨g, 0, none⟩), .int .i64 i] w fun e w' => e = .returned (.agg #[.bool true, .slice none 0 0]) ∧ CourseAt w' g (.slice sa n cs) (.slice ca n cc) most (rankG Z C s i) ∧ Only g w w' := by
  have hg : g < w.heap.size := block_lt_of_cell (a := ⟨g, 0, none⟩) (hc.cell (i := 0) (by decide))
  have hs0 := serve_start (i := i) g hc hg
  have hi64 : (i : Int) < 64 := by omega
  have mf := hmf
  have HS0 := Lib.hid hs0
  clear hs0
  go_enter Try.func22, Try.ntmps22
  go_wp2_with fail
  refine forget (fun W => SW w g i (.slice sa n cs) (.slice ca n cc) most s W ∧ Below w.heap.size w W) ?_ ?_
  · exact ⟨HS0.out, (((Below.refl _ _).alloc (Nat.le_refl _) _).alloc (by simp) _).alloc (by simp; omega) _⟩
  rintro W ⟨hW, hB⟩
  clear HS0
  have p2 := Under.cell hW.c2
  have p3 := Under.cell hW.c3
  have pin := Under.cell (hW.co.inn (i := i) (by omega))
  rw [hin] at pin
  have HW := Lib.hid hW
  have iZ' := iZ.below hB
  have iC' := iC.below hB
  clear hW
  go_step3
  go_wp2_with fail
  (refine region_under (by kernel_rfl) (by kernel_rfl) ?_; (repeat (first | go_big_quiet_step ((fail)) | quiet_step ((fail)))); refine wpQuiet_nil ?_; intro _ hw'; obtain ⟨x, hw''⟩ := hw'; subst hw''; go_wp2_with fail)
  have hx := HW.out.below x.2
  refine (gds_rank g _ _ hZ hC hi hi (by omega) hI.lv.1 hI.lv.2 _ (iZ'.below x.2) (iC'.below x.2) hx.co hx.c2 hx.c3).mono ?_
  rintro e w1 ⟨rfl, hc1, ho1⟩
  have hg4 : w1.heap[w.heap.size + 2]? = some (.cells #[.bool false, .slice none 0 0] 40 (0, 0)) := (ho1.block _ (by have := hx.sz; omega) (by omega)).trans hx.c4
  have hOn := hx.on.trans ho1
  have HC1 := Lib.hid hc1
  have hg5 : w1.heap[w.heap.size + 1 + 1]? = some (.cells #[.bool false, .slice none 0 0] 40 (0, 0)) := hg4
  have d0 : w1.cell? ⟨w.heap.size + 1 + 1, 0, none⟩ = some (.bool false) := cell_of_row w1 _ 0 _ _ _ hg5
  have d1 : w1.cell? ⟨w.heap.size + 1 + 1, 1, none⟩ = some (.slice none 0 0) := cell_of_row w1 _ 1 _ _ _ hg5
  have f0 : w1.frozen? ⟨w.heap.size + 1 + 1, 0, none⟩ = false := frozen_of_row w1 _ _ _ _ hg5
  have f1 : w1.frozen? ⟨w.heap.size + 1 + 1, 1, none⟩ = false := frozen_of_row w1 _ _ _ _ hg5
  clear hx p2 p3 pin hc1 ho1
  go_wp2_with fail
  have r1 := heap_setCell_same w1 (w.heap.size + 1 + 1) 0 _ _ (.bool true) hg5
  have r2 := heap_setCell_same _ (w.heap.size + 1 + 1) 1 _ _ (.slice none 0 0) r1
  have hr : ∀ (tmps : Array Value) (w : World) (g : Nat) (cs : Array Value), tmps.getD 4 undef = .pointer (some ⟨g, 0, none⟩) → w.heap[g]? = some (.cells cs 40 (0, 0)) → cs.size = 2 → (results Try.f22 tmps).run Try.prog w = .ok (.agg cs) w := fun _ _ _ _ => ret_serve (by kernel_rfl)
  rw [Exit.noGoto_ret]
  go_at_K
  refine bodyPost_ret (hr _ _ (w.heap.size + 1 + 1) #[.bool true, .slice none 0 0] rfl r2 rfl) rfl ?_
  have hn2 : w.heap.size + 1 + 1 ≠ g := by omega
  have hs : w.heap.size + 3 ≤ w1.heap.size := by have := block_lt_of_cell d0; have e : (⟨w.heap.size + 1 + 1, 0, none⟩ : Addr).block = w.heap.size + 2 := rfl; omega
  refine ⟨rfl, ?_, ?_⟩
  · have hc := HC1.out
    unfold CourseAt at *
    rw [heap_setCell_other _ ⟨w.heap.size + 1 + 1, 1, none⟩ g _ (fun h => hn2 h.symm), heap_setCell_other _ ⟨w.heap.size + 1 + 1, 0, none⟩ g _ (fun h => hn2 h.symm)]
    exact hc
  · exact hOn.thenB (((Below.refl _ _).setCell (by show _ ≤ w.heap.size + 1 + 1; omega) _).setCell (by show _ ≤ w.heap.size + 1 + 1; omega) _)
end Go.Proofs.Ytlhjacgocggbcaa
