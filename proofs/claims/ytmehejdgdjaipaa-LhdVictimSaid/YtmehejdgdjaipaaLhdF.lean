/- The walks of lhd.Fade and the document's more, half, Hit, Out, Fade. -/
import Derived.Test.YtmehejdgdjaipaaLhdC
import Derived.Test.YtmehejdgdjaipaaWordR
import Derived.Deep.LoopGhost
import Derived.Test.YtmehejdgdjaipaaQTail
set_option linter.unusedVariables false
set_option maxRecDepth 100000
set_option maxHeartbeats 400000
namespace Go.Proofs.Ytmehejdgdjaipaa
open Go.RowKit Go.Shelf
attribute [local go_sem ↓] lt_alloc

theorem arr_size : (Try.prog.info? 23).map (·.size) = some 8 := by kernel_rfl
theorem arr_some : (Try.prog.underlying 23).isSome = true := by kernel_rfl
theorem ret_arr {fn : Func} {p : Tmp} (h : fn.results = #[.cell p 23]) {tmps : Array Value} {w : World} {g : Nat} {cs : Array Value}
    (hp : tmps.getD p undef = .pointer (some ⟨g, 0, none⟩)) (hg : w.heap[g]? = some (.cells cs 23)) (hs : cs.size = 8) : (results fn tmps).run Try.prog w = .ok (.agg cs) w := by
  exact results_cell_row h tmps w g 23 cs (0, 0) ((Try.prog.underlying 23).get arr_some) hp hg (Option.some_get _).symm (by kernel_rfl) (by rw [arr_size, hs])
/-- The first k halved. -/
def halfTo (Z : Nat → Int) (k i : Nat) : Int := if i < k then Z i / 2 else Z i
theorem halfTo_step (Z : Nat → Int) (k : Nat) : upd (halfTo Z k) k (Z k / 2) = halfTo Z (k + 1) := by
  funext i; unfold upd halfTo
  by_cases h : i = k
  · subst h; rw [if_pos rfl, if_pos (by omega)]
  · rw [if_neg h]; by_cases h2 : i < k
    · rw [if_pos h2, if_pos (by omega)]
    · rw [if_neg h2, if_neg (by omega)]
theorem halfTo_at (Z : Nat → Int) (k : Nat) : halfTo Z k k = Z k := by unfold halfTo; rw [if_neg (by omega)]
theorem fade1 (Z : Nat → Int) (hZ : ∀ i, 0 ≤ Z i ∧ Z i < 18446744073709551616) (w : World) :
    Calls Try.prog 29 #[.agg (rowC Z 8)] w fun e w' => e = .returned (.agg (rowC (halfR Z) 8)) ∧ Below w.heap.size w w' := by
  have h0 : rowC Z 8 = rowC (halfTo Z 0) 8 := rfl
  have h8 : rowC (halfTo Z 8) 8 = rowC (halfR Z) 8 := rowC_congr fun i hi => by unfold halfTo; rw [if_pos hi]; rfl
  have hs8 : (rowC (halfR Z) 8).size = 8 := rowC_size _ 8
  have h18 : (rowC (halfR Z) 8).all (·.oneCell') = true := rowC_one _ 8
  have H0 := Lib.hid h0
  have H8 := Lib.hid h8
  have HZ := Lib.hid hZ
  clear h0 h8 hZ
  generalize rowC (halfR Z) 8 = E at *
  generalize rowC Z 8 = C at *
  go_enter Try.func29, Try.ntmps29
  go_wp2_with fail
  go_loopw [4] (fun iv wr => ∃ k : Nat, k ≤ 8 ∧ iv = .int .i64 k ∧ Hid (wr.heap[w.heap.size]? = some (.cells (rowC (halfTo Z k) 8) 23 (0, 0))) ∧ Hid (∃ A, wr.heap[w.heap.size + 1]? = some (.cells A 23 (0, 0)) ∧ A.size = 8) ∧ Below w.heap.size w wr) (fun iv _ => 8 - (intOf iv).toNat)
  case atStart =>
    refine ⟨0, by omega, rfl, Lib.hid ?_, Lib.hid ⟨_, heap_alloc2_new w _ _, rfl⟩, ((Below.refl _ _).alloc (Nat.le_refl _) _).alloc (by simp) _⟩
    rw [← H0.out]; exact heap_alloc2_old w _ _
  case round =>
    obtain ⟨k, hk, rfl, hg1, hg2, hB⟩ := hrel
    have hS := hB.size
    by_cases hlt : k < 8
    · have q1 : wr.cell? ⟨w.heap.size, k, none⟩ = some (.int .u64 (Z k)) := (cell_of_row wr _ _ _ _ _ hg1.out).trans ((rowC_get hlt).trans (by rw [halfTo_at]))
      have q2 : wr.frozen? ⟨w.heap.size, k, none⟩ = false := frozen_of_row wr _ _ _ _ hg1.out
      obtain ⟨z0, z1⟩ := HZ.out k
      go_wp2_with fail
      refine ⟨⟨k + 1, by omega, by go_num, Lib.hid ?_, Lib.hid ?_, hB.setCell (Nat.le_refl _) _⟩, by simp [intOf]; omega⟩
      · have e := heap_setCell_same wr w.heap.size k _ _ (.int .u64 (Z k / 2)) hg1.out
        rw [rowC_upd, halfTo_step] at e
        exact e
      · obtain ⟨A, hA, hA8⟩ := hg2.out
        exact ⟨A, (heap_setCell_other wr ⟨w.heap.size, k, none⟩ (w.heap.size + 1) _ (by simp)).trans hA, hA8⟩
    · obtain rfl : k = 8 := by omega
      have hg1' := hg1.out
      rw [H8.out] at hg1'
      obtain ⟨A, hA, hA8⟩ := hg2.out
      go_wp2_with (first
        | (refine wpList_load_row rfl _ _ rfl w.heap.size rfl 23 E (0, 0) ((Try.prog.underlying 23).get arr_some) hg1' (Option.some_get _).symm (by kernel_rfl) (by rw [arr_size, hs8]) ?_)
        | (refine wpList_store_row rfl _ _ _ rfl (w.heap.size + 1) E rfl rfl 23 _ hA (by rw [arr_size, hs8]) (by rw [hs8, hA8]) h18 ?_))
      have hr : ∀ (tmps : Array Value) (w : World) (g : Nat) (cs : Array Value), tmps.getD 2 undef = .pointer (some ⟨g, 0, none⟩) → w.heap[g]? = some (.cells cs 23 (0, 0)) → cs.size = 8 → (results Try.f29 tmps).run Try.prog w = .ok (.agg cs) w := fun _ _ _ _ => ret_arr (by kernel_rfl)
      refine bodyPost_ret (hr _ _ (w.heap.size + 1) E rfl (setRow_heap _ _ _ _ _ _ hA) hs8) rfl ?_
      exact ⟨rfl, below_setRow hB (by omega)⟩
theorem ref19_half (Z : Nat → Int) (hZ : ∀ i, 0 ≤ Z i ∧ Z i < 18446744073709551616) (w : World) :
    Calls Try.prog 30 #[.agg (rowC Z 8)] w fun e w' => e = .returned (.agg (rowC (halfR Z) 8)) ∧ Below w.heap.size w w' := by
  have h0 : rowC Z 8 = rowC (halfTo Z 0) 8 := rfl
  have h8 : rowC (halfTo Z 8) 8 = rowC (halfR Z) 8 := rowC_congr fun i hi => by unfold halfTo; rw [if_pos hi]; rfl
  have hs8 : (rowC (halfR Z) 8).size = 8 := rowC_size _ 8
  have h18 : (rowC (halfR Z) 8).all (·.oneCell') = true := rowC_one _ 8
  have H0 := Lib.hid h0
  have H8 := Lib.hid h8
  have HZ := Lib.hid hZ
  clear h0 h8 hZ
  generalize rowC (halfR Z) 8 = E at *
  generalize rowC Z 8 = C at *
  go_enter Try.func30, Try.ntmps30
  go_wp2_with fail
  go_loopw [3] (fun iv wr => ∃ k : Nat, k ≤ 8 ∧ iv = .int .i64 k ∧ Hid (wr.heap[w.heap.size]? = some (.cells (rowC (halfTo Z k) 8) 23 (0, 0))) ∧ Hid (∃ A, wr.heap[w.heap.size + 1]? = some (.cells A 23 (0, 0)) ∧ A.size = 8) ∧ Below w.heap.size w wr) (fun iv _ => 8 - (intOf iv).toNat)
  case atStart =>
    refine ⟨0, by omega, rfl, Lib.hid ?_, Lib.hid ⟨_, heap_alloc2_new w _ _, rfl⟩, ((Below.refl _ _).alloc (Nat.le_refl _) _).alloc (by simp) _⟩
    rw [← H0.out]; exact heap_alloc2_old w _ _
  case round =>
    obtain ⟨k, hk, rfl, hg1, hg2, hB⟩ := hrel
    have hS := hB.size
    by_cases hlt : k < 8
    · have q1 : wr.cell? ⟨w.heap.size, k, none⟩ = some (.int .u64 (Z k)) := (cell_of_row wr _ _ _ _ _ hg1.out).trans ((rowC_get hlt).trans (by rw [halfTo_at]))
      have q2 : wr.frozen? ⟨w.heap.size, k, none⟩ = false := frozen_of_row wr _ _ _ _ hg1.out
      obtain ⟨z0, z1⟩ := HZ.out k
      go_wp2_with fail
      refine ⟨⟨k + 1, by omega, by go_num, Lib.hid ?_, Lib.hid ?_, hB.setCell (Nat.le_refl _) _⟩, by simp [intOf]; omega⟩
      · have e := heap_setCell_same wr w.heap.size k _ _ (.int .u64 (Z k / 2)) hg1.out
        rw [rowC_upd, halfTo_step] at e
        exact e
      · obtain ⟨A, hA, hA8⟩ := hg2.out
        exact ⟨A, (heap_setCell_other wr ⟨w.heap.size, k, none⟩ (w.heap.size + 1) _ (by simp)).trans hA, hA8⟩
    · obtain rfl : k = 8 := by omega
      have hg1' := hg1.out
      rw [H8.out] at hg1'
      obtain ⟨A, hA, hA8⟩ := hg2.out
      go_wp2_with (first
        | (refine wpList_load_row rfl _ _ rfl w.heap.size rfl 23 E (0, 0) ((Try.prog.underlying 23).get arr_some) hg1' (Option.some_get _).symm (by kernel_rfl) (by rw [arr_size, hs8]) ?_)
        | (refine wpList_store_row rfl _ _ _ rfl (w.heap.size + 1) E rfl rfl 23 _ hA (by rw [arr_size, hs8]) (by rw [hs8, hA8]) h18 ?_))
      have hr : ∀ (tmps : Array Value) (w : World) (g : Nat) (cs : Array Value), tmps.getD 2 undef = .pointer (some ⟨g, 0, none⟩) → w.heap[g]? = some (.cells cs 23 (0, 0)) → cs.size = 8 → (results Try.f30 tmps).run Try.prog w = .ok (.agg cs) w := fun _ _ _ _ => ret_arr (by kernel_rfl)
      refine bodyPost_ret (hr _ _ (w.heap.size + 1) E rfl (setRow_heap _ _ _ _ _ _ hA) hs8) rfl ?_
      exact ⟨rfl, below_setRow hB (by omega)⟩
theorem wpList_build_to {P : Program} {ops : Array Oper} {rest : List Oper} {o : Oper} {a : Act} {w : World} {Q : Exit → Act → World → Prop} (hg : o.guard = none) (t : TypeId) (parts : Array (Nat × Operand)) (ho : o.op = .build t parts)
    (cells : Array Value) (hc : P.built t (parts.map fun (i, x) => (i, a.eval x)).toList = some cells)
    (h : wpList P ops Q rest (a.put o.dst (.agg cells)) w) : wpList P ops Q (o :: rest) a w :=
  wpList_build hg t parts ho (by rw [hc]; rfl) (by rw [hc]; exact h)
/-- The first eight of one, and of another one. -/
def joinR (H E : Nat → Int) (i : Nat) : Int := if i < 8 then H i else E (i - 8)
def evR (R : Nat → Int) (i : Nat) : Int := R (i + 8)
theorem part_lo (R : Nat → Int) : ∀ j v, (rowC R 8)[j]? = some v → (rankC R)[0 + j]? = some v := fun j v h => by
  have hj : j < 8 := by
    have := (Array.getElem?_eq_some_iff.1 h).1
    rwa [rowC_size] at this
  rw [rowC_get hj] at h
  rw [← h, Nat.zero_add]; exact rowC_get (by omega)
theorem part_hi (R : Nat → Int) : ∀ j v, (rowC (evR R) 8)[j]? = some v → (rankC R)[8 + j]? = some v := fun j v h => by
  have hj : j < 8 := by
    have := (Array.getElem?_eq_some_iff.1 h).1
    rwa [rowC_size] at this
  rw [rowC_get hj] at h
  rw [← h]
  exact (rowC_get (n := 16) (by omega)).trans (by unfold evR; rw [Nat.add_comm])
theorem arr_desc : ((Try.prog.underlying 23).get arr_some).isRow = true := by kernel_rfl
theorem load_lo {x : World} {g : Nat} {R : Nat → Int} (h : x.heap[g]? = some (.cells (rankC R) 25 (0, 0))) : (loadVar 23 ⟨g, 0, none⟩).run Try.prog x = .ok (.agg (rowC R 8)) x :=
  load_part (rowC R 8) h (part_lo R) (Option.some_get _).symm arr_desc (by rw [arr_size, rowC_size])
theorem load_hi {x : World} {g : Nat} {R : Nat → Int} (h : x.heap[g]? = some (.cells (rankC R) 25 (0, 0))) : (loadVar 23 ⟨g, 8, none⟩).run Try.prog x = .ok (.agg (rowC (evR R) 8)) x :=
  load_part (rowC (evR R) 8) h (part_hi R) (Option.some_get _).symm arr_desc (by rw [arr_size, rowC_size])
theorem join_half (R : Nat → Int) : rankC (joinR (halfR R) (halfR (evR R))) = rankC (halfR R) := rowC_congr fun i hi => by
  unfold joinR halfR evR; split
  · rfl
  · rw [Nat.sub_add_cancel (by omega)]
theorem lhd_Fade (R : Nat → Int) (hR : IsR R) (w : World) :
    Calls Try.prog 19 #[rankV R] w fun e w' => e = .returned (rankV (halfR R)) ∧ Below w.heap.size w w' := by
  have k1 := fun w => fade1 R hR w
  have k2 := fun w => fade1 (evR R) (fun i => hR _) w
  have hs : (rankC (halfR R)).size = 16 := rowC_size _ 16
  have h1 : (rankC (halfR R)).all (·.oneCell') = true := rowC_one _ 16
  have hb : Try.prog.built 25 [(0, .agg (rowC (halfR R) 8)), (1, .agg (rowC (halfR (evR R)) 8))] = some (rankC (halfR R)) := by
    rw [← join_half]; kernel_rfl
  have ll : ∀ (x : World) (g : Nat), x.heap[g]? = some (.cells (rankC R) 25 (0, 0)) → (loadVar 23 ⟨g, 0, none⟩).run Try.prog x = .ok (.agg (rowC R 8)) x := fun _ _ => load_lo
  have lh : ∀ (x : World) (g : Nat), x.heap[g]? = some (.cells (rankC R) 25 (0, 0)) → (loadVar 23 ⟨g, 8, none⟩).run Try.prog x = .ok (.agg (rowC (evR R) 8)) x := fun _ _ => load_hi
  unfold rankV
  generalize rankC (halfR R) = E at *
  generalize rowC (halfR R) 8 = D1 at *
  generalize rowC (halfR (evR R)) 8 = D2 at *
  generalize rowC R 8 = C1 at *
  generalize rowC (evR R) 8 = C2 at *
  generalize rankC R = C at *
  go_enter Try.func19, Try.ntmps19
  go_wp2_with fail
  refine forget (fun W => W.heap[w.heap.size]? = some (.cells C 25 (0, 0)) ∧ (∃ Z, W.heap[w.heap.size + 1]? = some (.cells Z 25 (0, 0)) ∧ Z.size = 16) ∧ Below w.heap.size w W ∧ w.heap.size + 2 = W.heap.size) ?_ ?_
  · exact ⟨heap_alloc2_old w _ _, ⟨_, heap_alloc2_new w _ _, rfl⟩, ((Below.refl _ _).alloc (Nat.le_refl _) _).alloc (by simp) _, by simp⟩
  rintro W ⟨hg1, ⟨Z, hg2, hZ⟩, hB, hS⟩
  have u1 : ∀ x : Under W, x.w.heap[w.heap.size]? = some (.cells C 25 (0, 0)) := fun x => (x.2.block _ (by omega)).trans hg1
  have u2 : ∀ x : Under W, x.w.heap[w.heap.size + 1]? = some (.cells Z 25 (0, 0)) := fun x => (x.2.block _ (by omega)).trans hg2
  have l1 : ∀ w', (∃ x : Under W, w' = x.w) → (loadVar 23 ⟨w.heap.size, 0, none⟩).run Try.prog w' = .ok (.agg C1) w' := by rintro _ ⟨x, rfl⟩; exact ll _ _ (u1 x)
  have l2 : ∀ w', (∃ x : Under W, w' = x.w) → (loadVar 23 ⟨w.heap.size, 8, none⟩).run Try.prog w' = .ok (.agg C2) w' := by rintro _ ⟨x, rfl⟩; exact lh _ _ (u1 x)
  clear ll lh
  (refine region_tail 8 (by kernel_rfl) (by kernel_rfl) ?_; simp only [List.take_succ_cons, List.take_zero, List.drop_succ_cons, List.drop_zero]; (repeat (first | (refine quiet_load_row rfl _ _ rfl w.heap.size 0 rfl C1 l1 _ rfl ?_; simp only [Act.put, List.setIfInBounds_toArray, List.set_cons_succ, List.set_cons_zero]) | (refine quiet_load_row rfl _ _ rfl w.heap.size 8 rfl C2 l2 _ rfl ?_; simp only [Act.put, List.setIfInBounds_toArray, List.set_cons_succ, List.set_cons_zero]) | go_big_quiet_step ((go_at_call 29; first | (with_reducible exact quietU (k1 _)) | (with_reducible exact quietU (k2 _)))) | quiet_step ((go_at_call 29; first | (with_reducible exact quietU (k1 _)) | (with_reducible exact quietU (k2 _)))))); refine wpQuiet_nil ?_; intro _ hw'; obtain ⟨x, hw''⟩ := hw'; subst hw'')
  have u3 := u2 x
  refine wpList_build_to rfl _ _ rfl E (Eq.trans (b := Try.prog.built 25 [(0, .agg D1), (1, .agg D2)]) (by kernel_rfl) hb) ?_
  refine wpList_store_row rfl _ _ _ rfl (w.heap.size + 1) E rfl rfl 25 _ u3 (by rw [rank_size, hs]) (by rw [hs, hZ]) h1 ?_
  go_wp2_with fail
  have hr : ∀ (tmps : Array Value) (w : World) (g : Nat) (cs : Array Value), tmps.getD 2 undef = .pointer (some ⟨g, 0, none⟩) → w.heap[g]? = some (.cells cs 25 (0, 0)) → cs.size = 16 → (results Try.f19 tmps).run Try.prog w = .ok (.agg cs) w := fun _ _ _ _ => ret_rank (by kernel_rfl)
  refine bodyPost_ret (hr _ _ (w.heap.size + 1) E rfl (setRow_heap _ _ _ _ _ _ u3) hs) rfl ?_
  exact ⟨rfl, below_setRow (hB.trans (x.2.mono hB.size)) (by omega)⟩
end Go.Proofs.Ytmehejdgdjaipaa
