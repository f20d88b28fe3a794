/- The walks of the document's more, Hit, Out, Fade. -/
import Derived.Test.YtmehejdgdjaipaaLhdF
set_option linter.unusedVariables false
set_option maxRecDepth 100000
set_option maxHeartbeats 400000
namespace Go.Proofs.Ytmehejdgdjaipaa
open Go.RowKit Go.Shelf
attribute [local go_sem ↓] lt_alloc

/-- One more at a, of eight. -/
def moreA (Z : Nat → Int) (a : Int) : Nat → Int := if 0 ≤ a ∧ a < 8 then upd Z a.toNat (addS (Z a.toNat) 1) else Z
def moreTo (Z : Nat → Int) (a : Int) (k i : Nat) : Int := if i < k ∧ (i : Int) = a then addS (Z i) 1 else Z i
theorem moreTo_at (Z : Nat → Int) (a : Int) (k : Nat) : moreTo Z a k k = Z k := by unfold moreTo; rw [if_neg (by omega)]
theorem moreTo_yes (Z : Nat → Int) (k : Nat) : upd (moreTo Z (k : Int) k) k (addS (Z k) 1) = moreTo Z (k : Int) (k + 1) := by
  funext i; unfold upd moreTo
  by_cases h : i = k
  · subst h; rw [if_pos rfl, if_pos ⟨by omega, rfl⟩]
  · rw [if_neg h, if_neg (by omega), if_neg (by omega)]
theorem moreTo_no (Z : Nat → Int) {a : Int} {k : Nat} (h : ¬ (k : Int) = a) : moreTo Z a k = moreTo Z a (k + 1) := by
  funext i; unfold moreTo
  by_cases h1 : i < k ∧ (i : Int) = a
  · rw [if_pos h1, if_pos ⟨by omega, h1.2⟩]
  · rw [if_neg h1, if_neg (fun h2 => by
      rcases Nat.lt_succ_iff_lt_or_eq.1 h2.1 with h3 | h3
      · exact h1 ⟨h3, h2.2⟩
      · subst h3; exact h h2.2)]
theorem moreTo_end (Z : Nat → Int) (a : Int) : rowC (moreTo Z a 8) 8 = rowC (moreA Z a) 8 := rowC_congr fun i hi => by
  unfold moreTo moreA
  by_cases ha : 0 ≤ a ∧ a < 8
  · rw [if_pos ha]; unfold upd
    by_cases h : (i : Int) = a
    · have e : a.toNat = i := by omega
      rw [if_pos ⟨hi, h⟩, e, if_pos rfl]
    · rw [if_neg (fun h' => h h'.2), if_neg (by omega)]
  · rw [if_neg ha, if_neg (by omega)]
theorem moreTo_zero (Z : Nat → Int) (a : Int) : moreTo Z a 0 = Z := by funext i; unfold moreTo; rw [if_neg (by omega)]
theorem ref19_more (Z : Nat → Int) (a : Int) (hZ : ∀ i, 0 ≤ Z i ∧ Z i < 18446744073709551616) (w : World) :
    Calls Try.prog 28 #[.agg (rowC Z 8), .int .i64 a] w fun e w' => e = .returned (.agg (rowC (moreA Z a) 8)) ∧ Below w.heap.size w w' := by
  have h0 : rowC Z 8 = rowC (moreTo Z a 0) 8 := by rw [moreTo_zero]
  have h8 := moreTo_end Z a
  have hs8 : (rowC (moreA Z a) 8).size = 8 := rowC_size _ 8
  have h18 : (rowC (moreA Z a) 8).all (·.oneCell') = true := rowC_one _ 8
  have H0 := Lib.hid h0
  have H8 := Lib.hid h8
  have HZ := Lib.hid hZ
  clear h0 h8 hZ
  generalize rowC (moreA Z a) 8 = E at *
  generalize rowC Z 8 = C at *
  go_enter Try.func28, Try.ntmps28
  go_wp2_with fail
  go_loopw [5] (fun iv wr => ∃ k : Nat, k ≤ 8 ∧ iv = .int .i64 k ∧ Hid (wr.heap[w.heap.size]? = some (.cells (rowC (moreTo Z a k) 8) 23 (0, 0))) ∧ Hid (∃ A, wr.heap[w.heap.size + 1]? = some (.cells A 23 (0, 0)) ∧ A.size = 8) ∧ Below w.heap.size w wr) (fun iv _ => 8 - (intOf iv).toNat)
  case atStart =>
    refine ⟨0, by omega, rfl, Lib.hid ?_, Lib.hid ⟨_, heap_alloc2_new w _ _, rfl⟩, ((Below.refl _ _).alloc (Nat.le_refl _) _).alloc (by simp) _⟩
    rw [← H0.out]; exact heap_alloc2_old w _ _
  case round =>
    obtain ⟨k, hk, rfl, hg1, hg2, hB⟩ := hrel
    have hS := hB.size
    by_cases hlt : k < 8
    · have q1 : wr.cell? ⟨w.heap.size, k, none⟩ = some (.int .u64 (Z k)) := (cell_of_row wr _ _ _ _ _ hg1.out).trans ((rowC_get hlt).trans (by rw [moreTo_at]))
      have q2 : wr.frozen? ⟨w.heap.size, k, none⟩ = false := frozen_of_row wr _ _ _ _ hg1.out
      obtain ⟨z0, z1⟩ := HZ.out k
      by_cases hka : (k : Int) = a
      · subst hka
        have ka := fun w => ref_Add (Z k) 1 z0 (by decide) (by decide) w
        have HM := Lib.hid (moreTo_yes Z k)
        generalize addS (Z k) 1 = v at *
        go_wp2_with fail
        refine (ka _).mono ?_
        rintro _ W ⟨rfl, hw⟩
        subst hw
        go_wp2_with fail
        refine ⟨⟨k + 1, by omega, by go_num, Lib.hid ?_, Lib.hid ?_, hB.setCell (Nat.le_refl _) _⟩, by simp [intOf]; omega⟩
        · have e := heap_setCell_same wr w.heap.size k _ _ (.int .u64 v) hg1.out
          rw [rowC_upd, HM.out] at e
          exact e
        · obtain ⟨A, hA, hA8⟩ := hg2.out
          exact ⟨A, (heap_setCell_other wr ⟨w.heap.size, k, none⟩ (w.heap.size + 1) _ (by simp)).trans hA, hA8⟩
      · have hg1' := hg1.out
        rw [moreTo_no Z hka] at hg1'
        have HG := Lib.hid hg1'
        clear hg1'
        go_wp2_with fail
        exact ⟨⟨k + 1, by omega, by go_num, HG, hg2, hB⟩, by simp [intOf]; omega⟩
    · obtain rfl : k = 8 := by omega
      have hg1' := hg1.out
      rw [H8.out] at hg1'
      obtain ⟨A, hA, hA8⟩ := hg2.out
      go_wp2_with (first
        | (refine wpList_load_row rfl _ _ rfl w.heap.size rfl 23 E (0, 0) ((Try.prog.underlying 23).get arr_some) hg1' (Option.some_get _).symm (by kernel_rfl) (by rw [arr_size, hs8]) ?_)
        | (refine wpList_store_row rfl _ _ _ rfl (w.heap.size + 1) E rfl rfl 23 _ hA (by rw [arr_size, hs8]) (by rw [hs8, hA8]) h18 ?_))
      have hr : ∀ (tmps : Array Value) (w : World) (g : Nat) (cs : Array Value), tmps.getD 4 undef = .pointer (some ⟨g, 0, none⟩) → w.heap[g]? = some (.cells cs 23 (0, 0)) → cs.size = 8 → (results Try.f28 tmps).run Try.prog w = .ok (.agg cs) w := fun _ _ _ _ => ret_arr (by kernel_rfl)
      refine bodyPost_ret (hr _ _ (w.heap.size + 1) E rfl (setRow_heap _ _ _ _ _ _ hA) hs8) rfl ?_
      exact ⟨rfl, below_setRow hB (by omega)⟩
theorem join_hit (R : Nat → Int) (a : Int) : rankC (joinR (moreA R a) (evR R)) = rankC (moreR R a 0) := rowC_congr fun i hi => by
  unfold joinR moreA moreR evR upd
  by_cases ha : 0 ≤ a ∧ a < 8
  · rw [if_pos ha, if_pos ha]
    by_cases h : i < 8
    · rw [if_pos h]; rfl
    · rw [if_neg h, if_neg (by omega), Nat.sub_add_cancel (by omega)]
  · rw [if_neg ha, if_neg ha]
    by_cases h : i < 8
    · rw [if_pos h]
    · rw [if_neg h, Nat.sub_add_cancel (by omega)]
theorem join_out (R : Nat → Int) (a : Int) : rankC (joinR R (moreA (evR R) a)) = rankC (moreR R a 8) := rowC_congr fun i hi => by
  unfold joinR moreA moreR evR upd
  by_cases ha : 0 ≤ a ∧ a < 8
  · rw [if_pos ha, if_pos ha]
    by_cases h : i < 8
    · rw [if_pos h, if_neg (by omega)]
    · rw [if_neg h]
      by_cases h2 : i = a.toNat + 8
      · rw [if_pos (by omega), if_pos h2]
      · rw [if_neg (by omega), if_neg h2]; show R (i - 8 + 8) = R i; rw [Nat.sub_add_cancel (by omega)]
  · rw [if_neg ha, if_neg ha]
    by_cases h : i < 8
    · rw [if_pos h]
    · rw [if_neg h, Nat.sub_add_cancel (by omega)]
theorem ref19_Hit (R : Nat → Int) (a : Int) (hR : IsR R) (w : World) : 
    Calls Try.prog 16 #[rankV R, .int .i64 a] w fun e w' => e = .returned (rankV (moreR R a 0)) ∧ Below w.heap.size w w' := by
  have k1 := fun w => ref19_more R a hR w
  have hb : Try.prog.built 25 [(0, .agg (rowC (moreA R a) 8)), (1, .agg (rowC (evR R) 8))] = some (rankC (moreR R a 0)) := by
    rw [← join_hit]; kernel_rfl
  have hs : (rankC (moreR R a 0)).size = 16 := rowC_size _ 16
  have h1 : (rankC (moreR R a 0)).all (·.oneCell') = true := rowC_one _ 16
  have ll : ∀ (x : World) (g : Nat), x.heap[g]? = some (.cells (rankC R) 25 (0, 0)) → (loadVar 23 ⟨g, 0, none⟩).run Try.prog x = .ok (.agg (rowC R 8)) x := fun _ _ => load_lo
  have lh : ∀ (x : World) (g : Nat), x.heap[g]? = some (.cells (rankC R) 25 (0, 0)) → (loadVar 23 ⟨g, 8, none⟩).run Try.prog x = .ok (.agg (rowC (evR R) 8)) x := fun _ _ => load_hi
  unfold rankV
  generalize rankC (moreR R a 0) = E at *
  generalize rowC (moreA R a) 8 = D1 at *
  generalize rowC R 8 = C1 at *
  generalize rowC (evR R) 8 = C2 at *
  generalize rankC R = C at *
  go_enter Try.func16, Try.ntmps16
  go_wp2_with fail
  refine forget (fun W => W.heap[w.heap.size]? = some (.cells C 25 (0, 0)) ∧ (∃ Z, W.heap[w.heap.size + 1]? = some (.cells Z 25 (0, 0)) ∧ Z.size = 16) ∧ Below w.heap.size w W ∧ w.heap.size + 2 = W.heap.size) ?_ ?_
  · exact ⟨heap_alloc2_old w _ _, ⟨_, heap_alloc2_new w _ _, rfl⟩, ((Below.refl _ _).alloc (Nat.le_refl _) _).alloc (by simp) _, by simp⟩
  rintro W ⟨hg1, ⟨Z, hg2, hZ⟩, hB, hS⟩
  have u1 : ∀ x : Under W, x.w.heap[w.heap.size]? = some (.cells C 25 (0, 0)) := fun x => (x.2.block _ (by omega)).trans hg1
  have u2 : ∀ x : Under W, x.w.heap[w.heap.size + 1]? = some (.cells Z 25 (0, 0)) := fun x => (x.2.block _ (by omega)).trans hg2
  have l1 : ∀ w', (∃ x : Under W, w' = x.w) → (loadVar 23 ⟨w.heap.size, 0, none⟩).run Try.prog w' = .ok (.agg C1) w' := by rintro _ ⟨x, rfl⟩; exact ll _ _ (u1 x)
  have l2 : ∀ w', (∃ x : Under W, w' = x.w) → (loadVar 23 ⟨w.heap.size, 8, none⟩).run Try.prog w' = .ok (.agg C2) w' := by rintro _ ⟨x, rfl⟩; exact lh _ _ (u1 x)
  clear ll lh
  (refine region_tail 6 (by kernel_rfl) (by kernel_rfl) ?_; simp only [List.take_succ_cons, List.take_zero, List.drop_succ_cons, List.drop_zero]; (repeat (first | (refine quiet_load_row rfl _ _ rfl w.heap.size 0 rfl C1 l1 _ rfl ?_; simp only [Act.put, List.setIfInBounds_toArray, List.set_cons_succ, List.set_cons_zero]) | (refine quiet_load_row rfl _ _ rfl w.heap.size 8 rfl C2 l2 _ rfl ?_; simp only [Act.put, List.setIfInBounds_toArray, List.set_cons_succ, List.set_cons_zero]) | go_big_quiet_step ((go_at_call 28; (with_reducible exact quietU (k1 _)))) | quiet_step ((go_at_call 28; (with_reducible exact quietU (k1 _)))))); refine wpQuiet_nil ?_; intro _ hw'; obtain ⟨x, hw''⟩ := hw'; subst hw'')
  have u3 := u2 x
  refine wpList_build_to rfl _ _ rfl E (Eq.trans (b := Try.prog.built 25 [(0, .agg D1), (1, .agg C2)]) (by kernel_rfl) hb) ?_
  refine wpList_store_row rfl _ _ _ rfl (w.heap.size + 1) E rfl rfl 25 _ u3 (by rw [rank_size, hs]) (by rw [hs, hZ]) h1 ?_
  go_wp2_with fail
  have hr : ∀ (tmps : Array Value) (w : World) (g : Nat) (cs : Array Value), tmps.getD 4 undef = .pointer (some ⟨g, 0, none⟩) → w.heap[g]? = some (.cells cs 25 (0, 0)) → cs.size = 16 → (results Try.f16 tmps).run Try.prog w = .ok (.agg cs) w := fun _ _ _ _ => ret_rank (by kernel_rfl)
  refine bodyPost_ret (hr _ _ (w.heap.size + 1) E rfl (setRow_heap _ _ _ _ _ _ u3) hs) rfl ?_
  exact ⟨rfl, below_setRow (hB.trans (x.2.mono hB.size)) (by omega)⟩
theorem ref19_Out (R : Nat → Int) (a : Int) (hR : IsR R) (w : World) : 
    Calls Try.prog 18 #[rankV R, .int .i64 a] w fun e w' => e = .returned (rankV (moreR R a 8)) ∧ Below w.heap.size w w' := by
  have k1 := fun w => ref19_more (evR R) a (fun i => hR _) w
  have hb : Try.prog.built 25 [(0, .agg (rowC (R) 8)), (1, .agg (rowC (moreA (evR R) a) 8))] = some (rankC (moreR R a 8)) := by
    rw [← join_out]; kernel_rfl
  have hs : (rankC (moreR R a 8)).size = 16 := rowC_size _ 16
  have h1 : (rankC (moreR R a 8)).all (·.oneCell') = true := rowC_one _ 16
  have ll : ∀ (x : World) (g : Nat), x.heap[g]? = some (.cells (rankC R) 25 (0, 0)) → (loadVar 23 ⟨g, 0, none⟩).run Try.prog x = .ok (.agg (rowC R 8)) x := fun _ _ => load_lo
  have lh : ∀ (x : World) (g : Nat), x.heap[g]? = some (.cells (rankC R) 25 (0, 0)) → (loadVar 23 ⟨g, 8, none⟩).run Try.prog x = .ok (.agg (rowC (evR R) 8)) x := fun _ _ => load_hi
  unfold rankV
  generalize rankC (moreR R a 8) = E at *
  generalize rowC (moreA (evR R) a) 8 = D1 at *
  generalize rowC R 8 = C1 at *
  generalize rowC (evR R) 8 = C2 at *
  generalize rankC R = C at *
  go_enter Try.func18, Try.ntmps18
  go_wp2_with fail
  refine forget (fun W => W.heap[w.heap.size]? = some (.cells C 25 (0, 0)) ∧ (∃ Z, W.heap[w.heap.size + 1]? = some (.cells Z 25 (0, 0)) ∧ Z.size = 16) ∧ Below w.heap.size w W ∧ w.heap.size + 2 = W.heap.size) ?_ ?_
  · exact ⟨heap_alloc2_old w _ _, ⟨_, heap_alloc2_new w _ _, rfl⟩, ((Below.refl _ _).alloc (Nat.le_refl _) _).alloc (by simp) _, by simp⟩
  rintro W ⟨hg1, ⟨Z, hg2, hZ⟩, hB, hS⟩
  have u1 : ∀ x : Under W, x.w.heap[w.heap.size]? = some (.cells C 25 (0, 0)) := fun x => (x.2.block _ (by omega)).trans hg1
  have u2 : ∀ x : Under W, x.w.heap[w.heap.size + 1]? = some (.cells Z 25 (0, 0)) := fun x => (x.2.block _ (by omega)).trans hg2
  have l1 : ∀ w', (∃ x : Under W, w' = x.w) → (loadVar 23 ⟨w.heap.size, 0, none⟩).run Try.prog w' = .ok (.agg C1) w' := by rintro _ ⟨x, rfl⟩; exact ll _ _ (u1 x)
  have l2 : ∀ w', (∃ x : Under W, w' = x.w) → (loadVar 23 ⟨w.heap.size, 8, none⟩).run Try.prog w' = .ok (.agg C2) w' := by rintro _ ⟨x, rfl⟩; exact lh _ _ (u1 x)
  clear ll lh
  (refine region_tail 6 (by kernel_rfl) (by kernel_rfl) ?_; simp only [List.take_succ_cons, List.take_zero, List.drop_succ_cons, List.drop_zero]; (repeat (first | (refine quiet_load_row rfl _ _ rfl w.heap.size 0 rfl C1 l1 _ rfl ?_; simp only [Act.put, List.setIfInBounds_toArray, List.set_cons_succ, List.set_cons_zero]) | (refine quiet_load_row rfl _ _ rfl w.heap.size 8 rfl C2 l2 _ rfl ?_; simp only [Act.put, List.setIfInBounds_toArray, List.set_cons_succ, List.set_cons_zero]) | go_big_quiet_step ((go_at_call 28; (with_reducible exact quietU (k1 _)))) | quiet_step ((go_at_call 28; (with_reducible exact quietU (k1 _)))))); refine wpQuiet_nil ?_; intro _ hw'; obtain ⟨x, hw''⟩ := hw'; subst hw'')
  have u3 := u2 x
  refine wpList_build_to rfl _ _ rfl E (Eq.trans (b := Try.prog.built 25 [(0, .agg C1), (1, .agg D1)]) (by kernel_rfl) hb) ?_
  refine wpList_store_row rfl _ _ _ rfl (w.heap.size + 1) E rfl rfl 25 _ u3 (by rw [rank_size, hs]) (by rw [hs, hZ]) h1 ?_
  go_wp2_with fail
  have hr : ∀ (tmps : Array Value) (w : World) (g : Nat) (cs : Array Value), tmps.getD 4 undef = .pointer (some ⟨g, 0, none⟩) → w.heap[g]? = some (.cells cs 25 (0, 0)) → cs.size = 16 → (results Try.f18 tmps).run Try.prog w = .ok (.agg cs) w := fun _ _ _ _ => ret_rank (by kernel_rfl)
  refine bodyPost_ret (hr _ _ (w.heap.size + 1) E rfl (setRow_heap _ _ _ _ _ _ u3) hs) rfl ?_
  exact ⟨rfl, below_setRow (hB.trans (x.2.mono hB.size)) (by omega)⟩
theorem ref19_Fade (R : Nat → Int) (hR : IsR R) (w : World) : 
    Calls Try.prog 20 #[rankV R] w fun e w' => e = .returned (rankV (halfR R)) ∧ Below w.heap.size w w' := by
  have k1 := fun w => ref19_half R hR w
  have k2 := fun w => ref19_half (evR R) (fun i => hR _) w
  have hb : Try.prog.built 25 [(0, .agg (rowC (halfR R) 8)), (1, .agg (rowC (halfR (evR R)) 8))] = some (rankC (halfR R)) := by
    rw [← join_half]; kernel_rfl
  have hs : (rankC (halfR R)).size = 16 := rowC_size _ 16
  have h1 : (rankC (halfR R)).all (·.oneCell') = true := rowC_one _ 16
  have ll : ∀ (x : World) (g : Nat), x.heap[g]? = some (.cells (rankC R) 25 (0, 0)) → (loadVar 23 ⟨g, 0, none⟩).run Try.prog x = .ok (.agg (rowC R 8)) x := fun _ _ => load_lo
  have lh : ∀ (x : World) (g : Nat), x.heap[g]? = some (.cells (rankC R) 25 (0, 0)) → (loadVar 23 ⟨g, 8, none⟩).run Try.prog x = .ok (.agg (rowC (evR R) 8)) x := fun _ _ => load_hi
  unfold rankV
  generalize rankC (halfR R) = E at *
  generalize rowC (halfR R) 8 = D1 at *
  generalize rowC (halfR (evR R)) 8 = D2 at *
  generalize rowC R 8 = C1 at *
  generalize rowC (evR R) 8 = C2 at *
  generalize rankC R = C at *
  go_enter Try.func20, Try.ntmps20
  go_wp2_with fail
  refine forget (fun W => W.heap[w.heap.size]? = some (.cells C 25 (0, 0)) ∧ (∃ Z, W.heap[w.heap.size + 1]? = some (.cells Z 25 (0, 0)) ∧ Z.size = 16) ∧ Below w.heap.size w W ∧ w.heap.size + 2 = W.heap.size) ?_ ?_
  · exact ⟨heap_alloc2_old w _ _, ⟨_, heap_alloc2_new w _ _, rfl⟩, ((Below.refl _ _).alloc (Nat.le_refl _) _).alloc (by simp) _, by simp⟩
  rintro W ⟨hg1, ⟨Z, hg2, hZ⟩, hB, hS⟩
  have u1 : ∀ x : Under W, x.w.heap[w.heap.size]? = some (.cells C 25 (0, 0)) := fun x => (x.2.block _ (by omega)).trans hg1
  have u2 : ∀ x : Under W, x.w.heap[w.heap.size + 1]? = some (.cells Z 25 (0, 0)) := fun x => (x.2.block _ (by omega)).trans hg2
  have l1 : ∀ w', (∃ x : Under W, w' = x.w) → (loadVar 23 ⟨w.heap.size, 0, none⟩).run Try.prog w' = .ok (.agg C1) w' := by rintro _ ⟨x, rfl⟩; exact ll _ _ (u1 x)
  have l2 : ∀ w', (∃ x : Under W, w' = x.w) → (loadVar 23 ⟨w.heap.size, 8, none⟩).run Try.prog w' = .ok (.agg C2) w' := by rintro _ ⟨x, rfl⟩; exact lh _ _ (u1 x)
  clear ll lh
  (refine region_tail 6 (by kernel_rfl) (by kernel_rfl) ?_; simp only [List.take_succ_cons, List.take_zero, List.drop_succ_cons, List.drop_zero]; (repeat (first | (refine quiet_load_row rfl _ _ rfl w.heap.size 0 rfl C1 l1 _ rfl ?_; simp only [Act.put, List.setIfInBounds_toArray, List.set_cons_succ, List.set_cons_zero]) | (refine quiet_load_row rfl _ _ rfl w.heap.size 8 rfl C2 l2 _ rfl ?_; simp only [Act.put, List.setIfInBounds_toArray, List.set_cons_succ, List.set_cons_zero]) | go_big_quiet_step ((go_at_call 30; first | (with_reducible exact quietU (k1 _)) | (with_reducible exact quietU (k2 _)))) | quiet_step ((go_at_call 30; first | (with_reducible exact quietU (k1 _)) | (with_reducible exact quietU (k2 _)))))); refine wpQuiet_nil ?_; intro _ hw'; obtain ⟨x, hw''⟩ := hw'; subst hw'')
  have u3 := u2 x
  refine wpList_build_to rfl _ _ rfl E (Eq.trans (b := Try.prog.built 25 [(0, .agg D1), (1, .agg D2)]) (by kernel_rfl) hb) ?_
  refine wpList_store_row rfl _ _ _ rfl (w.heap.size + 1) E rfl rfl 25 _ u3 (by rw [rank_size, hs]) (by rw [hs, hZ]) h1 ?_
  go_wp2_with fail
  have hr : ∀ (tmps : Array Value) (w : World) (g : Nat) (cs : Array Value), tmps.getD 2 undef = .pointer (some ⟨g, 0, none⟩) → w.heap[g]? = some (.cells cs 25 (0, 0)) → cs.size = 16 → (results Try.f20 tmps).run Try.prog w = .ok (.agg cs) w := fun _ _ _ _ => ret_rank (by kernel_rfl)
  refine bodyPost_ret (hr _ _ (w.heap.size + 1) E rfl (setRow_heap _ _ _ _ _ _ u3) hs) rfl ?_
  exact ⟨rfl, below_setRow (hB.trans (x.2.mono hB.size)) (by omega)⟩
end Go.Proofs.Ytmehejdgdjaipaa
