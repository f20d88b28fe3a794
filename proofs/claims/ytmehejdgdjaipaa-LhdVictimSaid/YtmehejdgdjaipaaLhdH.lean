/- The walk of lhd.Hit. -/
import Derived.Test.YtmehejdgdjaipaaLhdC
set_option linter.unusedVariables false
set_option maxRecDepth 100000
set_option maxHeartbeats 400000
namespace Go.Proofs.Ytmehejdgdjaipaa
open Go.RowKit Go.Shelf
attribute [local go_sem ↓] lt_alloc

theorem lhd_Hit_no (R : Nat → Int) (a : Int) (ha : ¬ (0 ≤ a ∧ a < 8)) (w : World) :
    Calls Try.prog 15 #[rankV R, .int .i64 a] w fun e w' => e = .returned (rankV R) ∧ Below w.heap.size w w' := by
  have hk := fun w => lhd_known a w
  have e1 : knownB a = false := by unfold knownB; simp; omega
  rw [e1] at hk
  have hs : (rankC R).size = 16 := rowC_size R 16
  have h1 : (rankC R).all (·.oneCell') = true := rowC_one R 16
  unfold rankV
  generalize rankC R = C at *
  go_enter Try.func15, Try.ntmps15
  go_wp2_with fail
  refine (hk _).mono ?_
  rintro e _ ⟨rfl, rfl⟩
  go_wp2_with (first
    | (refine wpList_load_row rfl _ _ rfl w.heap.size rfl 25 C (0, 0) ((Try.prog.underlying 25).get rank_some) (heap_alloc2_old w _ _) (Option.some_get _).symm (by kernel_rfl) (by rw [rank_size, hs]) ?_)
    | (refine wpList_store_row rfl _ _ _ rfl (w.heap.size + 1) C rfl rfl 25 _ (heap_alloc2_new w _ _) (by rw [rank_size, hs]) (by rw [hs]; kernel_rfl) h1 ?_))
  have hr : ∀ (tmps : Array Value) (w : World) (g : Nat) (cs : Array Value), tmps.getD 4 undef = .pointer (some ⟨g, 0, none⟩) → w.heap[g]? = some (.cells cs 25 (0, 0)) → cs.size = 16 → (results Try.f15 tmps).run Try.prog w = .ok (.agg cs) w := fun _ _ _ _ => ret_rank (by kernel_rfl)
  refine bodyPost_ret (hr _ _ (w.heap.size + 1) C rfl (setRow_heap _ _ _ _ _ _ (heap_alloc2_new w _ _)) hs) rfl ?_
  exact ⟨rfl, below_setRow (((Below.refl _ _).alloc (Nat.le_refl _) _).alloc (by simp) _) (by omega)⟩
theorem lhd_Hit_yes (R : Nat → Int) (n : Nat) (hn : n < 8) (h : IsR R) (w : World) :
    Calls Try.prog 15 #[rankV R, .int .i64 n] w fun e w' => e = .returned (rankV (upd R n (addS (R n) 1))) ∧ Below w.heap.size w w' := by
  have hk := fun w => lhd_known n w
  have e1 : knownB n = true := by unfold knownB; simp; omega
  rw [e1] at hk
  have ka := fun w => word_Add (R n) 1 (h n).1 (by decide) w
  have hs : (rankC R).size = 16 := rowC_size R 16
  have h1 : (rankC (upd R n (addS (R n) 1))).all (·.oneCell') = true := rowC_one _ 16
  have hs' : (rankC (upd R n (addS (R n) 1))).size = 16 := rowC_size _ 16
  have hcg : (rankC R)[n]? = some (.int .u64 (R n)) := rowC_get (by omega)
  have hu : (rankC R).setIfInBounds n (.int .u64 (addS (R n) 1)) = rankC (upd R n (addS (R n) 1)) := rowC_upd
  unfold rankV
  clear e1
  generalize rankC (upd R n (addS (R n) 1)) = C' at *
  generalize rankC R = C at *
  generalize addS (R n) 1 = v at *
  generalize R n = u at *
  go_enter Try.func15, Try.ntmps15
  go_wp2_with fail
  refine (hk _).mono ?_
  rintro e W ⟨rfl, hw⟩
  have hg1 : W.heap[w.heap.size]? = some (.cells C 25 (0, 0)) := by rw [← hw]; exact heap_alloc2_old w _ _
  obtain ⟨Z, hg2, hZ⟩ : ∃ Z, W.heap[w.heap.size + 1]? = some (.cells Z 25 (0, 0)) ∧ Z.size = 16 := by rw [← hw]; exact ⟨_, heap_alloc2_new w _ _, rfl⟩
  have hB : Below w.heap.size w W := by rw [← hw]; exact ((Below.refl _ _).alloc (Nat.le_refl _) _).alloc (by simp) _
  clear hw
  have q1 : W.cell? ⟨w.heap.size, n, none⟩ = some (.int .u64 u) := (cell_of_row W _ _ _ _ _ hg1).trans hcg
  have q2 : W.frozen? ⟨w.heap.size, n, none⟩ = false := frozen_of_row W _ _ _ _ hg1
  go_wp2_with fail
  refine (ka _).mono ?_
  rintro e _ ⟨rfl, rfl⟩
  have hg1' := heap_setCell_same W w.heap.size n C _ (.int .u64 v) hg1
  rw [hu] at hg1'
  have hg2' := (heap_setCell_other W ⟨w.heap.size, n, none⟩ (w.heap.size + 1) (.int .u64 v) (by simp)).trans hg2
  go_wp2_with (first
    | (refine wpList_load_row rfl _ _ rfl w.heap.size rfl 25 C' (0, 0) ((Try.prog.underlying 25).get rank_some) hg1' (Option.some_get _).symm (by kernel_rfl) (by rw [rank_size, hs']) ?_)
    | (refine wpList_store_row rfl _ _ _ rfl (w.heap.size + 1) C' rfl rfl 25 _ hg2' (by rw [rank_size, hs']) (by rw [hs', hZ]) h1 ?_))
  have hr : ∀ (tmps : Array Value) (w : World) (g : Nat) (cs : Array Value), tmps.getD 4 undef = .pointer (some ⟨g, 0, none⟩) → w.heap[g]? = some (.cells cs 25 (0, 0)) → cs.size = 16 → (results Try.f15 tmps).run Try.prog w = .ok (.agg cs) w := fun _ _ _ _ => ret_rank (by kernel_rfl)
  refine bodyPost_ret (hr _ _ (w.heap.size + 1) C' rfl (setRow_heap _ _ _ _ _ _ hg2') hs') rfl ?_
  exact ⟨rfl, below_setRow (hB.setCell (Nat.le_refl _) _) (by omega)⟩
theorem lhd_Hit (R : Nat → Int) (a : Int) (h : IsR R) (w : World) :
    Calls Try.prog 15 #[rankV R, .int .i64 a] w fun e w' => e = .returned (rankV (moreR R a 0)) ∧ Below w.heap.size w w' := by
  by_cases ha : 0 ≤ a ∧ a < 8
  · obtain ⟨n, rfl⟩ : ∃ n : Nat, a = n := ⟨a.toNat, by omega⟩
    have e : moreR R n 0 = upd R n (addS (R n) 1) := by unfold moreR; rw [if_pos ha]; rfl
    rw [e]
    exact lhd_Hit_yes R n (by omega) h w
  · have e : moreR R a 0 = R := by unfold moreR; rw [if_neg ha]
    rw [e]
    exact lhd_Hit_no R a ha w
end Go.Proofs.Ytmehejdgdjaipaa
