/- The walk of LhdTells. -/
import Derived.Test.YtmehejdgdjaipaaLhdL1
set_option linter.unusedVariables false
set_option maxRecDepth 100000
set_option maxHeartbeats 2000000
namespace Go.Proofs.Ytmehejdgdjaipaa
open Go.RowKit Go.Shelf
attribute [local go_sem ↓] lt_alloc

theorem tells19_walk (R A Z S : Nat → Int) (a t : Int) (hR : IsR R) (t0 : 0 ≤ t) (t1 : t < 18446744073709551616) (hA : InK .i64 A) (hZ : InK .u64 Z) (hS : InK .i64 S) {a0 a1 a2 : Option Addr} {la ca lz cz ls cs : Nat} (w : World)
    (iA : IsK .i64 w a0 la A) (iZ : IsK .u64 w a1 lz Z) (iS : IsK .i64 w a2 ls S) :
    Calls Try.prog 3 #[rankV R, .int .i64 a, .int .u64 t, .slice a0 la ca, .slice a1 lz cz, .slice a2 ls cs] w fun r w' => r = .returned (.bool true) ∧ Below w.heap.size w w' := by
  have IA := Lib.hid iA
  have IZ := Lib.hid iZ
  have IS := Lib.hid iS
  have hs : (rankC R).size = 16 := rowC_size R 16
  by_cases hl : la ≤ 100 ∧ lz ≤ 100 ∧ ls ≤ 100
  · obtain ⟨hl0, hl1, hl2⟩ := hl
    have kv := fun w x y z => lhd_Victim_row R A Z S hR hZ hS (a0 := a0) (a1 := a1) (a2 := a2) (la := la) (ca := ca) (lz := lz) (cz := cz) (ls := ls) (cs := cs) hl2 w x y z
    have kr := fun w x y z => ref19_Victim R A Z S hR hZ hS (a0 := a0) (a1 := a1) (a2 := a2) (la := la) (ca := ca) (lz := lz) (cz := cz) (ls := ls) (cs := cs) hl2 w x y z
    have k1 := fun w => lhd_Age t t0 t1 w
    have k2 := fun w => ref19_Age t t0 t1 w
    have k3 := fun w => lhd_Hit R a hR w
    have k4 := fun w => ref19_Hit R a hR w
    have k5 := fun w => lhd_Out R a hR w
    have k6 := fun w => ref19_Out R a hR w
    have k7 := fun w => lhd_Fade R hR w
    have k8 := fun w => ref19_Fade R hR w
    have k9 := fun w => lhd_Density R a hR w
    have k10 := fun w => ref19_Density R a hR w
    have e1 := fun w => rank_equal (moreR R a 0) (moreR R a 0) w
    have e2 := fun w => rank_equal (moreR R a 8) (moreR R a 8) w
    have e3 := fun w => rank_equal (halfR R) (halfR R) w
    simp only [sameR_self] at e1 e2 e3
    generalize vict S (lst (vN R A Z S la lz) (vD Z S la lz) ls) = v at *
    generalize (lst (vN R A Z S la lz) (vD Z S la lz) ls).2 = vb at *
    generalize ageV t = n at *
    generalize densV R a = d at *
    unfold rankV at *
    generalize rankC (moreR R a 0) = cH at *
    generalize rankC (moreR R a 8) = cO at *
    generalize rankC (halfR R) = cF at *
    generalize rankC R = c at *
    have hl0' : ¬ (100 : Int) < la := by omega
    have hl1' : ¬ (100 : Int) < lz := by omega
    have hl2' : ¬ (100 : Int) < ls := by omega
    clear iA iZ iS
    go_enter Try.func3, Try.ntmps3
    go_wp2_with fail
    refine (awake19_any _).mono ?_
    rintro e w1 ⟨rfl, hb1⟩
    have hB1 : Below w.heap.size w w1 := ((Below.refl _ _).alloc (Nat.le_refl _) _).trans (hb1.mono (by simp))
    have G1 : w1.heap[w.heap.size]? = some (.cells c 25 (0, 0)) := (hb1.block _ (by simp)).trans (heap_alloc_new w _)
    have hS1 : w.heap.size < w1.heap.size := by have := hb1.size; simp at this; omega
    clear hb1
    go_wp2_with (refine wpList_load_row rfl _ _ rfl w.heap.size rfl 25 c (0, 0) ((Try.prog.underlying 25).get rank_some) G1 (Option.some_get _).symm (by kernel_rfl) (by rw [rank_size, hs]) ?_)
    refine (kv _ (IA.out.below hB1) (IZ.out.below hB1) (IS.out.below hB1)).mono ?_
    rintro e w2 ⟨rfl, hb2⟩
    have hB2 := hB1.trans (hb2.mono hB1.size)
    have G2 := (hb2.block _ hS1).trans G1
    have hS2 : w.heap.size < w2.heap.size := Nat.lt_of_lt_of_le hS1 hb2.size
    clear hb2 hB1 G1 hS1
    go_wp2_with (refine wpList_load_row rfl _ _ rfl w.heap.size rfl 25 c (0, 0) ((Try.prog.underlying 25).get rank_some) G2 (Option.some_get _).symm (by kernel_rfl) (by rw [rank_size, hs]) ?_)
    refine (kr _ (IA.out.below hB2) (IZ.out.below hB2) (IS.out.below hB2)).mono ?_
    rintro e w3 ⟨rfl, hb3⟩
    have hB3 := hB2.trans (hb3.mono hB2.size)
    have G3 := (hb3.block _ hS2).trans G2
    have hS3 : w.heap.size < w3.heap.size := Nat.lt_of_lt_of_le hS2 hb3.size
    clear hb3 hB2 G2 hS2
    clear kv kr
    have l1 : ∀ w', (∃ x : Under w3, w' = x.w) → (loadVar 25 ⟨w.heap.size, 0, none⟩).run Try.prog w' = .ok (.agg c) w' := by
      rintro _ ⟨x, rfl⟩
      exact run_loadVar_row _ _ _ _ c _ _ ((x.2.block _ hS3).trans G3) (Option.some_get rank_some).symm (by kernel_rfl) (by rw [rank_size, hs])
    go_wp2_with fail
    (refine region_under (by kernel_rfl) (by kernel_rfl) ?_; (repeat (first | (refine quiet_load_row (by kernel_rfl) _ _ (by rfl) w.heap.size 0 (by rfl) c l1 _ rfl ?_; simp only [Act.put, List.setIfInBounds_toArray, List.set_cons_succ, List.set_cons_zero]) | (refine quiet_eql (by kernel_rfl) _ _ _ _ (by rfl) cH cH (by rfl) (by rfl) rank_guard true e1 ?_; simp only [Act.put, List.setIfInBounds_toArray, List.set_cons_succ, List.set_cons_zero]) | (refine quiet_eql (by kernel_rfl) _ _ _ _ (by rfl) cO cO (by rfl) (by rfl) rank_guard true e2 ?_; simp only [Act.put, List.setIfInBounds_toArray, List.set_cons_succ, List.set_cons_zero]) | (refine quiet_eql (by kernel_rfl) _ _ _ _ (by rfl) cF cF (by rfl) (by rfl) rank_guard true e3 ?_; simp only [Act.put, List.setIfInBounds_toArray, List.set_cons_succ, List.set_cons_zero]) | go_big_quiet_step ((first | (go_at_call 13; exact stayU (k1 _)) | (go_at_call 14; exact stayU (k2 _)) | (go_at_call 15; exact quietU (k3 _)) | (go_at_call 16; exact quietU (k4 _)) | (go_at_call 17; exact quietU (k5 _)) | (go_at_call 18; exact quietU (k6 _)) | (go_at_call 19; exact quietU (k7 _)) | (go_at_call 20; exact quietU (k8 _)) | (go_at_call 21; exact quietU (k9 _)) | (go_at_call 22; exact quietU (k10 _)))) | quiet_step ((first | (go_at_call 13; exact stayU (k1 _)) | (go_at_call 14; exact stayU (k2 _)) | (go_at_call 15; exact quietU (k3 _)) | (go_at_call 16; exact quietU (k4 _)) | (go_at_call 17; exact quietU (k5 _)) | (go_at_call 18; exact quietU (k6 _)) | (go_at_call 19; exact quietU (k7 _)) | (go_at_call 20; exact quietU (k8 _)) | (go_at_call 21; exact quietU (k9 _)) | (go_at_call 22; exact quietU (k10 _)))))); refine wpQuiet_nil ?_; intro _ hw'; obtain ⟨x, hw''⟩ := hw'; subst hw''; go_wp2_with fail)
    go_ret
    exact ⟨rfl, hB3.trans (x.2.mono hB3.size)⟩
  · unfold rankV
    generalize rankC R = c at *
    by_cases h0 : 100 < la
    · have h0' : (100 : Int) < la := by omega
      clear hl
      go_enter Try.func3, Try.ntmps3
      go_wp2_with fail
      refine (awake19_any _).mono ?_
      rintro e w1 ⟨rfl, hb1⟩
      have hB1 : Below w.heap.size w w1 := ((Below.refl _ _).alloc (Nat.le_refl _) _).trans (hb1.mono (by simp))
      have G1 : w1.heap[w.heap.size]? = some (.cells c 25 (0, 0)) := (hb1.block _ (by simp)).trans (heap_alloc_new w _)
      have hS1 : w.heap.size < w1.heap.size := by have := hb1.size; simp at this; omega
      clear hb1
      go_wp2_with fail
      go_ret
      exact ⟨rfl, hB1⟩
    · by_cases h1 : 100 < lz
      · have h0' : ¬ (100 : Int) < la := by omega
        have h1' : (100 : Int) < lz := by omega
        clear hl
        go_enter Try.func3, Try.ntmps3
        go_wp2_with fail
        refine (awake19_any _).mono ?_
        rintro e w1 ⟨rfl, hb1⟩
        have hB1 : Below w.heap.size w w1 := ((Below.refl _ _).alloc (Nat.le_refl _) _).trans (hb1.mono (by simp))
        have G1 : w1.heap[w.heap.size]? = some (.cells c 25 (0, 0)) := (hb1.block _ (by simp)).trans (heap_alloc_new w _)
        have hS1 : w.heap.size < w1.heap.size := by have := hb1.size; simp at this; omega
        clear hb1
        go_wp2_with fail
        go_ret
        exact ⟨rfl, hB1⟩
      · have h0' : ¬ (100 : Int) < la := by omega
        have h1' : ¬ (100 : Int) < lz := by omega
        have h2' : (100 : Int) < ls := by omega
        clear hl
        go_enter Try.func3, Try.ntmps3
        go_wp2_with fail
        refine (awake19_any _).mono ?_
        rintro e w1 ⟨rfl, hb1⟩
        have hB1 : Below w.heap.size w w1 := ((Below.refl _ _).alloc (Nat.le_refl _) _).trans (hb1.mono (by simp))
        have G1 : w1.heap[w.heap.size]? = some (.cells c 25 (0, 0)) := (hb1.block _ (by simp)).trans (heap_alloc_new w _)
        have hS1 : w.heap.size < w1.heap.size := by have := hb1.size; simp at this; omega
        clear hb1
        go_wp2_with fail
        go_ret
        exact ⟨rfl, hB1⟩
end Go.Proofs.Ytmehejdgdjaipaa
