/- The walk of LhdFades. -/
import Derived.Test.YtmehejdgdjaipaaLhdL1
set_option linter.unusedVariables false
set_option maxRecDepth 100000
set_option maxHeartbeats 2000000
namespace Go.Proofs.Ytmehejdgdjaipaa
open Go.RowKit Go.Shelf
attribute [local go_sem ↓] lt_alloc

theorem quiet_build {P : Program} {ops : Array Oper} {W : World → Prop} {rest : List Oper} {o : Oper} {a : Act} {Q : Act → Prop} (hw : Region.wanted o (yielded ops a.tmps) = true) (t : TypeId) (parts : Array (Nat × Operand)) (ho : o.op = .build t parts)
    (cells : Array Value) (hc : P.built t (parts.map fun (i, x) => (i, a.eval x)).toList = some cells) (h : wpQuiet P ops W Q rest (a.put o.dst (.agg cells))) : wpQuiet P ops W Q (o :: rest) a := by
  refine wpQuiet_step fun K hK => ?_
  rw [if_pos hw]
  refine ⟨.agg cells, fun w hw' => ?_, hK _ h⟩
  unfold Oper.quietAt execOp
  simp only [ho, Sem.run_bind, run_build w t _ _ hc, Result.andThen_ok]
  exact ⟨rfl, rfl⟩
/-- The first k of both eights doubled, nothing behind. -/
def dblTo (R : Nat → Int) (k i : Nat) : Int := if i < k ∨ (8 ≤ i ∧ i < 8 + k) then 2 * R i else 0
theorem dbl_step (R : Nat → Int) {k : Nat} (hk : k < 8) : upd (upd (dblTo R k) k (2 * R k)) (8 + k) (2 * R (8 + k)) = dblTo R (k + 1) := by
  funext i; unfold upd dblTo
  by_cases h1 : i = 8 + k
  · rw [if_pos h1, if_pos (by omega), h1]
  · rw [if_neg h1]
    by_cases h2 : i = k
    · rw [if_pos h2, if_pos (by omega), h2]
    · rw [if_neg h2]
      by_cases h3 : i < k ∨ (8 ≤ i ∧ i < 8 + k)
      · rw [if_pos h3, if_pos (by omega)]
      · rw [if_neg h3, if_neg (by omega)]
theorem dbl_at (R : Nat → Int) {k : Nat} (hk : k < 8) : dblTo R k k = 0 ∧ dblTo R k (8 + k) = 0 := by
  unfold dblTo; rw [if_neg (by omega), if_neg (by omega)]; exact ⟨rfl, rfl⟩
theorem dbl_all (R : Nat → Int) : rankC (dblTo R 8) = rankC (twiceR R) := rowC_congr fun i hi => by unfold dblTo twiceR; rw [if_pos (by omega)]
theorem few50 {R : Nat → Int} (h : IsR R) (hf : ∀ j, j < 8 → R j < 1125899906842624 ∧ R (8 + j) < 1125899906842624) : ∀ i, i < 16 → 0 ≤ R i ∧ R i < 1125899906842624 := fun i hi => by
  have h0 := h i
  by_cases hi8 : i < 8
  · have := hf i hi8; omega
  · have h1 := (hf (i - 8) (by omega)).2
    rw [show 8 + (i - 8) = i from by omega] at h1; omega
/-- The counts that are there, and no others. -/
def cutR (R : Nat → Int) (i : Nat) : Int := if i < 16 then R i else 0
theorem cut_row (R : Nat → Int) : rankC (cutR R) = rankC R := rowC_congr fun i hi => by unfold cutR; rw [if_pos hi]
theorem cut_is {R : Nat → Int} (h : IsR R) : IsR (cutR R) := fun i => by
  unfold cutR; split
  · exact h i
  · omega
theorem twice_is {R : Nat → Int} (h : ∀ i, 0 ≤ R i ∧ R i < 1125899906842624) : IsR (twiceR R) := fun i => by have := h i; unfold twiceR; omega
theorem fades19_few (R : Nat → Int) (a : Int) (hR : ∀ i, 0 ≤ R i ∧ R i < 1125899906842624) (a0 : 0 ≤ a) (a1 : a < 256) (w : World) :
    Calls Try.prog 8 #[rankV R, .int .u8 a] w fun r w' => r = .returned (.bool true) ∧ Below w.heap.size w w' := by
  obtain ⟨k, hk⟩ : ∃ k : Nat, a % 8 = k := ⟨(a % 8).toNat, by omega⟩
  have hk8 : k < 8 := by omega
  have hI : IsR R := fun i => by have := hR i; omega
  have H := Lib.hid hR
  have HC := Lib.hid (fun (wr : World) g hg i hi => @cell_rank wr g i R hg hi)
  have hs : (rankC R).size = 16 := rowC_size R 16
  have hsT : (rankC (twiceR R)).size = 16 := rowC_size _ 16
  have h1R : (rankC R).all (·.oneCell') = true := rowC_one R 16
  have k1 := fun w => lhd_Fade (twiceR R) (twice_is hR) w
  rw [half_twice] at k1
  have k2 := fun w => lhd_Density (twiceR R) k (twice_is hR) w
  have k3 := fun w => lhd_Density R k hI w
  have ed : densV (twiceR R) k = densV R k := by
    unfold densV; rw [if_pos (by omega), if_pos (by omega), Int.toNat_natCast]
    exact dens_twice (fun i _ => hR i) hk8
  rw [ed] at k2
  have KF := Lib.hid (fun j w => lhd_Fade (halfN R j) (halfN_is hI j) w)
  have e1 := fun w => rank_equal R R w
  rw [sameR_self] at e1
  have hz0 : rankC (halfN R 50) = rankC zeroR := rowC_congr fun i hi => halfN_zero (hR i).1 (hR i).2
  have e2 := fun w => rank_equal zeroR zeroR w
  rw [sameR_self] at e2
  have hb := zero_rank
  have HZ := Lib.hid hz0
  have HD := Lib.hid (dbl_all R)
  have H0 : ∀ i, i < 8 → True := fun _ _ => trivial
  have hN0 : rankC R = rankC (halfN R 0) := rfl
  have HN0 := Lib.hid hN0
  have hd0 : rankC zeroR = rankC (dblTo R 0) := rowC_congr fun i hi => by unfold zeroR dblTo; rw [if_neg (by omega)]
  have HD0 := Lib.hid hd0
  have hs0 : (rankC zeroR).size = 16 := rowC_size _ 16
  clear hI hz0 ed hN0 hd0 hR H0
  generalize densV R k = d at *
  unfold rankV at *
  generalize hcT : rankC (twiceR R) = cT at *
  generalize hc0 : rankC zeroR = c0 at *
  generalize hcR : rankC R = c at *
  clear hcT hcR
  go_enter Try.func8, Try.ntmps8
  go_wp2_with fail
  refine (awake19_any _).mono ?_
  rintro e w1 ⟨rfl, hb1⟩
  have hB1 : Below w.heap.size w w1 := ((Below.refl _ _).alloc (Nat.le_refl _) _).trans (hb1.mono (by simp))
  have G1 : w1.heap[w.heap.size]? = some (.cells c 25 (0, 0)) := (hb1.block _ (by simp)).trans (heap_alloc_new w _)
  have hS1 : w.heap.size < w1.heap.size := by have := hb1.size; simp at this; omega
  clear hb1
  go_wp2_with fail
  refine forget (fun W => Hid (W.heap[w.heap.size]? = some (.cells c 25 (0, 0))) ∧ Hid (W.heap[w1.heap.size]? = some (.cells (rankC (dblTo R 0)) 25 (0, 0))) ∧ Below w.heap.size w W ∧ w1.heap.size < W.heap.size) ?_ ?_
  · refine ⟨Lib.hid ((heap_alloc_old _ _ hS1).trans G1), Lib.hid ?_, hB1.alloc hB1.size _, by simp⟩
    rw [← HD0.out, ← hc0]; exact heap_alloc_new w1 _
  rintro W ⟨G, X, hB, hW⟩
  clear G1 hB1
  generalize w1.heap.size = x6 at *
  go_loopw [7] (fun iv wr => ∃ i : Nat, i ≤ 8 ∧ iv = .int .i64 i ∧ Hid (wr.heap[w.heap.size]? = some (.cells c 25 (0, 0))) ∧ Hid (wr.heap[x6]? = some (.cells (rankC (dblTo R i)) 25 (0, 0))) ∧ Below w.heap.size w wr ∧ x6 < wr.heap.size) (fun iv _ => 8 - (intOf iv).toNat)
  case atStart => exact ⟨0, by omega, rfl, G, X, hB, hW⟩
  case round =>
    obtain ⟨i, hi, rfl, G', X', hB', hW'⟩ := hrel
    by_cases hlt : i < 8
    · obtain ⟨r0, r1⟩ := H.out i
      obtain ⟨s0, s1⟩ := H.out (8 + i)
      have q1 := HC.out wr w.heap.size G'.out i (by omega)
      have q2 := HC.out wr w.heap.size G'.out (8 + i) (by omega)
      have q3 : wr.cell? ⟨x6, i, none⟩ = some (.int .u64 0) := (cell_rank X'.out (by omega)).trans (by rw [(dbl_at R hlt).1])
      have q4 : wr.cell? ⟨x6, 8 + i, none⟩ = some (.int .u64 0) := (cell_rank X'.out (by omega)).trans (by rw [(dbl_at R hlt).2])
      have q5 : wr.frozen? ⟨x6, i, none⟩ = false := frozen_of_row wr _ _ _ _ X'.out
      have q6 : wr.frozen? ⟨x6, 8 + i, none⟩ = false := frozen_of_row wr _ _ _ _ X'.out
      have h1' : decide ((1125899906842624 : Int) ≤ R i) = false := by simp; omega
      have h2' : decide ((1125899906842624 : Int) ≤ R (8 + i)) = false := by simp; omega
      have K2 := heap_setCell_same (wr.setCell ⟨x6, i, none⟩ (.int .u64 (2 * R i))) x6 (8 + i) _ _ (.int .u64 (2 * R (8 + i))) (heap_setCell_same wr x6 i _ _ (.int .u64 (2 * R i)) X'.out)
      unfold rankC at K2
      rw [rowC_upd, rowC_upd, dbl_step R hlt] at K2
      have K1 := (heap_setCell_other (wr.setCell ⟨x6, i, none⟩ (.int .u64 (2 * R i))) ⟨x6, 8 + i, none⟩ w.heap.size (.int .u64 (2 * R (8 + i))) (by simp; omega)).trans ((heap_setCell_other wr ⟨x6, i, none⟩ w.heap.size (.int .u64 (2 * R i)) (by simp; omega)).trans G'.out)
      have HK1 := Lib.hid K1
      have HK2 : Hid (((wr.setCell ⟨x6, i, none⟩ (.int .u64 (2 * R i))).setCell ⟨x6, 8 + i, none⟩ (.int .u64 (2 * R (8 + i)))).heap[x6]? = some (.cells (rankC (dblTo R (i + 1))) 25 (0, 0))) := Lib.hid K2
      clear K1 K2
      generalize R (8 + i) = s at *
      generalize R i = r at *
      have KB : Below w.heap.size w ((wr.setCell ⟨x6, i, none⟩ (.int .u64 (2 * r))).setCell ⟨x6, 8 + i, none⟩ (.int .u64 (2 * s))) := (hB'.setCell (by show w.heap.size ≤ x6; omega) _).setCell (by show w.heap.size ≤ x6; omega) _
      have KS : x6 < ((wr.setCell ⟨x6, i, none⟩ (.int .u64 (2 * r))).setCell ⟨x6, 8 + i, none⟩ (.int .u64 (2 * s))).heap.size := by simp; omega
      go_wp2_with fail
      exact ⟨⟨i + 1, by omega, by go_num, HK1, HK2, KB, KS⟩, by simp [intOf]; omega⟩
    · obtain rfl : i = 8 := by omega
      have X8 := X'.out
      rw [HD.out] at X8
      have G8 := G'.out
      have HX8 := Lib.hid X8
      clear X8
      go_wp2_with (first
        | (refine wpList_load_row rfl _ _ rfl w.heap.size rfl 25 c (0, 0) ((Try.prog.underlying 25).get rank_some) G8 (Option.some_get _).symm (by kernel_rfl) (by rw [rank_size, hs]) ?_)
        | (refine wpList_store_row rfl _ _ _ rfl wr.heap.size c rfl rfl 25 _ (heap_alloc_new wr _) (by rw [rank_size, hs]) (by rw [hs]; kernel_rfl) h1R ?_))
      have hx6 := hW'
      refine forget (fun W => Hid (W.heap[w.heap.size]? = some (.cells c 25 (0, 0))) ∧ Hid (W.heap[x6]? = some (.cells cT 25 (0, 0))) ∧ Hid (W.heap[wr.heap.size]? = some (.cells (rankC (halfN R 0)) 25 (0, 0))) ∧ Below w.heap.size w W ∧ wr.heap.size < W.heap.size) ?_ ?_
      · refine ⟨Lib.hid (((new_row hB' _ _ _).2.2.2 _ (by omega)).trans G8), Lib.hid (((new_row hB' _ _ _).2.2.2 _ hW').trans HX8.out), Lib.hid ?_, (new_row hB' _ _ _).2.1, by simp⟩
        rw [← HN0.out]; exact (new_row hB' _ _ _).1
      rintro W9 ⟨GW, XW, YW, hBW, hSW⟩
      clear G8 HX8 hB' G' X' G X hB hW hW'
      generalize wr.heap.size = y9 at *
      go_loopw [10] (fun iv wr => ∃ j : Nat, j ≤ 50 ∧ iv = .int .i64 j ∧ Hid (wr.heap[w.heap.size]? = some (.cells c 25 (0, 0))) ∧ Hid (wr.heap[x6]? = some (.cells cT 25 (0, 0))) ∧ Hid (wr.heap[y9]? = some (.cells (rankC (halfN R j)) 25 (0, 0))) ∧ Below w.heap.size w wr ∧ y9 < wr.heap.size) (fun iv _ => 50 - (intOf iv).toNat)
      case atStart => exact ⟨0, by omega, rfl, GW, XW, YW, hBW, hSW⟩
      case round =>
        obtain ⟨j, hj, rfl, GJ, XJ, YJ, hBJ, hSJ⟩ := hrel
        by_cases hlt : j < 50
        · have kf := fun w => KF.out j w
          have hsj : (rankC (halfN R j)).size = 16 := rowC_size _ 16
          have hsj' : (rankC (halfR (halfN R j))).size = 16 := rowC_size _ 16
          have h1j : (rankC (halfR (halfN R j))).all (·.oneCell') = true := rowC_one _ 16
          have hnx : rankC (halfR (halfN R j)) = rankC (halfN R (j + 1)) := rfl
          have HNX := Lib.hid hnx
          have YJo := YJ.out
          clear hnx
          generalize rankC (halfR (halfN R j)) = cn at *
          generalize rankC (halfN R j) = cj at *
          go_wp2_with (refine wpList_load_row rfl _ _ rfl y9 rfl 25 cj (0, 0) ((Try.prog.underlying 25).get rank_some) YJo (Option.some_get _).symm (by kernel_rfl) (by rw [rank_size, hsj]) ?_)
          refine (kf _).mono ?_
          rintro e wk ⟨rfl, hbk⟩
          have hBk := hBJ.trans (hbk.mono hBJ.size)
          have Gk := (hbk.block _ (by omega)).trans GJ.out
          have Xk := (hbk.block _ (by omega)).trans XJ.out
          have Yk := (hbk.block _ hSJ).trans YJo
          have hSk : y9 < wk.heap.size := Nat.lt_of_lt_of_le hSJ hbk.size
          have RG : Hid ((wk.setRow y9 cn).heap[w.heap.size]? = some (.cells c 25 (0, 0))) := Lib.hid ((setRow_other _ _ _ _ (by omega)).trans Gk)
          have RX : Hid ((wk.setRow y9 cn).heap[x6]? = some (.cells cT 25 (0, 0))) := Lib.hid ((setRow_other _ _ _ _ (by omega)).trans Xk)
          have RY : Hid ((wk.setRow y9 cn).heap[y9]? = some (.cells (rankC (halfN R (j + 1))) 25 (0, 0))) := Lib.hid (by rw [← HNX.out]; exact setRow_heap _ _ _ _ _ _ Yk)
          have RB : Below w.heap.size w (wk.setRow y9 cn) := below_setRow hBk (by omega)
          have RS : y9 < (wk.setRow y9 cn).heap.size := by simp; omega
          clear hbk hBk Gk Xk hSk YJo kf
          go_wp2_with (refine wpList_store_row rfl _ _ _ rfl y9 cn rfl rfl 25 _ Yk (by rw [rank_size, hsj']) (by rw [hsj', hsj]) h1j ?_)
          exact ⟨⟨j + 1, by omega, by go_num, RG, RX, RY, RB, RS⟩, by simp [intOf]; omega⟩
        · obtain rfl : j = 50 := by omega
          have YZ := YJ.out
          rw [HZ.out] at YZ
          have ldr : ∀ (b : Nat) (C : Array Value), wr.heap[b]? = some (.cells C 25 (0, 0)) → b < wr.heap.size → C.size = 16 → ∀ w', (∃ x : Under wr, w' = x.w) → (loadVar 25 ⟨b, 0, none⟩).run Try.prog w' = .ok (.agg C) w' := by
            rintro b C hb hlt hC _ ⟨x, rfl⟩
            exact run_loadVar_row _ _ _ _ C _ _ ((x.2.block _ hlt).trans hb) (Option.some_get rank_some).symm (by kernel_rfl) (by rw [rank_size, hC])
          have l1 := ldr _ c GJ.out (by omega) hs
          have l2 := ldr x6 cT XJ.out (by omega) hsT
          have l3 := ldr y9 c0 YZ hSJ hs0
          clear ldr
          go_wp2_with fail
          (refine region_under (by kernel_rfl) (by kernel_rfl) ?_; (repeat (first | (refine quiet_load_row (by kernel_rfl) _ _ (by rfl) w.heap.size 0 (by rfl) c l1 _ rfl ?_; simp only [Act.put, List.setIfInBounds_toArray, List.set_cons_succ, List.set_cons_zero]) | (refine quiet_load_row (by kernel_rfl) _ _ (by rfl) x6 0 (by rfl) cT l2 _ rfl ?_; simp only [Act.put, List.setIfInBounds_toArray, List.set_cons_succ, List.set_cons_zero]) | (refine quiet_load_row (by kernel_rfl) _ _ (by rfl) y9 0 (by rfl) c0 l3 _ rfl ?_; simp only [Act.put, List.setIfInBounds_toArray, List.set_cons_succ, List.set_cons_zero]) | (refine quiet_build (by kernel_rfl) _ _ (by rfl) c0 (Eq.trans (by kernel_rfl) hb) ?_; simp only [Act.put, List.setIfInBounds_toArray, List.set_cons_succ, List.set_cons_zero]) | (refine quiet_eql (by kernel_rfl) _ _ _ _ (by rfl) c c (by rfl) (by rfl) rank_guard true e1 ?_; simp only [Act.put, List.setIfInBounds_toArray, List.set_cons_succ, List.set_cons_zero]) | (refine quiet_eql (by kernel_rfl) _ _ _ _ (by rfl) c0 c0 (by rfl) (by rfl) rank_guard true e2 ?_; simp only [Act.put, List.setIfInBounds_toArray, List.set_cons_succ, List.set_cons_zero]) | go_big_quiet_step ((first | (go_at_call 19; exact quietU (k1 _)) | (go_at_call 21; first | (with_reducible exact quietU (k2 _)) | (with_reducible exact quietU (k3 _))))) | quiet_step ((first | (go_at_call 19; exact quietU (k1 _)) | (go_at_call 21; first | (with_reducible exact quietU (k2 _)) | (with_reducible exact quietU (k3 _))))))); refine wpQuiet_nil ?_; intro _ hw'; obtain ⟨x, hw''⟩ := hw'; subst hw''; go_wp2_with fail)
          go_ret
          exact ⟨rfl, hBJ.trans (x.2.mono hBJ.size)⟩
theorem fades19_many (R : Nat → Int) (a : Int) (hR : IsR R) (hm : ¬ ∀ j, j < 8 → R j < 1125899906842624 ∧ R (8 + j) < 1125899906842624) (w : World) :
    Calls Try.prog 8 #[rankV R, .int .u8 a] w fun r w' => r = .returned (.bool true) ∧ Below w.heap.size w w' := by
  have H := Lib.hid hR
  have HM := Lib.hid hm
  have HC := Lib.hid (fun (wr : World) g hg i hi => @cell_rank wr g i R hg hi)
  have hd0 : rankC zeroR = rankC (dblTo R 0) := rowC_congr fun i hi => by unfold zeroR dblTo; rw [if_neg (by omega)]
  have HD0 := Lib.hid hd0
  clear hR hm hd0
  unfold rankV at *
  generalize hc0 : rankC zeroR = c0 at *
  generalize hcR : rankC R = c at *
  clear hcR
  go_enter Try.func8, Try.ntmps8
  go_wp2_with fail
  refine (awake19_any _).mono ?_
  rintro e w1 ⟨rfl, hb1⟩
  have hB1 : Below w.heap.size w w1 := ((Below.refl _ _).alloc (Nat.le_refl _) _).trans (hb1.mono (by simp))
  have G1 : w1.heap[w.heap.size]? = some (.cells c 25 (0, 0)) := (hb1.block _ (by simp)).trans (heap_alloc_new w _)
  have hS1 : w.heap.size < w1.heap.size := by have := hb1.size; simp at this; omega
  clear hb1
  go_wp2_with fail
  refine forget (fun W => Hid (W.heap[w.heap.size]? = some (.cells c 25 (0, 0))) ∧ Hid (W.heap[w1.heap.size]? = some (.cells (rankC (dblTo R 0)) 25 (0, 0))) ∧ Below w.heap.size w W ∧ w1.heap.size < W.heap.size) ?_ ?_
  · refine ⟨Lib.hid ((heap_alloc_old _ _ hS1).trans G1), Lib.hid ?_, hB1.alloc hB1.size _, by simp⟩
    rw [← HD0.out, ← hc0]; exact heap_alloc_new w1 _
  rintro W ⟨G, X, hB, hW⟩
  clear G1 hB1
  generalize w1.heap.size = x6 at *
  go_loopw [7] (fun iv wr => ∃ i : Nat, i ≤ 8 ∧ iv = .int .i64 i ∧ Hid (wr.heap[w.heap.size]? = some (.cells c 25 (0, 0))) ∧ Hid (wr.heap[x6]? = some (.cells (rankC (dblTo R i)) 25 (0, 0))) ∧ Below w.heap.size w wr ∧ x6 < wr.heap.size ∧ Hid (∀ j, j < i → R j < 1125899906842624 ∧ R (8 + j) < 1125899906842624)) (fun iv _ => 8 - (intOf iv).toNat)
  case atStart => exact ⟨0, by omega, rfl, G, X, hB, hW, Lib.hid (fun j hj => absurd hj (Nat.not_lt_zero j))⟩
  case round =>
    obtain ⟨i, hi, rfl, G', X', hB', hW', hall⟩ := hrel
    by_cases hlt : i < 8
    · obtain ⟨r0, r1⟩ := H.out i
      obtain ⟨s0, s1⟩ := H.out (8 + i)
      have q1 := HC.out wr w.heap.size G'.out i (by omega)
      have q2 := HC.out wr w.heap.size G'.out (8 + i) (by omega)
      have q3 : wr.cell? ⟨x6, i, none⟩ = some (.int .u64 0) := (cell_rank X'.out (by omega)).trans (by rw [(dbl_at R hlt).1])
      have q4 : wr.cell? ⟨x6, 8 + i, none⟩ = some (.int .u64 0) := (cell_rank X'.out (by omega)).trans (by rw [(dbl_at R hlt).2])
      have q5 : wr.frozen? ⟨x6, i, none⟩ = false := frozen_of_row wr _ _ _ _ X'.out
      have q6 : wr.frozen? ⟨x6, 8 + i, none⟩ = false := frozen_of_row wr _ _ _ _ X'.out
      by_cases h1 : R i < 1125899906842624
      · have h1' : decide ((1125899906842624 : Int) ≤ R i) = false := by simp; omega
        by_cases h2 : R (8 + i) < 1125899906842624
        · have h2' : decide ((1125899906842624 : Int) ≤ R (8 + i)) = false := by simp; omega
          have hall' := Lib.hid (fun j (hj : j < i + 1) => show R j < 1125899906842624 ∧ R (8 + j) < 1125899906842624 from by
            rcases Nat.lt_succ_iff_lt_or_eq.1 hj with h | rfl
            · exact hall.out j h
            · exact ⟨h1, h2⟩)
          have K2 := heap_setCell_same (wr.setCell ⟨x6, i, none⟩ (.int .u64 (2 * R i))) x6 (8 + i) _ _ (.int .u64 (2 * R (8 + i))) (heap_setCell_same wr x6 i _ _ (.int .u64 (2 * R i)) X'.out)
          unfold rankC at K2
          rw [rowC_upd, rowC_upd, dbl_step R hlt] at K2
          have K1 := (heap_setCell_other (wr.setCell ⟨x6, i, none⟩ (.int .u64 (2 * R i))) ⟨x6, 8 + i, none⟩ w.heap.size (.int .u64 (2 * R (8 + i))) (by simp; omega)).trans ((heap_setCell_other wr ⟨x6, i, none⟩ w.heap.size (.int .u64 (2 * R i)) (by simp; omega)).trans G'.out)
          have HK1 := Lib.hid K1
          have HK2 : Hid (((wr.setCell ⟨x6, i, none⟩ (.int .u64 (2 * R i))).setCell ⟨x6, 8 + i, none⟩ (.int .u64 (2 * R (8 + i)))).heap[x6]? = some (.cells (rankC (dblTo R (i + 1))) 25 (0, 0))) := Lib.hid K2
          clear K1 K2
          generalize hss : R (8 + i) = s at *
          generalize hrr : R i = r at *
          clear hss hrr
          have KB : Below w.heap.size w ((wr.setCell ⟨x6, i, none⟩ (.int .u64 (2 * r))).setCell ⟨x6, 8 + i, none⟩ (.int .u64 (2 * s))) := (hB'.setCell (by show w.heap.size ≤ x6; omega) _).setCell (by show w.heap.size ≤ x6; omega) _
          have KS : x6 < ((wr.setCell ⟨x6, i, none⟩ (.int .u64 (2 * r))).setCell ⟨x6, 8 + i, none⟩ (.int .u64 (2 * s))).heap.size := by simp; omega
          go_wp2_with fail
          exact ⟨⟨i + 1, by omega, by go_num, HK1, HK2, KB, KS, hall'⟩, by simp [intOf]; omega⟩
        · have h2' : decide ((1125899906842624 : Int) ≤ R (8 + i)) = true := by simp; omega
          clear hall q3 q4 q5 q6
          generalize hss : R (8 + i) = s at *
          generalize hrr : R i = r at *
          clear hss hrr
          go_wp2_with fail
          go_ret
          exact ⟨rfl, hB'⟩
      · have h1' : decide ((1125899906842624 : Int) ≤ R i) = true := by simp; omega
        clear hall q3 q4 q5 q6
        generalize hss : R (8 + i) = s at *
        generalize hrr : R i = r at *
        clear hss hrr
        go_wp2_with fail
        go_ret
        exact ⟨rfl, hB'⟩
    · obtain rfl : i = 8 := by omega
      exact absurd (fun j hj => hall.out j hj) HM.out
theorem fades19_walk (R : Nat → Int) (a : Int) (hR : IsR R) (a0 : 0 ≤ a) (a1 : a < 256) (w : World) :
    Calls Try.prog 8 #[rankV R, .int .u8 a] w fun r w' => r = .returned (.bool true) ∧ Below w.heap.size w w' := by
  by_cases hm : ∀ j, j < 8 → R j < 1125899906842624 ∧ R (8 + j) < 1125899906842624
  · have h := fades19_few (cutR R) a (fun i => by
      unfold cutR; split
      · exact few50 hR hm i (by assumption)
      · omega) a0 a1 w
    unfold rankV at *
    rwa [cut_row] at h
  · exact fades19_many R a hR hm w
end Go.Proofs.Ytmehejdgdjaipaa
