/- awake of the laws of the layer lhd. -/
import Derived.Test.YtmehejdgdjaipaaLhdX
set_option linter.unusedVariables false
set_option maxRecDepth 100000
set_option maxHeartbeats 2000000
namespace Go.Proofs.Ytmehejdgdjaipaa
open Go.RowKit Go.Shelf
attribute [local go_sem ↓] lt_alloc

/-- A new row in a block of its own. -/
theorem new_row {w w4 : World} (h : Below w.heap.size w w4) (z c : Array Value) (t : TypeId) :
    ((w4.alloc (.cells z t)).setRow w4.heap.size c).heap[w4.heap.size]? = some (.cells c t (0, 0)) ∧ Below w.heap.size w ((w4.alloc (.cells z t)).setRow w4.heap.size c) ∧
    ((w4.alloc (.cells z t)).setRow w4.heap.size c).heap.size = w4.heap.size + 1 ∧ ∀ k, k < w4.heap.size → ((w4.alloc (.cells z t)).setRow w4.heap.size c).heap[k]? = w4.heap[k]? :=
  ⟨setRow_heap _ _ _ _ _ _ (heap_alloc_new w4 _), below_setRow (h.alloc h.size _) h.size, by simp, fun k hk => (setRow_other _ _ _ _ (by omega)).trans (heap_alloc_old w4 _ hk)⟩
theorem lit_row {k : IntKind} {W : World} {g n : Nat} {c : Array Value} {t : TypeId} {Z : Nat → Int} (h : W.heap[g]? = some (.cells c t (0, 0))) (hc : ∀ i, i < n → c[i]? = some (.int k (Z i))) (hn : n ≤ 100) : IsK k W (some ⟨g, 0, none⟩) n Z :=
  Or.inr ⟨g, 0, rfl, by omega, fun i hi => by rw [Nat.zero_add]; exact (cell_of_row W g i c t (0, 0) h).trans (hc i hi)⟩
theorem loadAt_rank {W : World} {y : Nat} {R : Array Value} (h : W.heap[y]? = some (.cells R 25 (0, 0))) (hs : R.size = 16) : (Instr.loadAt 25 (.pointer (some ⟨y, 0, none⟩))).run Try.prog W = .ok (.agg R) W := by
  have h1 := run_loadVar_row (P := Try.prog) W y _ 25 R _ _ h (Option.some_get rank_some).symm (by kernel_rfl) (by rw [rank_size, hs])
  simp only [Instr.loadAt, Instr.sureAddr, Sem.run_bind, Sem.run_pure, Result.andThen_ok, h1]
/-- A load of a row, under a guard. -/
theorem wpList_load_rowW {P : Program} {ops : Array Oper} {rest : List Oper} {o : Oper} {a : Act} {w : World} {Q : Exit → Act → World → Prop} (hw : Region.wanted o (yielded ops a.tmps) = true) (ty : TypeId) (x : Operand) (ho : o.op = .load ty x)
    (g : Nat) (hx : a.eval x = .pointer (some ⟨g, 0, none⟩)) (t : TypeId) (cs : Array Value) (fr : Nat × Nat) (d : TypeDesc) (hg : w.heap[g]? = some (.cells cs t fr))
    (hu : P.underlying ty = some d) (hd : (match d with | .struct _ | .array _ _ => true | _ => false) = true) (hi : (P.info? ty).map (·.size) = some cs.size)
    (h : wpList P ops Q rest (a.put o.dst (.agg cs)) w) : wpList P ops Q (o :: rest) a w := by
  refine wpList_step fun K hK => ?_
  rw [if_pos hw]
  exact wp_load_row ty x ho g hx t cs fr d hg hu hd hi (hK _ _ h)
theorem three_new (W : World) {s : Nat} (hs : W.heap.size = s) (a b c : Obj) :
    (((W.alloc a).alloc b).alloc c).heap[s]? = some a ∧ (((W.alloc a).alloc b).alloc c).heap[s + 1]? = some b ∧ (((W.alloc a).alloc b).alloc c).heap[s + 1 + 1]? = some c := by
  subst hs
  have e1 : (W.alloc a).heap.size = W.heap.size + 1 := by simp
  have e2 : ((W.alloc a).alloc b).heap.size = W.heap.size + 1 + 1 := by simp
  refine ⟨?_, ?_, ?_⟩
  · rw [heap_alloc_old _ _ (by rw [e2]; omega), heap_alloc_old _ _ (by rw [e1]; omega)]; exact heap_alloc_new W a
  · rw [heap_alloc_old _ _ (by rw [e2]; omega)]; have h := heap_alloc_new (W.alloc a) b; rwa [e1] at h
  · have h := heap_alloc_new ((W.alloc a).alloc b) c; rwa [e2] at h
theorem aA_row : ∀ i, i < 3 → (#[.int .i64 0, .int .i64 0, .int .i64 1] : Array Value)[i]? = some (.int .i64 (aA i)) := by intro i hi; rcases i with _ | _ | _ | i <;> first | rfl | omega
theorem aZ_row : ∀ i, i < 3 → (#[.int .u64 4, .int .u64 8, .int .u64 8] : Array Value)[i]? = some (.int .u64 (aZ i)) := by intro i hi; rcases i with _ | _ | _ | i <;> first | rfl | omega
theorem aS_row : ∀ i, i < 4 → (#[.int .i64 0, .int .i64 1, .int .i64 2, .int .i64 7] : Array Value)[i]? = some (.int .i64 (aS i)) := by intro i hi; rcases i with _ | _ | _ | _ | i <;> first | rfl | omega
theorem zZ_row : ∀ i, i < 1 → (#[.int .i64 0] : Array Value)[i]? = some (.int .i64 (zZ i)) := by intro i hi; rcases i with _ | i <;> first | rfl | omega
theorem awake19_any (w : World) : Calls Try.prog 10 #[] w fun r w' => r = .returned (.bool true) ∧ Below w.heap.size w w' := by
  have k1 := fun w => lhd_Out zeroR 0 zero_is w
  have k2 := fun w => lhd_Hit (moreR zeroR 0 8) 0 (moreR_is zero_is _ _) w
  have k3 := fun w => lhd_Hit (moreR (moreR zeroR 0 8) 0 0) 0 (moreR_is (moreR_is zero_is _ _) _ _) w
  have k4 := fun w => lhd_Hit (moreR (moreR (moreR zeroR 0 8) 0 0) 0 0) 0 (moreR_is (moreR_is (moreR_is zero_is _ _) _ _) _ _) w
  have k5 := fun w => lhd_Out rA 3 rA_is w
  have k6 := fun w => lhd_Out (moreR rA 3 8) 9 (moreR_is rA_is _ _) w
  have k9 := fun w => lhd_Fade rB rB_is w
  have kv1 := fun w b0 b1 b2 x y z => lhd_Victim_row rA aA aZ aS rA_is aZ_in aS_in (a0 := some ⟨b0, 0, none⟩) (a1 := some ⟨b1, 0, none⟩) (a2 := some ⟨b2, 0, none⟩) (la := 3) (ca := 3) (lz := 3) (cz := 3) (ls := 4) (cs := 4) (by decide) w x y z
  have kv2 := fun w b2 z => lhd_Victim_row rA zZ zZ zZ rA_is zZ_in zZi_in (a0 := none) (a1 := none) (a2 := some ⟨b2, 0, none⟩) (la := 0) (ca := 0) (lz := 0) (cz := 0) (ls := 1) (cs := 1) (by decide) w (Or.inl rfl) (Or.inl rfl) z
  rw [aw_v1, show vict aS (1, true) = 1 from rfl] at kv1
  rw [aw_v2, show vict zZ (0, false) = 0 from rfl] at kv2
  obtain ⟨d1, d2, d3, d4, d5⟩ := aw_d
  obtain ⟨a1, a2, a3, a4⟩ := aw_a
  obtain ⟨f1, f2, f3⟩ := aw_f
  have kd1 := fun w => lhd_Density rA 0 rA_is w
  have kd2 := fun w => lhd_Density rA 1 rA_is w
  have kd3 := fun w => lhd_Density rB 3 rB_is w
  have kd4 := fun w => lhd_Density rB 0 rB_is w
  have kd5 := fun w => lhd_Density rB 8 rB_is w
  rw [d1] at kd1; rw [d2] at kd2; rw [d3] at kd3; rw [d4] at kd4; rw [d5] at kd5
  have ka1 := fun w => lhd_Age 0 (by decide) (by decide) w
  have ka2 := fun w => lhd_Age 5 (by decide) (by decide) w
  have ka3 := fun w => lhd_Age 64 (by decide) (by decide) w
  have ka4 := fun w => lhd_Age 9223372036854775808 (by decide) (by decide) w
  rw [a1] at ka1; rw [a2] at ka2; rw [a3] at ka3; rw [a4] at ka4
  have hb := zero_rank
  have hsA : (rankC rA).size = 16 := rowC_size _ 16
  have h1A : (rankC rA).all (·.oneCell') = true := rowC_one _ 16
  have hsB : (rankC rB).size = 16 := rowC_size _ 16
  have h1B : (rankC rB).all (·.oneCell') = true := rowC_one _ 16
  have hsF : (rankC (halfR rB)).size = 16 := rowC_size _ 16
  have h1F : (rankC (halfR rB)).all (·.oneCell') = true := rowC_one _ 16
  have g1 : (rankC (halfR rB))[0]? = some (.int .u64 1) := (rowC_get (by decide)).trans (by rw [f1])
  have g2 : (rankC (halfR rB))[8]? = some (.int .u64 0) := (rowC_get (by decide)).trans (by rw [f2])
  have g3 : (rankC (halfR rB))[11]? = some (.int .u64 0) := (rowC_get (by decide)).trans (by rw [f3])
  change ∀ w, Calls _ _ _ _ (fun e w' => e = .returned (rankV rA) ∧ _) at k4
  change ∀ w, Calls _ _ _ _ (fun e w' => e = .returned (rankV rB) ∧ _) at k6
  clear d1 d2 d3 d4 d5 a1 a2 a3 a4 f1 f2 f3
  unfold rankV at *
  generalize rankC (halfR rB) = cF at *
  generalize rankC rB = cB at *
  generalize rankC (moreR rA 3 8) = c5 at *
  generalize rankC rA = cA at *
  generalize rankC (moreR (moreR (moreR zeroR 0 8) 0 0) 0 0) = c3 at *
  generalize rankC (moreR (moreR zeroR 0 8) 0 0) = c2 at *
  generalize rankC (moreR zeroR 0 8) = c1 at *
  generalize rankC zeroR = c0 at *
  go_enter Try.func10, Try.ntmps10
  go_wp2_with (refine wpList_build_to rfl _ _ rfl c0 (Eq.trans (b := Try.prog.built 25 []) (by kernel_rfl) hb) ?_)
  refine (k1 _).mono ?_
  rintro e w1 ⟨rfl, hB1⟩
  go_wp2_with fail
  refine (k2 _).mono ?_
  rintro e w2 ⟨rfl, hb2⟩
  have hB2 := hB1.trans (hb2.mono hB1.size)
  go_wp2_with fail
  refine (k3 _).mono ?_
  rintro e w3 ⟨rfl, hb3⟩
  have hB3 := hB2.trans (hb3.mono hB2.size)
  go_wp2_with fail
  refine (k4 _).mono ?_
  rintro e w4 ⟨rfl, hb4⟩
  have hB4 := hB3.trans (hb4.mono hB3.size)
  clear hB1 hb2 hB2 hb3 hB3 hb4 k1 k2 k3 k4 hb
  go_wp2_with (first
    | (refine wpList_store_row rfl _ _ _ rfl w4.heap.size cA rfl rfl 25 _ (heap_alloc_new w4 _) (by rw [rank_size, hsA]) (by rw [hsA]; kernel_rfl) h1A ?_)
    | (refine wpList_load_row rfl _ _ rfl w4.heap.size rfl 25 cA (0, 0) ((Try.prog.underlying 25).get rank_some) (new_row hB4 _ _ _).1 (Option.some_get _).symm (by kernel_rfl) (by rw [rank_size, hsA]) ?_))
  refine (k5 _).mono ?_
  rintro e w5 ⟨rfl, hb5⟩
  have hB5 : Below w.heap.size w w5 := (new_row hB4 _ _ _).2.1.trans (hb5.mono (new_row hB4 _ _ _).2.1.size)
  have G5 : w5.heap[w4.heap.size]? = some (.cells cA 25 (0, 0)) := (hb5.block _ (by simp)).trans (setRow_heap _ _ _ _ _ _ (heap_alloc_new w4 _))
  have hS5 : w4.heap.size < w5.heap.size := by have := hb5.size; simp at this; omega
  clear hb5 hB4
  generalize w4.heap.size = y1 at *
  go_wp2_with fail
  refine (k6 _).mono ?_
  rintro e w6 ⟨rfl, hb6⟩
  have hB6 := hB5.trans (hb6.mono hB5.size)
  have G6 := (hb6.block _ hS5).trans G5
  have hS6 : y1 < w6.heap.size := Nat.lt_of_lt_of_le hS5 hb6.size
  clear hb6 hB5 G5 hS5 k5 k6
  go_wp2_with (first
    | (refine wpList_store_row rfl _ _ _ rfl w6.heap.size cB rfl rfl 25 _ (heap_alloc_new w6 _) (by rw [rank_size, hsB]) (by rw [hsB]; kernel_rfl) h1B ?_)
    | (refine wpList_load_row rfl _ _ rfl y1 rfl 25 cA (0, 0) ((Try.prog.underlying 25).get rank_some) (((new_row hB6 _ _ _).2.2.2 _ hS6).trans G6) (Option.some_get _).symm (by kernel_rfl) (by rw [rank_size, hsA]) ?_))
  refine (kv1 _ _ _ _ (lit_row (three_new _ (by simp) _ _ _).1 aA_row (by decide)) (lit_row (three_new _ (by simp) _ _ _).2.1 aZ_row (by decide)) (lit_row (three_new _ (by simp) _ _ _).2.2 aS_row (by decide))).mono ?_
  rintro e w7 ⟨rfl, hb7⟩
  have hB7 : Below w.heap.size w w7 := ((((new_row hB6 _ _ _).2.1.alloc (new_row hB6 _ _ _).2.1.size _).alloc (by have := hB6.size; simp; omega) _).alloc (by have := hB6.size; simp; omega) _).trans (hb7.mono (by have := hB6.size; simp; omega))
  have G7 : w7.heap[y1]? = some (.cells cA 25 (0, 0)) := by
    refine (hb7.block _ (by simp; omega)).trans ?_
    rw [heap_alloc_old _ _ (by simp; omega), heap_alloc_old _ _ (by simp; omega), heap_alloc_old _ _ (by simp; omega)]
    exact ((new_row hB6 _ _ _).2.2.2 _ hS6).trans G6
  have H7 : w7.heap[w6.heap.size]? = some (.cells cB 25 (0, 0)) := by
    refine (hb7.block _ (by simp; omega)).trans ?_
    rw [heap_alloc_old _ _ (by simp; omega), heap_alloc_old _ _ (by simp; omega), heap_alloc_old _ _ (by simp)]
    exact (new_row hB6 _ _ _).1
  have hS7 : w6.heap.size < w7.heap.size := by have := hb7.size; simp at this; omega
  clear hb7 hB6 G6 kv1
  generalize w6.heap.size = y2 at *
  go_wp2_with (refine wpList_load_row rfl _ _ rfl y1 rfl 25 cA (0, 0) ((Try.prog.underlying 25).get rank_some) G7 (Option.some_get _).symm (by kernel_rfl) (by rw [rank_size, hsA]) ?_)
  refine (kv2 _ _ (lit_row (heap_alloc_new _ _) zZ_row (by decide))).mono ?_
  rintro e w8 ⟨rfl, hb8⟩
  have hB8 : Below w.heap.size w w8 := (hB7.alloc hB7.size _).trans (hb8.mono (by have := hB7.size; simp; omega))
  have G8 : w8.heap[y1]? = some (.cells cA 25 (0, 0)) := (hb8.block _ (by simp; omega)).trans ((heap_alloc_old _ _ (by omega)).trans G7)
  have H8 : w8.heap[y2]? = some (.cells cB 25 (0, 0)) := (hb8.block _ (by simp; omega)).trans ((heap_alloc_old _ _ (by omega)).trans H7)
  have hS8 : y2 < w8.heap.size := by have := hb8.size; simp at this; omega
  clear hb8 hB7 G7 H7 hS7 kv2
  go_wp2_with (refine wpList_load_row rfl _ _ rfl y2 rfl 25 cB (0, 0) ((Try.prog.underlying 25).get rank_some) H8 (Option.some_get _).symm (by kernel_rfl) (by rw [rank_size, hsB]) ?_)
  refine (k9 _).mono ?_
  rintro e w9 ⟨rfl, hb9⟩
  have hB9 := hB8.trans (hb9.mono hB8.size)
  have G9 := (hb9.block _ (Nat.lt_trans hS6 hS8)).trans G8
  have H9 := (hb9.block _ hS8).trans H8
  have hS9 : y2 < w9.heap.size := Nat.lt_of_lt_of_le hS8 hb9.size
  clear hb9 hB8 G8 H8 hS8 k9
  go_wp2_with (refine wpList_store_row rfl _ _ _ rfl w9.heap.size cF rfl rfl 25 _ (heap_alloc_new w9 _) (by rw [rank_size, hsF]) (by rw [hsF]; kernel_rfl) h1F ?_)
  refine (ka1 _).mono ?_
  rintro e W ⟨rfl, hW⟩
  have G : W.heap[y1]? = some (.cells cA 25 (0, 0)) := by rw [← hW]; exact ((new_row hB9 _ _ _).2.2.2 _ (by omega)).trans G9
  have H : W.heap[y2]? = some (.cells cB 25 (0, 0)) := by rw [← hW]; exact ((new_row hB9 _ _ _).2.2.2 _ hS9).trans H9
  have F : W.heap[w9.heap.size]? = some (.cells cF 25 (0, 0)) := by rw [← hW]; exact (new_row hB9 _ _ _).1
  have hB10 : Below w.heap.size w W := by rw [← hW]; exact (new_row hB9 _ _ _).2.1
  have hS10 : w9.heap.size < W.heap.size := by rw [← hW]; simp
  clear hW hB9 G9 H9 ka1
  generalize w9.heap.size = y3 at *
  go_wp2_with fail
  refine (ka2 _).mono ?_
  rintro e _ ⟨rfl, rfl⟩
  go_wp2_with fail
  refine (ka3 _).mono ?_
  rintro e _ ⟨rfl, rfl⟩
  go_wp2_with fail
  refine (ka4 _).mono ?_
  rintro e _ ⟨rfl, rfl⟩
  clear ka2 ka3 ka4
  dsimp only
  repeat (first | (refine wpList_load_rowW (by kernel_rfl) _ _ (by rfl) y1 (by rfl) 25 cA (0, 0) ((Try.prog.underlying 25).get rank_some) G (Option.some_get _).symm (by kernel_rfl) (by rw [rank_size, hsA]) ?_) | go_values | go_skip | go_guarded | go_step)
  refine (kd1 _).mono ?_
  rintro e w11 ⟨rfl, hb11⟩
  have hB11 := hB10.trans (hb11.mono hB10.size)
  have G11 := (hb11.block _ (by omega)).trans G
  have H11 := (hb11.block _ (by omega)).trans H
  have F11 := (hb11.block _ (by omega)).trans F
  have hS11 : y3 < w11.heap.size := Nat.lt_of_lt_of_le hS10 hb11.size
  clear hb11 hB10 G H F hS10 kd1
  dsimp only
  repeat (first | (refine wpList_load_rowW (by kernel_rfl) _ _ (by rfl) y1 (by rfl) 25 cA (0, 0) ((Try.prog.underlying 25).get rank_some) G11 (Option.some_get _).symm (by kernel_rfl) (by rw [rank_size, hsA]) ?_) | go_values | go_skip | go_guarded | go_step)
  refine (kd2 _).mono ?_
  rintro e w12 ⟨rfl, hb12⟩
  have hB12 := hB11.trans (hb12.mono hB11.size)
  have G12 := (hb12.block _ (by omega)).trans G11
  have H12 := (hb12.block _ (by omega)).trans H11
  have F12 := (hb12.block _ (by omega)).trans F11
  have hS12 : y3 < w12.heap.size := Nat.lt_of_lt_of_le hS11 hb12.size
  clear hb12 hB11 G11 H11 F11 hS11 kd2
  dsimp only
  repeat (first | (refine wpList_load_rowW (by kernel_rfl) _ _ (by rfl) y2 (by rfl) 25 cB (0, 0) ((Try.prog.underlying 25).get rank_some) H12 (Option.some_get _).symm (by kernel_rfl) (by rw [rank_size, hsB]) ?_) | go_values | go_skip | go_guarded | go_step)
  refine (kd3 _).mono ?_
  rintro e w13 ⟨rfl, hb13⟩
  have hB13 := hB12.trans (hb13.mono hB12.size)
  have G13 := (hb13.block _ (by omega)).trans G12
  have H13 := (hb13.block _ (by omega)).trans H12
  have F13 := (hb13.block _ (by omega)).trans F12
  have hS13 : y3 < w13.heap.size := Nat.lt_of_lt_of_le hS12 hb13.size
  clear hb13 hB12 G12 H12 F12 hS12 kd3
  dsimp only
  repeat (first | (refine wpList_load_rowW (by kernel_rfl) _ _ (by rfl) y2 (by rfl) 25 cB (0, 0) ((Try.prog.underlying 25).get rank_some) H13 (Option.some_get _).symm (by kernel_rfl) (by rw [rank_size, hsB]) ?_) | go_values | go_skip | go_guarded | go_step)
  refine (kd4 _).mono ?_
  rintro e w14 ⟨rfl, hb14⟩
  have hB14 := hB13.trans (hb14.mono hB13.size)
  have G14 := (hb14.block _ (by omega)).trans G13
  have H14 := (hb14.block _ (by omega)).trans H13
  have F14 := (hb14.block _ (by omega)).trans F13
  have hS14 : y3 < w14.heap.size := Nat.lt_of_lt_of_le hS13 hb14.size
  clear hb14 hB13 G13 H13 F13 hS13 kd4
  dsimp only
  repeat (first | (refine wpList_load_rowW (by kernel_rfl) _ _ (by rfl) y2 (by rfl) 25 cB (0, 0) ((Try.prog.underlying 25).get rank_some) H14 (Option.some_get _).symm (by kernel_rfl) (by rw [rank_size, hsB]) ?_) | go_values | go_skip | go_guarded | go_step)
  refine (kd5 _).mono ?_
  rintro e w15 ⟨rfl, hb15⟩
  have hB15 := hB14.trans (hb15.mono hB14.size)
  have G15 := (hb15.block _ (by omega)).trans G14
  have H15 := (hb15.block _ (by omega)).trans H14
  have F15 := (hb15.block _ (by omega)).trans F14
  have hS15 : y3 < w15.heap.size := Nat.lt_of_lt_of_le hS14 hb15.size
  clear hb15 hB14 G14 H14 F14 hS14 kd5
  have q1 : w15.cell? ⟨y3, 0, none⟩ = some (.int .u64 1) := (cell_of_row _ _ _ _ _ _ F15).trans g1
  have q2 : w15.cell? ⟨y3, 8, none⟩ = some (.int .u64 0) := (cell_of_row _ _ _ _ _ _ F15).trans g2
  have q3 : w15.cell? ⟨y3, 11, none⟩ = some (.int .u64 0) := (cell_of_row _ _ _ _ _ _ F15).trans g3
  go_wp2_with fail
  go_ret
  exact ⟨rfl, hB15⟩
end Go.Proofs.Ytmehejdgdjaipaa
