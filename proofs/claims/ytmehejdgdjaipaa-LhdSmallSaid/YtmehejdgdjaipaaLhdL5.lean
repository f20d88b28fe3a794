/- The walk of LhdSmall. -/
import Derived.Test.YtmehejdgdjaipaaLhdL1
set_option linter.unusedVariables false
set_option maxRecDepth 100000
set_option maxHeartbeats 2000000
namespace Go.Proofs.Ytmehejdgdjaipaa
open Go.RowKit Go.Shelf
attribute [local go_sem ↓] lt_alloc

theorem wpList_load_run {P : Program} {ops : Array Oper} {rest : List Oper} {o : Oper} {a : Act} {w : World} {Q : Exit → Act → World → Prop} (hgd : o.guard = none) (ty : TypeId) (x : Operand) (ho : o.op = .load ty x)
    (ad : Addr) (hx : a.eval x = .pointer (some ad)) (v : Value) (hl : (loadVar ty ad).run P w = .ok v w) (h : wpList P ops Q rest (a.put o.dst v) w) : wpList P ops Q (o :: rest) a w :=
  wpList_plain hgd fun _ hK => by
    unfold Oper.wp execOp
    simp only [ho, hx, Instr.loadAt, Instr.sureAddr, Sem.run_bind, Sem.run_pure, Result.andThen_ok, hl]
    exact hK _ _ h
theorem arr_hi_built (R : Nat → Int) : Try.prog.built 25 [(1, .agg (rowC (evR R) 8))] = some (rankC (joinR zeroR (evR R))) := by kernel_rfl
theorem lost_is {R : Nat → Int} (h : IsR R) : IsR (joinR zeroR (evR R)) := fun i => by
  unfold joinR zeroR evR; split
  · omega
  · exact h _
theorem first_is {n : Int} (n0 : 0 ≤ n) (n1 : n < 4294967296) : IsR (upd zeroR 0 n) := upd_is zero_is 0 n0 (by omega)
theorem small_facts19 {R : Nat → Int} (h : IsR R) {n : Int} (n0 : 0 ≤ n) (n1 : n < 4294967296) {k : Nat} (hk : k < 8) :
    densV R k ≤ 4294967296 ∧ (densV (joinR zeroR (evR R)) k = 0 ↔ ∃ j, k ≤ j ∧ j < 8 ∧ 0 < R (8 + j)) ∧ densV (upd zeroR 0 n) 0 = 4294967296 ∧ densV (upd zeroR 0 n) (1 + (k : Int) % 7) = 4294967296 := by
  refine ⟨(densV_bd h _).2, ?_, ?_, ?_⟩
  · have e : densV (joinR zeroR (evR R)) k = densR (joinR zeroR (evR R)) k := by unfold densV; rw [if_pos (by omega)]; rfl
    rw [e, densR_lost (lost_is h) hk (fun i hi => by unfold joinR; rw [if_pos hi]; rfl)]
    constructor
    · rintro ⟨i, h1, h2, h3⟩
      have e2 : joinR zeroR (evR R) (i + 8) = R (8 + i) := by unfold joinR evR; rw [if_neg (by omega)]; congr 1; omega
      rw [e2] at h3
      have := h (8 + i)
      exact ⟨i, h1, h2, by omega⟩
    · rintro ⟨i, h1, h2, h3⟩
      have e2 : joinR zeroR (evR R) (i + 8) = R (8 + i) := by unfold joinR evR; rw [if_neg (by omega)]; congr 1; omega
      exact ⟨i, h1, h2, by rw [e2]; omega⟩
  · have e : densV (upd zeroR 0 n) 0 = densR (upd zeroR 0 n) 0 := by unfold densV; rw [if_pos (by omega)]; rfl
    rw [e]
    exact densR_first (first_is n0 n1) (fun i h0 hi => by unfold upd; rw [if_neg (by omega)]; rfl)
  · have e : densV (upd zeroR 0 n) (1 + (k : Int) % 7) = densR (upd zeroR 0 n) (1 + k % 7) := by
      unfold densV; rw [if_pos (by omega), show (1 + (k : Int) % 7).toNat = 1 + k % 7 from by omega]
    rw [e]
    exact densR_none (first_is n0 n1) (by omega) (fun i h0 hi => by unfold upd; rw [if_neg (by omega), if_neg (by omega)]; exact ⟨rfl, rfl⟩)
theorem small19_walk (R : Nat → Int) (n a : Int) (hR : IsR R) (n0 : 0 ≤ n) (n1 : n < 4294967296) (a0 : 0 ≤ a) (a1 : a < 256) (w : World) :
    Calls Try.prog 6 #[rankV R, .int .u32 n, .int .u8 a] w fun r w' => r = .returned (.bool true) ∧ Below w.heap.size w w' := by
  obtain ⟨k, hk⟩ : ∃ k : Nat, a % 8 = k := ⟨(a % 8).toNat, by omega⟩
  have hk8 : k < 8 := by omega
  have H := Lib.hid hR
  have HC := Lib.hid (fun (wr : World) g hg i hi => @cell_rank wr g i R hg hi)
  have ll := Lib.hid (fun (x : World) (g : Nat) (h : x.heap[g]? = some (.cells (rankC R) 25 (0, 0))) => load_hi h)
  have hs : (rankC R).size = 16 := rowC_size R 16
  have hsL : (rankC (joinR zeroR (evR R))).size = 16 := rowC_size _ 16
  have h1L : (rankC (joinR zeroR (evR R))).all (·.oneCell') = true := rowC_one _ 16
  have hsA : (rankC (upd zeroR 0 n)).size = 16 := rowC_size _ 16
  have k1 := fun w => lhd_Density R k hR w
  have k2 := fun w => lhd_Density (joinR zeroR (evR R)) k (lost_is hR) w
  have k3 := fun w => lhd_Density (upd zeroR 0 n) 0 (first_is n0 n1) w
  have k4 := fun w => lhd_Density (upd zeroR 0 n) (1 + (k : Int) % 7) (first_is n0 n1) w
  have hb := arr_hi_built R
  have hz : (rankC zeroR).setIfInBounds 0 (.int .u64 n) = rankC (upd zeroR 0 n) := rowC_upd
  obtain ⟨f1, f2, f3, f4⟩ := small_facts19 hR n0 n1 hk8
  rw [f3] at k3
  rw [f4] at k4
  have F2 := Lib.hid f2
  have HZ := Lib.hid hz
  clear hR f2 f3 f4 hz
  generalize densV R k = d at *
  generalize densV (joinR zeroR (evR R)) k = dl at *
  unfold rankV at *
  generalize rankC (joinR zeroR (evR R)) = cL at *
  generalize rankC (upd zeroR 0 n) = cA at *
  generalize rowC (evR R) 8 = C2 at *
  generalize rankC R = c at *
  go_enter Try.func6, Try.ntmps6
  go_wp2_with fail
  refine (awake19_any _).mono ?_
  rintro e w1 ⟨rfl, hb1⟩
  have hB1 : Below w.heap.size w w1 := ((Below.refl _ _).alloc (Nat.le_refl _) _).trans (hb1.mono (by simp))
  have G1 : w1.heap[w.heap.size]? = some (.cells c 25 (0, 0)) := (hb1.block _ (by simp)).trans (heap_alloc_new w _)
  have hS1 : w.heap.size < w1.heap.size := by have := hb1.size; simp at this; omega
  clear hb1
  have l2 := ll.out _ _ G1
  go_wp2_with (first
    | (refine wpList_load_run rfl _ _ rfl ⟨w.heap.size, 8, none⟩ rfl (.agg C2) l2 ?_)
    | (refine wpList_build_to rfl _ _ rfl cL (Eq.trans (b := Try.prog.built 25 [(1, .agg C2)]) (by kernel_rfl) hb) ?_)
    | (refine wpList_store_row rfl _ _ _ rfl w1.heap.size cL rfl rfl 25 _ (heap_alloc_new w1 _) (by rw [rank_size, hsL]) (by rw [hsL]; kernel_rfl) h1L ?_))
  refine forget (fun W => Hid (W.heap[w.heap.size]? = some (.cells c 25 (0, 0))) ∧ Hid (W.heap[w1.heap.size]? = some (.cells cL 25 (0, 0))) ∧ Below w.heap.size w W ∧ w1.heap.size < W.heap.size) ?_ ?_
  · exact ⟨Lib.hid (((new_row hB1 _ _ _).2.2.2 _ hS1).trans G1), Lib.hid (new_row hB1 _ _ _).1, (new_row hB1 _ _ _).2.1, by simp⟩
  rintro W ⟨G, X, hB, hW⟩
  clear G1 hB1 l2 ll
  generalize w1.heap.size = x9 at *
  go_loopw [10, 11] (fun bv iv wr => ∃ (i : Nat) (b : Bool), k ≤ i ∧ i ≤ 8 ∧ iv = .int .i64 i ∧ bv = .bool b ∧ Hid (b = true ↔ ∃ j, k ≤ j ∧ j < i ∧ 0 < R (8 + j)) ∧ Below W.heap.size W wr) (fun _ iv _ => 8 - (intOf iv).toNat)
  case atStart => exact ⟨k, false, Nat.le_refl _, by omega, rfl, rfl, Lib.hid ⟨fun h => (by cases h), fun h => (by obtain ⟨j, h1, h2, _⟩ := h; omega)⟩, Below.refl _ _⟩
  case round =>
    obtain ⟨i, b, hki, hi, rfl, rfl, Hb, hBW⟩ := hrel
    have hSW := hBW.size
    by_cases hlt : i < 8
    · cases b
      · have q1 := HC.out wr w.heap.size ((hBW.block _ (by omega)).trans G.out) (8 + i) (by omega)
        obtain ⟨r0, r1⟩ := H.out (8 + i)
        have Hn : ∀ b' : Bool, b' = decide (0 < R (8 + i)) → Hid (b' = true ↔ ∃ j, k ≤ j ∧ j < i + 1 ∧ 0 < R (8 + j)) := fun b' hb' => Lib.hid (by
          subst hb'
          rw [decide_eq_true_eq]
          constructor
          · intro h; exact ⟨i, hki, by omega, h⟩
          · rintro ⟨j, h1, h2, h3⟩
            rcases Nat.lt_succ_iff_lt_or_eq.1 h2 with h | rfl
            · exact absurd (Hb.out.2 ⟨j, h1, h, h3⟩) (by decide)
            · exact h3)
        by_cases hp : 0 < R (8 + i)
        · have hd : decide (0 < R (8 + i)) = true := decide_eq_true hp
          have HN := Hn true hd.symm
          clear Hn Hb
          generalize hr : R (8 + i) = r at *
          clear hr
          go_wp2_with fail
          exact ⟨⟨i + 1, true, by omega, by omega, by go_num, rfl, HN, hBW⟩, by simp [intOf]; omega⟩
        · have hd : decide (0 < R (8 + i)) = false := decide_eq_false hp
          have HN := Hn false hd.symm
          clear Hn Hb
          generalize hr : R (8 + i) = r at *
          clear hr
          go_wp2_with fail
          exact ⟨⟨i + 1, false, by omega, by omega, by go_num, rfl, HN, hBW⟩, by simp [intOf]; omega⟩
      · have HN : Hid (true = true ↔ ∃ j, k ≤ j ∧ j < i + 1 ∧ 0 < R (8 + j)) := Lib.hid ⟨fun _ => by
            obtain ⟨j, h1, h2, h3⟩ := Hb.out.1 rfl
            exact ⟨j, h1, by omega, h3⟩, fun _ => rfl⟩
        clear Hb
        go_wp2_with fail
        exact ⟨⟨i + 1, true, by omega, by omega, by go_num, rfl, HN, hBW⟩, by simp [intOf]; omega⟩
    · obtain rfl : i = 8 := by omega
      have hB8 := hB.trans (hBW.mono hB.size)
      have G8 := (hBW.block _ (by omega)).trans G.out
      have X8 := (hBW.block x9 (by omega)).trans X.out
      have hW8 : x9 < wr.heap.size := by omega
      have hdl : (dl == 0) = b := by
        rw [Bool.eq_iff_iff, beq_iff_eq]
        exact F2.out.trans Hb.out.symm
      clear G X hB F2 Hb
      have hSS : w.heap.size < wr.heap.size := by omega
      repeat (first | (refine wpList_load_rowW (by kernel_rfl) _ _ (by rfl) w.heap.size (by rfl) 25 c (0, 0) ((Try.prog.underlying 25).get rank_some) ((heap_alloc_old wr _ hSS).trans G8) (Option.some_get _).symm (by kernel_rfl) (by rw [rank_size, hs]) ?_) | go_values | go_skip | go_guarded | go_step)
      refine (k1 _).mono ?_
      rintro e wa ⟨rfl, hba⟩
      have hBa : Below w.heap.size w wa := (hB8.alloc hB8.size _).trans (hba.mono (by simp; omega))
      have Xa : wa.heap[x9]? = some (.cells cL 25 (0, 0)) := (hba.block _ (by simp; omega)).trans ((heap_alloc_old wr _ hW8).trans X8)
      have Aa : wa.heap[wr.heap.size]? = some (.cells cA 25 (0, 0)) := by
        refine (hba.block _ (by simp)).trans ((heap_alloc_new wr _).trans ?_)
        rw [← HZ.out]; rfl
      have hSa : wr.heap.size < wa.heap.size := by have := hba.size; simp at this; omega
      clear hba G8 X8 hB8 k1
      generalize wr.heap.size = y at *
      dsimp only
      repeat (first | (refine wpList_load_rowW (by kernel_rfl) _ _ (by rfl) x9 (by rfl) 25 cL (0, 0) ((Try.prog.underlying 25).get rank_some) Xa (Option.some_get _).symm (by kernel_rfl) (by rw [rank_size, hsL]) ?_) | go_values | go_skip | go_guarded | go_step)
      refine (k2 _).mono ?_
      rintro e wb ⟨rfl, hbb⟩
      have hBb := hBa.trans (hbb.mono hBa.size)
      have Ab := (hbb.block _ hSa).trans Aa
      have hSb : y < wb.heap.size := Nat.lt_of_lt_of_le hSa hbb.size
      clear hbb Aa Xa hBa k2 hSa
      dsimp only
      repeat (first | (refine wpList_load_rowW (by kernel_rfl) _ _ (by rfl) y (by rfl) 25 cA (0, 0) ((Try.prog.underlying 25).get rank_some) Ab (Option.some_get _).symm (by kernel_rfl) (by rw [rank_size, hsA]) ?_) | go_values | go_skip | go_guarded | go_step)
      refine (k3 _).mono ?_
      rintro e wc ⟨rfl, hbc⟩
      have hBc := hBb.trans (hbc.mono hBb.size)
      have Ac := (hbc.block _ hSb).trans Ab
      have hSc : y < wc.heap.size := Nat.lt_of_lt_of_le hSb hbc.size
      clear hbc Ab hBb k3 hSb
      dsimp only
      repeat (first | (refine wpList_load_rowW (by kernel_rfl) _ _ (by rfl) y (by rfl) 25 cA (0, 0) ((Try.prog.underlying 25).get rank_some) Ac (Option.some_get _).symm (by kernel_rfl) (by rw [rank_size, hsA]) ?_) | go_values | go_skip | go_guarded | go_step)
      refine (k4 _).mono ?_
      rintro e wd ⟨rfl, hbd⟩
      have hBd := hBc.trans (hbd.mono hBc.size)
      go_wp2_with fail
      go_ret
      exact ⟨rfl, hBd⟩
end Go.Proofs.Ytmehejdgdjaipaa
