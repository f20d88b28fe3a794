/- The walk of LhdTurns. -/
import Derived.Test.YtmehejdgdjaipaaLhdL1
set_option linter.unusedVariables false
set_option maxRecDepth 100000
set_option maxHeartbeats 2000000
namespace Go.Proofs.Ytmehejdgdjaipaa
open Go.RowKit Go.Shelf
attribute [local go_sem ↓] lt_alloc

theorem turns_comm (R : Nat → Int) (a b : Int) : moreR (moreR R a 0) b 8 = moreR (moreR R b 8) a 0 := by
  by_cases ha : 0 ≤ a ∧ a < 8
  · by_cases hb : 0 ≤ b ∧ b < 8
    · unfold moreR
      rw [if_pos hb, if_pos ha, if_pos ha, if_pos hb]
      have e1 : ∀ v, upd R (a.toNat + 0) v (b.toNat + 8) = R (b.toNat + 8) := fun v => by unfold upd; rw [if_neg (by omega)]
      have e2 : ∀ v, upd R (b.toNat + 8) v (a.toNat + 0) = R (a.toNat + 0) := fun v => by unfold upd; rw [if_neg (by omega)]
      rw [e1, e2]
      funext i
      unfold upd
      by_cases h1 : i = a.toNat + 0
      · rw [if_neg (by omega), if_pos h1, if_pos h1]
      · rw [if_neg h1, if_neg h1]
    · unfold moreR; rw [if_neg hb, if_neg hb]
  · unfold moreR; rw [if_neg ha, if_neg ha]
theorem moreR_at (R : Nat → Int) (a : Int) (o i : Nat) : moreR R a o i = if (0 ≤ a ∧ a < 8) ∧ i = a.toNat + o then addS (R i) 1 else R i := by
  unfold moreR
  by_cases ha : 0 ≤ a ∧ a < 8
  · rw [if_pos ha]
    show (if i = a.toNat + o then addS (R (a.toNat + o)) 1 else R i) = _
    by_cases hi : i = a.toNat + o
    · rw [if_pos hi, if_pos ⟨ha, hi⟩, hi]
    · rw [if_neg hi, if_neg (fun h => hi h.2)]
  · rw [if_neg ha, if_neg (fun h => ha h.1)]
theorem addS_one {x : Int} (h : x < 18446744073709551616) : addS x 1 = x + (if x < 18446744073709551615 then 1 else 0) := by unfold addS; split <;> split <;> omega
/-- What a hit adds at i, and an eviction. -/
theorem turns_at {R : Nat → Int} (h : IsR R) (a b : Int) {i : Nat} (hi : i < 8) :
    moreR (moreR R a 0) b 8 i = R i + (if (i : Int) = a ∧ R i < 18446744073709551615 then 1 else 0) ∧
    moreR (moreR R a 0) b 8 (8 + i) = R (8 + i) + (if (i : Int) = b ∧ R (8 + i) < 18446744073709551615 then 1 else 0) := by
  have h0 := h i
  have h8 := h (8 + i)
  constructor
  · rw [moreR_at, if_neg (by omega), moreR_at, addS_one h0.2]
    by_cases ha : (i : Int) = a
    · rw [if_pos (by omega)]
      by_cases hm : R i < 18446744073709551615
      · rw [if_pos hm, if_pos ⟨ha, hm⟩]
      · rw [if_neg hm, if_neg (fun h => hm h.2)]
    · rw [if_neg (by omega), if_neg (fun h => ha h.1)]; omega
  · have e8 : moreR R a 0 (8 + i) = R (8 + i) := by rw [moreR_at, if_neg (by omega)]
    rw [moreR_at, e8, addS_one h8.2]
    by_cases hb : (i : Int) = b
    · rw [if_pos (by omega)]
      by_cases hm : R (8 + i) < 18446744073709551615
      · rw [if_pos hm, if_pos ⟨hb, hm⟩]
      · rw [if_neg hm, if_neg (fun h => hm h.2)]
    · rw [if_neg (by omega), if_neg (fun h => hb h.1)]; omega
theorem turns19_walk (R : Nat → Int) (a b : Int) (h : IsR R) (w : World) :
    Calls Try.prog 9 #[rankV R, .int .i64 a, .int .i64 b] w fun r w' => r = .returned (.bool true) ∧ Below w.heap.size w w' := by
  have k1 := fun w => lhd_Hit R a h w
  have k2 := fun w => lhd_Out (moreR R a 0) b (moreR_is h _ _) w
  have k3 := fun w => lhd_Out R b h w
  have k4 := fun w => lhd_Hit (moreR R b 8) a (moreR_is h _ _) w
  rw [← turns_comm] at k4
  have H := Lib.hid h
  have HT := Lib.hid (fun i (hi : i < 8) => turns_at h a b hi)
  have hs : (rankC R).size = 16 := rowC_size R 16
  have hs2 : (rankC (moreR (moreR R a 0) b 8)).size = 16 := rowC_size _ 16
  have h12 : (rankC (moreR (moreR R a 0) b 8)).all (·.oneCell') = true := rowC_one _ 16
  have hE := fun w => rank_equal (moreR (moreR R a 0) b 8) (moreR (moreR R a 0) b 8) w
  rw [sameR_self] at hE
  have HC := Lib.hid (fun (wr : World) g hg i hi => @cell_rank wr g i R hg hi)
  have HC2 := Lib.hid (fun (wr : World) g hg i hi => @cell_rank wr g i (moreR (moreR R a 0) b 8) hg hi)
  clear h
  generalize hR2 : moreR (moreR R a 0) b 8 = R2 at *
  unfold rankV at *
  generalize rankC (moreR R a 0) = cH at *
  generalize rankC (moreR R b 8) = cO at *
  generalize rankC R2 = c2 at *
  generalize rankC R = c at *
  go_enter Try.func9, Try.ntmps9
  go_wp2_with fail
  refine (awake19_any _).mono ?_
  rintro e w1 ⟨rfl, hb1⟩
  have hB1 : Below w.heap.size w w1 := ((Below.refl _ _).alloc (Nat.le_refl _) _).trans (hb1.mono (by simp))
  have G1 : w1.heap[w.heap.size]? = some (.cells c 25 (0, 0)) := (hb1.block _ (by simp)).trans (heap_alloc_new w _)
  have hS1 : w.heap.size < w1.heap.size := by have := hb1.size; simp at this; omega
  clear hb1
  go_wp2_with (refine wpList_load_row rfl _ _ rfl w.heap.size rfl 25 c (0, 0) ((Try.prog.underlying 25).get rank_some) G1 (Option.some_get _).symm (by kernel_rfl) (by rw [rank_size, hs]) ?_)
  refine (k1 _).mono ?_
  rintro e w2 ⟨rfl, hb2⟩
  have hB2 := hB1.trans (hb2.mono hB1.size)
  have G2 := (hb2.block _ hS1).trans G1
  have hS2 : w.heap.size < w2.heap.size := Nat.lt_of_lt_of_le hS1 hb2.size
  clear hb2 hB1 G1 hS1
  go_wp2_with fail
  refine (k2 _).mono ?_
  rintro e w3 ⟨rfl, hb3⟩
  have hB3 := hB2.trans (hb3.mono hB2.size)
  have G3 := (hb3.block _ hS2).trans G2
  have hS3 : w.heap.size < w3.heap.size := Nat.lt_of_lt_of_le hS2 hb3.size
  clear hb3 hB2 G2 hS2
  go_wp2_with (first
    | (refine wpList_store_row rfl _ _ _ rfl w3.heap.size c2 rfl rfl 25 _ (heap_alloc_new w3 _) (by rw [rank_size, hs2]) (by rw [hs2]; kernel_rfl) h12 ?_)
    | (refine wpList_load_row rfl _ _ rfl w.heap.size rfl 25 c (0, 0) ((Try.prog.underlying 25).get rank_some) (((new_row hB3 _ _ _).2.2.2 _ hS3).trans G3) (Option.some_get _).symm (by kernel_rfl) (by rw [rank_size, hs]) ?_))
  refine (k3 _).mono ?_
  rintro e w4 ⟨rfl, hb4⟩
  have hB4 : Below w.heap.size w w4 := (new_row hB3 _ _ _).2.1.trans (hb4.mono (new_row hB3 _ _ _).2.1.size)
  have G4 : w4.heap[w.heap.size]? = some (.cells c 25 (0, 0)) := (hb4.block _ (by simp; omega)).trans (((new_row hB3 _ _ _).2.2.2 _ hS3).trans G3)
  have X4 : w4.heap[w3.heap.size]? = some (.cells c2 25 (0, 0)) := (hb4.block _ (by simp)).trans (new_row hB3 _ _ _).1
  have hS4 : w3.heap.size < w4.heap.size := by have := hb4.size; simp at this; omega
  clear hb4 hB3 G3
  generalize w3.heap.size = x at *
  go_wp2_with fail
  refine (k4 _).mono ?_
  rintro e w5 ⟨rfl, hb5⟩
  have hB5 := hB4.trans (hb5.mono hB4.size)
  have G5 := (hb5.block _ (Nat.lt_trans hS3 hS4)).trans G4
  have X5 := (hb5.block _ hS4).trans X4
  have hS5 : x < w5.heap.size := Nat.lt_of_lt_of_le hS4 hb5.size
  clear hb5 hB4 G4 X4 hS4 k1 k2 k3 k4
  go_wp2_with (refine wpList_store_row rfl _ _ _ rfl w5.heap.size c2 rfl rfl 25 _ (heap_alloc_new w5 _) (by rw [rank_size, hs2]) (by rw [hs2]; kernel_rfl) h12 ?_)
  refine forget (fun W => Hid (W.heap[w.heap.size]? = some (.cells c 25 (0, 0))) ∧ Hid (W.heap[x]? = some (.cells c2 25 (0, 0))) ∧ Hid (W.heap[w5.heap.size]? = some (.cells c2 25 (0, 0))) ∧ Below w.heap.size w W ∧ w5.heap.size < W.heap.size) ?_ ?_
  · exact ⟨Lib.hid (((new_row hB5 _ _ _).2.2.2 _ (by omega)).trans G5), Lib.hid (((new_row hB5 _ _ _).2.2.2 _ hS5).trans X5), Lib.hid (new_row hB5 _ _ _).1, (new_row hB5 _ _ _).2.1, by simp⟩
  rintro W ⟨G, X, Y, hB, hW⟩
  clear G5 X5 hB5
  generalize w5.heap.size = y at *
  go_loopw [10] (fun iv wr => ∃ i : Nat, i ≤ 8 ∧ iv = .int .i64 i ∧ Below W.heap.size W wr) (fun iv _ => 8 - (intOf iv).toNat)
  case atStart => exact ⟨0, by omega, rfl, Below.refl _ _⟩
  case round =>
    obtain ⟨i, hi, rfl, hBW⟩ := hrel
    have hSW := hBW.size
    by_cases hlt : i < 8
    · obtain ⟨t1, t2⟩ := HT.out i hlt
      obtain ⟨r0, r1⟩ := H.out i
      obtain ⟨s0, s1⟩ := H.out (8 + i)
      have q1 := HC.out wr w.heap.size ((hBW.block _ (by omega)).trans G.out) i (by omega)
      have q2 := HC.out wr w.heap.size ((hBW.block _ (by omega)).trans G.out) (8 + i) (by omega)
      have q3 := HC2.out wr x ((hBW.block _ (by omega)).trans X.out) i (by omega)
      have q4 := HC2.out wr x ((hBW.block _ (by omega)).trans X.out) (8 + i) (by omega)
      rw [t1] at q3
      rw [t2] at q4
      clear t1 t2 hR2
      generalize R (8 + i) = s at *
      generalize R i = r at *
      have p1 := Under.cell q1
      have p2 := Under.cell q2
      have A : (((i : Int) == a) = true ∧ r < 18446744073709551615 ∧ wr.cell? ⟨x, i, none⟩ = some (.int .u64 (r + 1))) ∨ (((i : Int) == a) = true ∧ ¬ r < 18446744073709551615 ∧ wr.cell? ⟨x, i, none⟩ = some (.int .u64 r)) ∨ (((i : Int) == a) = false ∧ True ∧ wr.cell? ⟨x, i, none⟩ = some (.int .u64 r)) := by
        by_cases hia : (i : Int) = a
        · by_cases hr : r < 18446744073709551615
          · rw [if_pos ⟨hia, hr⟩] at q3; exact Or.inl ⟨by simpa using hia, hr, q3⟩
          · rw [if_neg (fun h => hr h.2), Int.add_zero] at q3; exact Or.inr (Or.inl ⟨by simpa using hia, hr, q3⟩)
        · rw [if_neg (fun h => hia h.1), Int.add_zero] at q3; exact Or.inr (Or.inr ⟨by simpa using hia, trivial, q3⟩)
      have B : (((i : Int) == b) = true ∧ s < 18446744073709551615 ∧ wr.cell? ⟨x, 8 + i, none⟩ = some (.int .u64 (s + 1))) ∨ (((i : Int) == b) = true ∧ ¬ s < 18446744073709551615 ∧ wr.cell? ⟨x, 8 + i, none⟩ = some (.int .u64 s)) ∨ (((i : Int) == b) = false ∧ True ∧ wr.cell? ⟨x, 8 + i, none⟩ = some (.int .u64 s)) := by
        by_cases hib : (i : Int) = b
        · by_cases hr : s < 18446744073709551615
          · rw [if_pos ⟨hib, hr⟩] at q4; exact Or.inl ⟨by simpa using hib, hr, q4⟩
          · rw [if_neg (fun h => hr h.2), Int.add_zero] at q4; exact Or.inr (Or.inl ⟨by simpa using hib, hr, q4⟩)
        · rw [if_neg (fun h => hib h.1), Int.add_zero] at q4; exact Or.inr (Or.inr ⟨by simpa using hib, trivial, q4⟩)
      clear q3 q4
      rcases A with ⟨a1, a2, q3⟩ | ⟨a1, a2, q3⟩ | ⟨a1, a2, q3⟩ <;> rcases B with ⟨b1, b2, q4⟩ | ⟨b1, b2, q4⟩ | ⟨b1, b2, q4⟩
      all_goals
        have p3 := Under.cell q3
        have p4 := Under.cell q4
        go_wp2_with fail
        (refine region_under (by kernel_rfl) (by kernel_rfl) ?_; (repeat (first | go_big_quiet_step ((fail)) | quiet_step ((fail)))); refine wpQuiet_nil ?_; intro _ hw'; obtain ⟨x, hw''⟩ := hw'; subst hw''; go_wp2_with fail)
        exact ⟨⟨i + 1, by omega, by go_num, hBW.trans (x.2.mono hBW.size)⟩, by simp [intOf]; omega⟩
    · obtain rfl : i = 8 := by omega
      have hB8 := hB.trans (hBW.mono hB.size)
      have X8 := (hBW.block x (by omega)).trans X.out
      have Y8 := (hBW.block y (by omega)).trans Y.out
      (repeat (first | (refine wpList_load_rowW (by kernel_rfl) _ _ (by rfl) x (by rfl) 25 c2 (0, 0) ((Try.prog.underlying 25).get rank_some) X8 (Option.some_get _).symm (by kernel_rfl) (by rw [rank_size, hs2]) ?_) | (refine wpList_load_rowW (by kernel_rfl) _ _ (by rfl) y (by rfl) 25 c2 (0, 0) ((Try.prog.underlying 25).get rank_some) Y8 (Option.some_get _).symm (by kernel_rfl) (by rw [rank_size, hs2]) ?_) | (refine wpList_eqlW (by kernel_rfl) _ _ _ _ (by rfl) c2 c2 (by rfl) (by rfl) rank_guard true hE ?_) | go_values | go_skip | go_guarded | go_step))
      go_wp2_with fail
      go_ret
      exact ⟨rfl, hB8⟩
end Go.Proofs.Ytmehejdgdjaipaa
