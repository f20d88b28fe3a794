/- The walk of LhdCounts. -/
import Derived.Test.YtmehejdgdjaipaaLhdL1
set_option linter.unusedVariables false
set_option maxRecDepth 100000
set_option maxHeartbeats 2000000
namespace Go.Proofs.Ytmehejdgdjaipaa
open Go.RowKit Go.Shelf
attribute [local go_sem ↓] lt_alloc

theorem few_of {R : Nat → Int} (h : IsR R) (hf : ∀ j, j < 8 → R j < 1125899906842624 ∧ R (8 + j) < 1125899906842624) : Few R := fun i hi => by
  have h0 := h i
  by_cases hi8 : i < 8
  · have := hf i hi8; omega
  · have h1 := (hf (i - 8) (by omega)).2
    rw [show 8 + (i - 8) = i from by omega] at h1; omega
theorem counts_facts {R : Nat → Int} (h : IsR R) (hf : ∀ j, j < 8 → R j < 1125899906842624 ∧ R (8 + j) < 1125899906842624) {k n : Nat} (hk : k < 8) (hn : n < 8) :
    (k < n → densV (moreR R k 0) n = densV R n ∧ densV (moreR R k 8) n = densV R n) ∧
    (¬ k < n → densV (moreR R k 8) n ≤ densV R n ∧ densV R n ≤ 4294967296 ∧ (¬ 0 < k → densV R n ≤ densV (moreR R k 0) n)) := by
  have hF := few_of h hf
  have e : ∀ S : Nat → Int, densV S n = densR S n := fun S => by unfold densV; rw [if_pos (by omega)]; rfl
  have c0 := hf k hk
  have e0 : moreR R k 0 = upd R k (R k + 1) := by
    unfold moreR; rw [if_pos (by omega), Int.toNat_natCast, Nat.add_zero]
    congr 1; unfold addS; rw [if_pos (by omega)]
  have e8 : moreR R k 8 = upd R (k + 8) (R (k + 8) + 1) := by
    unfold moreR; rw [if_pos (by omega), Int.toNat_natCast]
    congr 1; unfold addS; rw [if_pos (by rw [Nat.add_comm k 8]; omega)]
  rw [e, e, e, e0, e8]
  refine ⟨fun hkn => ⟨(dens_same hk hn hkn).1, (dens_same hk hn hkn).2⟩, fun hkn => ⟨dens_out hF hk hn (by omega) (by rw [Nat.add_comm k 8]; omega), (densR_bd h n).2, fun h0 => ?_⟩⟩
  obtain rfl : k = 0 := by omega
  obtain rfl : n = 0 := by omega
  exact dens_hit hF (by omega)
theorem counts19_walk (R : Nat → Int) (a b : Int) (hR : IsR R) (a0 : 0 ≤ a) (a1 : a < 256) (b0 : 0 ≤ b) (b1 : b < 256) (w : World) :
    Calls Try.prog 5 #[rankV R, .int .u8 a, .int .u8 b] w fun r w' => r = .returned (.bool true) ∧ Below w.heap.size w w' := by
  obtain ⟨k, hk⟩ : ∃ k : Nat, a % 8 = k := ⟨(a % 8).toNat, by omega⟩
  obtain ⟨n, hn⟩ : ∃ n : Nat, b % 8 = n := ⟨(b % 8).toNat, by omega⟩
  have hk8 : k < 8 := by omega
  have hn8 : n < 8 := by omega
  have H := Lib.hid hR
  have HC := Lib.hid (fun (wr : World) g hg i hi => @cell_rank wr g i R hg hi)
  have hs : (rankC R).size = 16 := rowC_size R 16
  have k1 := fun w => lhd_Density R n hR w
  have k2 := fun w => lhd_Hit R k hR w
  have k3 := fun w => lhd_Density (moreR R k 0) n (moreR_is hR _ _) w
  have k4 := fun w => lhd_Out R k hR w
  have k5 := fun w => lhd_Density (moreR R k 8) n (moreR_is hR _ _) w
  have HF := Lib.hid (fun hf => counts_facts hR hf hk8 hn8)
  clear hR
  generalize densV R n = d at *
  generalize densV (moreR R k 0) n = dh at *
  generalize densV (moreR R k 8) n = dd at *
  unfold rankV at *
  generalize rankC (moreR R k 0) = cH at *
  generalize rankC (moreR R k 8) = cO at *
  generalize rankC R = c at *
  go_enter Try.func5, Try.ntmps5
  go_wp2_with fail
  refine (awake19_any _).mono ?_
  rintro e w1 ⟨rfl, hb1⟩
  have hB1 : Below w.heap.size w w1 := ((Below.refl _ _).alloc (Nat.le_refl _) _).trans (hb1.mono (by simp))
  have G1 : w1.heap[w.heap.size]? = some (.cells c 25 (0, 0)) := (hb1.block _ (by simp)).trans (heap_alloc_new w _)
  have hS1 : w.heap.size < w1.heap.size := by have := hb1.size; simp at this; omega
  clear hb1
  go_wp2_with fail
  go_loopw [10] (fun iv wr => ∃ i : Nat, i ≤ 8 ∧ iv = .int .i64 i ∧ Hid (∀ j, j < i → R j < 1125899906842624 ∧ R (8 + j) < 1125899906842624) ∧ Below w1.heap.size w1 wr) (fun iv _ => 8 - (intOf iv).toNat)
  case atStart => exact ⟨0, by omega, rfl, Lib.hid (fun j hj => absurd hj (Nat.not_lt_zero j)), Below.refl _ _⟩
  case round =>
    obtain ⟨i, hi, rfl, hall, hBW⟩ := hrel
    have hSW := hBW.size
    have hBr := hB1.trans (hBW.mono hB1.size)
    by_cases hlt : i < 8
    · obtain ⟨r0, r1⟩ := H.out i
      obtain ⟨s0, s1⟩ := H.out (8 + i)
      have q1 := HC.out wr w.heap.size ((hBW.block _ hS1).trans G1) i (by omega)
      have q2 := HC.out wr w.heap.size ((hBW.block _ hS1).trans G1) (8 + i) (by omega)
      by_cases h1 : R i < 1125899906842624
      · by_cases h2 : R (8 + i) < 1125899906842624
        · have h1' : decide ((1125899906842624 : Int) ≤ R i) = false := by simp; omega
          have h2' : decide ((1125899906842624 : Int) ≤ R (8 + i)) = false := by simp; omega
          have hall' := Lib.hid (fun j (hj : j < i + 1) => show R j < 1125899906842624 ∧ R (8 + j) < 1125899906842624 from by
            rcases Nat.lt_succ_iff_lt_or_eq.1 hj with h | rfl
            · exact hall.out j h
            · exact ⟨h1, h2⟩)
          generalize hrs : R (8 + i) = s at *
          generalize hrr : R i = r at *
          clear hrs hrr
          go_wp2_with fail
          exact ⟨⟨i + 1, by omega, by go_num, hall', hBW⟩, by simp [intOf]; omega⟩
        · have h1' : decide ((1125899906842624 : Int) ≤ R i) = false := by simp; omega
          have h2' : decide ((1125899906842624 : Int) ≤ R (8 + i)) = true := by simp; omega
          clear hall
          generalize hrs : R (8 + i) = s at *
          generalize hrr : R i = r at *
          clear hrs hrr
          go_wp2_with fail
          go_ret
          exact ⟨rfl, hBr⟩
      · have h1' : decide ((1125899906842624 : Int) ≤ R i) = true := by simp; omega
        clear hall
        generalize hrs : R (8 + i) = s at *
        generalize hrr : R i = r at *
        clear hrs hrr
        go_wp2_with fail
        go_ret
        exact ⟨rfl, hBr⟩
    · obtain rfl : i = 8 := by omega
      obtain ⟨f1, f2⟩ := HF.out (fun j hj => hall.out j hj)
      have G2 := (hBW.block _ hS1).trans G1
      have hS2 : w.heap.size < wr.heap.size := Nat.lt_of_lt_of_le hS1 hSW
      have hB2 := hBr
      clear hall HF G1 hS1
      go_wp2_with (refine wpList_load_row rfl _ _ rfl w.heap.size rfl 25 c (0, 0) ((Try.prog.underlying 25).get rank_some) G2 (Option.some_get _).symm (by kernel_rfl) (by rw [rank_size, hs]) ?_)
      refine (k1 _).mono ?_
      rintro e w3 ⟨rfl, hb3⟩
      have hB3 := hB2.trans (hb3.mono hB2.size)
      have G3 := (hb3.block _ hS2).trans G2
      have hS3 : w.heap.size < w3.heap.size := Nat.lt_of_lt_of_le hS2 hb3.size
      clear hb3 hB2 G2 hS2
      go_wp2_with (refine wpList_load_row rfl _ _ rfl w.heap.size rfl 25 c (0, 0) ((Try.prog.underlying 25).get rank_some) G3 (Option.some_get _).symm (by kernel_rfl) (by rw [rank_size, hs]) ?_)
      refine (k2 _).mono ?_
      rintro e w4 ⟨rfl, hb4⟩
      have hB4 := hB3.trans (hb4.mono hB3.size)
      have G4 := (hb4.block _ hS3).trans G3
      have hS4 : w.heap.size < w4.heap.size := Nat.lt_of_lt_of_le hS3 hb4.size
      clear hb4 hB3 G3 hS3
      go_wp2_with fail
      refine (k3 _).mono ?_
      rintro e w5 ⟨rfl, hb5⟩
      have hB5 := hB4.trans (hb5.mono hB4.size)
      have G5 := (hb5.block _ hS4).trans G4
      have hS5 : w.heap.size < w5.heap.size := Nat.lt_of_lt_of_le hS4 hb5.size
      clear hb5 hB4 G4 hS4
      go_wp2_with (refine wpList_load_row rfl _ _ rfl w.heap.size rfl 25 c (0, 0) ((Try.prog.underlying 25).get rank_some) G5 (Option.some_get _).symm (by kernel_rfl) (by rw [rank_size, hs]) ?_)
      refine (k4 _).mono ?_
      rintro e w6 ⟨rfl, hb6⟩
      have hB6 := hB5.trans (hb6.mono hB5.size)
      have G6 := (hb6.block _ hS5).trans G5
      have hS6 : w.heap.size < w6.heap.size := Nat.lt_of_lt_of_le hS5 hb6.size
      clear hb6 hB5 G5 hS5
      go_wp2_with fail
      refine (k5 _).mono ?_
      rintro e w7 ⟨rfl, hb7⟩
      have hB7 := hB6.trans (hb7.mono hB6.size)
      have G7 := (hb7.block _ hS6).trans G6
      have hS7 : w.heap.size < w7.heap.size := Nat.lt_of_lt_of_le hS6 hb7.size
      clear hb7 hB6 G6 hS6
      clear k1 k2 k3 k4 k5
      by_cases hkn : k < n
      · obtain ⟨rfl, rfl⟩ := f1 hkn
        have hkn' : (k : Int) < n := by omega
        clear f1 f2
        go_wp2_with fail
        go_ret
        exact ⟨rfl, hB7⟩
      · obtain ⟨g1, g2, g3⟩ := f2 hkn
        have hkn' : ¬ (k : Int) < n := by omega
        clear f1 f2
        by_cases h0 : 0 < k
        · have h0' : (0 : Int) < k := by omega
          clear g3
          go_wp2_with fail
          go_ret
          exact ⟨rfl, hB7⟩
        · have g4 := g3 h0
          have h0' : ¬ (0 : Int) < k := by omega
          clear g3
          go_wp2_with fail
          go_ret
          exact ⟨rfl, hB7⟩
end Go.Proofs.Ytmehejdgdjaipaa
