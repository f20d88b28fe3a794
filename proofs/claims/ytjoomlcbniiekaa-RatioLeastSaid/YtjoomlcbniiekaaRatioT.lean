/- The walks of the laws of the layer ratio: RatioTells and RatioLeast. -/
import Derived.Test.YtjoomlcbniiekaaRatioL
import Derived.Test.YtjoomlcbniiekaaRatioP
set_option linter.unusedVariables false
namespace Go.Proofs.Ytjoomlcbniiekaa
open Go.RowKit Go.Shelf
attribute [local go_sem ↓] lt_alloc

set_option maxRecDepth 100000 in
set_option maxHeartbeats 4000000 in
theorem tells3_walk (a b c d p q r : Int) (a0 : 0 ≤ a) (a1 : a < 18446744073709551616) (b0 : 0 ≤ b) (b1 : b < 18446744073709551616) (c0 : 0 ≤ c) (c1 : c < 18446744073709551616) (d0 : 0 ≤ d) (d1 : d < 18446744073709551616)
    (p0 : 0 ≤ p) (p1 : p < 18446744073709551616) (q0 : 0 ≤ q) (q1 : q < 18446744073709551616) (r0 : 0 ≤ r) (r1 : r < 18446744073709551616) (w : World) {s : Option Addr} {len cap : Nat} {N D : Nat → Int} (hN : InU N) (hD : InU D) (hl : IsRats w s len cap N D) :
    Calls Try.prog 3 #[.agg #[.int .u64 a, .int .u64 b], .agg #[.int .u64 c, .int .u64 d], .slice s len cap, .int .u64 p, .int .u64 q, .int .u64 r] w fun r w' => r = .returned (.bool true) ∧ Below w.heap.size w w' := by
  have HL := Lib.hid hl
  have HN := Lib.hid hN
  have HD := Lib.hid hD
  clear hl hN hD
  rcases Nat.lt_or_ge 100 len with hlen | hlen
  · go_enter Try.func3, Try.ntmps3
    go_wp2_with fail
    refine (awake3_any _).mono ?_
    rintro r w1 ⟨rfl, hb1⟩
    have hB1 : Below w.heap.size w w1 := by repeat' (first | (with_reducible exact Below.refl _ _) | (with_reducible assumption) | (with_reducible refine Below.trans ?_ (Below.mono hb1 ?_)) | (with_reducible refine Below.alloc ?_ ?_ _) | (with_reducible refine below_drewN ?_ _) | (with_reducible refine Below.drew ?_) | (with_reducible refine Below.setCell ?_ ?_ _) | go_size | omega | (simp; omega))
    have hS1 := hB1.size
    clear hb1
    go_wp2_with fail
    go_ret
    exact ⟨rfl, hB1⟩
  · have k2 := fun w => ratio_Cmp a b c d a0 a1 b0 b1 c0 c1 d0 d1 w
    have k3 := fun w => ref3_Cmp a b c d a0 a1 b0 b1 c0 c1 d0 d1 w
    have k6 := fun w => ratio_Floor p q r p0 p1 q0 q1 r0 r1 w
    have k7 := fun w => ref3_Floor p q r p0 p1 q0 q1 r0 r1 w
    have k8 := fun w => ratio_Ceil p q r p0 p1 q0 q1 r0 r1 w
    have k9 := fun w => ref3_Ceil p q r p0 p1 q0 q1 r0 r1 w
    have k10 := fun w => ratio_Near p q r p0 p1 q0 q1 r0 r1 w
    have k11 := fun w => ref3_Near p q r p0 p1 q0 q1 r0 r1 w
    generalize rCmp a b c d = n at *
    generalize rErr b d = e at *
    generalize partV (p * q / r) r = v1 at *
    generalize partE (p * q / r) r = e1 at *
    generalize partV (ceilQ (p * q) r) r = v2 at *
    generalize partE (ceilQ (p * q) r) r = e2 at *
    generalize partV (nearQ (p * q) r) r = v3 at *
    generalize partE (nearQ (p * q) r) r = e3 at *
    go_enter Try.func3, Try.ntmps3
    go_wp2_with fail
    refine (awake3_any _).mono ?_
    rintro r w1 ⟨rfl, hb1⟩
    have cw1_0 : w1.cell? ⟨w.heap.size, 0, none⟩ = some (.int .u64 (a)) := by repeat (first | (with_reducible assumption) | (simp (maxDischargeDepth := 9) [go_sem]; done) | refine keepA _ ?_ | refine keepD _ ?_ | refine keepB hb1 ?_)
    have zw1_0 : w.heap.size < w1.heap.size := World.block_lt_of_cell? w1 _ cw1_0
    have cw1_1 : w1.cell? ⟨w.heap.size, 1, none⟩ = some (.int .u64 (b)) := by repeat (first | (with_reducible assumption) | (simp (maxDischargeDepth := 9) [go_sem]; done) | refine keepA _ ?_ | refine keepD _ ?_ | refine keepB hb1 ?_)
    have cw1_2 : w1.cell? ⟨w.heap.size + 1, 0, none⟩ = some (.int .u64 (c)) := by repeat (first | (with_reducible assumption) | (simp (maxDischargeDepth := 9) [go_sem]; done) | refine keepA _ ?_ | refine keepD _ ?_ | refine keepB hb1 ?_)
    have zw1_1 : w.heap.size + 1 < w1.heap.size := World.block_lt_of_cell? w1 _ cw1_2
    have cw1_3 : w1.cell? ⟨w.heap.size + 1, 1, none⟩ = some (.int .u64 (d)) := by repeat (first | (with_reducible assumption) | (simp (maxDischargeDepth := 9) [go_sem]; done) | refine keepA _ ?_ | refine keepD _ ?_ | refine keepB hb1 ?_)
    have hBw1 : Below w.heap.size w w1 := by repeat' (first | (with_reducible exact Below.refl _ _) | (with_reducible assumption) | (with_reducible refine Below.trans ?_ (Below.mono hb1 ?_)) | (with_reducible refine Below.alloc ?_ ?_ _) | (with_reducible refine below_drewN ?_ _) | (with_reducible refine Below.drew ?_) | (with_reducible refine Below.setCell ?_ ?_ _) | go_size | omega | (simp; omega))
    have hSw1 : w.heap.size ≤ w1.heap.size := hBw1.size
    clear hb1
    generalize w.heap.size + 1 = y1 at *
    go_wp2_with fail
    refine (k2 _).mono ?_
    rintro r w2 ⟨rfl, hb2⟩
    have cw2_0 : w2.cell? ⟨w.heap.size, 0, none⟩ = some (.int .u64 (a)) := by repeat (first | (with_reducible assumption) | (simp (maxDischargeDepth := 9) [go_sem]; done) | refine keepA _ ?_ | refine keepD _ ?_ | refine keepB hb2 ?_)
    have zw2_0 : w.heap.size < w2.heap.size := World.block_lt_of_cell? w2 _ cw2_0
    have cw2_1 : w2.cell? ⟨w.heap.size, 1, none⟩ = some (.int .u64 (b)) := by repeat (first | (with_reducible assumption) | (simp (maxDischargeDepth := 9) [go_sem]; done) | refine keepA _ ?_ | refine keepD _ ?_ | refine keepB hb2 ?_)
    have cw2_2 : w2.cell? ⟨y1, 0, none⟩ = some (.int .u64 (c)) := by repeat (first | (with_reducible assumption) | (simp (maxDischargeDepth := 9) [go_sem]; done) | refine keepA _ ?_ | refine keepD _ ?_ | refine keepB hb2 ?_)
    have zw2_1 : y1 < w2.heap.size := World.block_lt_of_cell? w2 _ cw2_2
    have cw2_3 : w2.cell? ⟨y1, 1, none⟩ = some (.int .u64 (d)) := by repeat (first | (with_reducible assumption) | (simp (maxDischargeDepth := 9) [go_sem]; done) | refine keepA _ ?_ | refine keepD _ ?_ | refine keepB hb2 ?_)
    have hBw2 : Below w.heap.size w w2 := by repeat' (first | (with_reducible exact Below.refl _ _) | (with_reducible assumption) | (with_reducible refine Below.trans ?_ (Below.mono hb2 ?_)) | (with_reducible refine Below.alloc ?_ ?_ _) | (with_reducible refine below_drewN ?_ _) | (with_reducible refine Below.drew ?_) | (with_reducible refine Below.setCell ?_ ?_ _) | go_size | omega | (simp; omega))
    have hSw2 : w.heap.size ≤ w2.heap.size := hBw2.size
    clear hb2 hSw1 cw1_0 cw1_1 cw1_2 cw1_3 zw1_0 zw1_1 hBw1
    go_wp2_with fail
    refine (k3 _).mono ?_
    rintro r w3 ⟨rfl, hb3⟩
    have hB3 : Below w.heap.size w w3 := by repeat' (first | (with_reducible exact Below.refl _ _) | (with_reducible assumption) | (with_reducible refine Below.trans ?_ (Below.mono hb3 ?_)) | (with_reducible refine Below.alloc ?_ ?_ _) | (with_reducible refine below_drewN ?_ _) | (with_reducible refine Below.drew ?_) | (with_reducible refine Below.setCell ?_ ?_ _) | go_size | omega | (simp; omega))
    have hS3 := hB3.size
    clear hb3
    go_wp2_with fail
    refine (ratio_Least_any HN.out HD.out _ (HL.out.below hB3)).mono ?_
    rintro r w4 ⟨rfl, hb4⟩
    have hB4 : Below w.heap.size w w4 := by repeat' (first | (with_reducible exact Below.refl _ _) | (with_reducible assumption) | (with_reducible refine Below.trans ?_ (Below.mono hb4 ?_)) | (with_reducible refine Below.alloc ?_ ?_ _) | (with_reducible refine below_drewN ?_ _) | (with_reducible refine Below.drew ?_) | (with_reducible refine Below.setCell ?_ ?_ _) | go_size | omega | (simp; omega))
    have hS4 := hB4.size
    clear hb4
    go_wp2_with fail
    refine (ref3_Least_any HN.out HD.out _ (HL.out.below hB4)).mono ?_
    rintro r w5 ⟨rfl, hb5⟩
    have hB5 : Below w.heap.size w w5 := by repeat' (first | (with_reducible exact Below.refl _ _) | (with_reducible assumption) | (with_reducible refine Below.trans ?_ (Below.mono hb5 ?_)) | (with_reducible refine Below.alloc ?_ ?_ _) | (with_reducible refine below_drewN ?_ _) | (with_reducible refine Below.drew ?_) | (with_reducible refine Below.setCell ?_ ?_ _) | go_size | omega | (simp; omega))
    have hS5 := hB5.size
    clear hb5
    go_wp2_with fail
    refine (k6 _).mono ?_
    rintro r w6 ⟨rfl, hb6⟩
    have hB6 : Below w.heap.size w w6 := by repeat' (first | (with_reducible exact Below.refl _ _) | (with_reducible assumption) | (with_reducible refine Below.trans ?_ (Below.mono hb6 ?_)) | (with_reducible refine Below.alloc ?_ ?_ _) | (with_reducible refine below_drewN ?_ _) | (with_reducible refine Below.drew ?_) | (with_reducible refine Below.setCell ?_ ?_ _) | go_size | omega | (simp; omega))
    have hS6 := hB6.size
    clear hb6
    go_wp2_with fail
    refine (k7 _).mono ?_
    rintro r w7 ⟨rfl, hb7⟩
    have hB7 : Below w.heap.size w w7 := by repeat' (first | (with_reducible exact Below.refl _ _) | (with_reducible assumption) | (with_reducible refine Below.trans ?_ (Below.mono hb7 ?_)) | (with_reducible refine Below.alloc ?_ ?_ _) | (with_reducible refine below_drewN ?_ _) | (with_reducible refine Below.drew ?_) | (with_reducible refine Below.setCell ?_ ?_ _) | go_size | omega | (simp; omega))
    have hS7 := hB7.size
    clear hb7
    go_wp2_with fail
    refine (k8 _).mono ?_
    rintro r w8 ⟨rfl, hb8⟩
    have hB8 : Below w.heap.size w w8 := by repeat' (first | (with_reducible exact Below.refl _ _) | (with_reducible assumption) | (with_reducible refine Below.trans ?_ (Below.mono hb8 ?_)) | (with_reducible refine Below.alloc ?_ ?_ _) | (with_reducible refine below_drewN ?_ _) | (with_reducible refine Below.drew ?_) | (with_reducible refine Below.setCell ?_ ?_ _) | go_size | omega | (simp; omega))
    have hS8 := hB8.size
    clear hb8
    go_wp2_with fail
    refine (k9 _).mono ?_
    rintro r w9 ⟨rfl, hb9⟩
    have hB9 : Below w.heap.size w w9 := by repeat' (first | (with_reducible exact Below.refl _ _) | (with_reducible assumption) | (with_reducible refine Below.trans ?_ (Below.mono hb9 ?_)) | (with_reducible refine Below.alloc ?_ ?_ _) | (with_reducible refine below_drewN ?_ _) | (with_reducible refine Below.drew ?_) | (with_reducible refine Below.setCell ?_ ?_ _) | go_size | omega | (simp; omega))
    have hS9 := hB9.size
    clear hb9
    go_wp2_with fail
    refine (k10 _).mono ?_
    rintro r w10 ⟨rfl, hb10⟩
    have hB10 : Below w.heap.size w w10 := by repeat' (first | (with_reducible exact Below.refl _ _) | (with_reducible assumption) | (with_reducible refine Below.trans ?_ (Below.mono hb10 ?_)) | (with_reducible refine Below.alloc ?_ ?_ _) | (with_reducible refine below_drewN ?_ _) | (with_reducible refine Below.drew ?_) | (with_reducible refine Below.setCell ?_ ?_ _) | go_size | omega | (simp; omega))
    have hS10 := hB10.size
    clear hb10
    go_wp2_with fail
    refine (k11 _).mono ?_
    rintro r w11 ⟨rfl, hb11⟩
    have hB11 : Below w.heap.size w w11 := by repeat' (first | (with_reducible exact Below.refl _ _) | (with_reducible assumption) | (with_reducible refine Below.trans ?_ (Below.mono hb11 ?_)) | (with_reducible refine Below.alloc ?_ ?_ _) | (with_reducible refine below_drewN ?_ _) | (with_reducible refine Below.drew ?_) | (with_reducible refine Below.setCell ?_ ?_ _) | go_size | omega | (simp; omega))
    have hS11 := hB11.size
    clear hb11
    clear k2 k3 k6 k7 k8 k9 k10 k11
    go_wp2_with fail
    go_ret
    exact ⟨rfl, hB11⟩
theorem tells3_law (a b c d p q r : Int) {s : Option Addr} {len cap : Nat} {N D : Nat → Int} (w0 : (Lit.int .u64 a).wf = true) (w1 : (Lit.int .u64 b).wf = true) (w2 : (Lit.int .u64 c).wf = true) (w3 : (Lit.int .u64 d).wf = true) (w4 : (Lit.int .u64 p).wf = true) (w5 : (Lit.int .u64 q).wf = true) (w6 : (Lit.int .u64 r).wf = true) (w : World)
    (hN : InU N) (hD : InU D) (hl : IsRats w s len cap N D) :
    Calls Try.prog 3 #[.agg #[.int .u64 a, .int .u64 b], .agg #[.int .u64 c, .int .u64 d], .slice s len cap, .int .u64 p, .int .u64 q, .int .u64 r] w fun r w' => r = .returned (.bool true) ∧ Below w.heap.size w w' :=
  tells3_walk a b c d p q r (u64c w0).1 (u64c w0).2 (u64c w1).1 (u64c w1).2 (u64c w2).1 (u64c w2).2 (u64c w3).1 (u64c w3).2 (u64c w4).1 (u64c w4).2 (u64c w5).1 (u64c w5).2 (u64c w6).1 (u64c w6).2 w hN hD hl
theorem least_facts {N D : Nat → Int} (hD : ∀ i, 0 ≤ D i) {n p : Nat} (h : lst N D n = (p, true)) : p < n ∧ 0 < D p ∧
    ∀ j, j < n → rErr (D p) (D j) = 0 → rCmp (N p) (D p) (N j) (D j) ≤ 0 ∧ (j < p → rCmp (N p) (D p) (N j) (D j) < 0) := by
  obtain ⟨a, b, c, d⟩ := (lst_spec N D hD n).2 (by rw [h])
  rw [h] at a b c d
  dsimp only at a b c d
  refine ⟨a, b, fun j hj he => ?_⟩
  have hz : D j ≠ 0 := by intro hz; rw [hz, rErr_zr] at he; cases he
  have hp : 0 < D j := by have := hD j; omega
  rw [rCmp_pos b hp]
  have h1 := c j hj hp
  have h2 := d j
  refine ⟨?_, fun hlt => ?_⟩
  · unfold cmpS; repeat' split <;> omega
  · have h3 := h2 hlt hp
    unfold cmpS; repeat' split <;> omega
set_option maxRecDepth 100000 in
set_option maxHeartbeats 4000000 in
theorem least3_walk (w : World) {s : Option Addr} {len cap : Nat} {N D : Nat → Int} (hN : InU N) (hD : InU D) (hl : IsRats w s len cap N D) :
    Calls Try.prog 7 #[.slice s len cap] w fun r w' => r = .returned (.bool true) ∧ Below w.heap.size w w' := by
  have HL := Lib.hid hl
  have HN := Lib.hid hN
  have HD := Lib.hid hD
  rcases Nat.lt_or_ge 100 len with hlen | hlen
  · clear hl hN hD
    go_enter Try.func7, Try.ntmps7
    go_wp2_with fail
    refine (awake3_any _).mono ?_
    rintro r w1 ⟨rfl, hb1⟩
    have hB1 : Below w.heap.size w w1 := by repeat' (first | (with_reducible exact Below.refl _ _) | (with_reducible assumption) | (with_reducible refine Below.trans ?_ (Below.mono hb1 ?_)) | (with_reducible refine Below.alloc ?_ ?_ _) | (with_reducible refine below_drewN ?_ _) | (with_reducible refine Below.drew ?_) | (with_reducible refine Below.setCell ?_ ?_ _) | go_size | omega | (simp; omega))
    have hS1 := hB1.size
    clear hb1
    go_wp2_with fail
    go_ret
    exact ⟨rfl, hB1⟩
  · obtain ⟨p, f, hpf⟩ : ∃ p f, lst N D len = (p, f) := ⟨_, _, rfl⟩
    have k2 := fun w' h => ratio_Least_any (a := s) (len := len) (cap := cap) hN hD w' h
    simp only [hpf] at k2
    rcases hl with rfl | ⟨b, off, rfl, hle, hr⟩
    · obtain ⟨rfl, rfl⟩ : 0 = p ∧ false = f := by
        have h0 : lst N D 0 = (0, false) := rfl
        rw [h0] at hpf; exact ⟨congrArg Prod.fst hpf, congrArg Prod.snd hpf⟩
      clear hN hD hpf HL
      go_enter Try.func7, Try.ntmps7
      go_wp2_with fail
      refine (awake3_any _).mono ?_
      rintro r w1 ⟨rfl, hb1⟩
      have hB1 : Below w.heap.size w w1 := by repeat' (first | (with_reducible exact Below.refl _ _) | (with_reducible assumption) | (with_reducible refine Below.trans ?_ (Below.mono hb1 ?_)) | (with_reducible refine Below.alloc ?_ ?_ _) | (with_reducible refine below_drewN ?_ _) | (with_reducible refine Below.drew ?_) | (with_reducible refine Below.setCell ?_ ?_ _) | go_size | omega | (simp; omega))
      have hS1 := hB1.size
      clear hb1
      go_wp2_with fail
      refine (k2 _ (Or.inl rfl)).mono ?_
      rintro r w2 ⟨rfl, hb2⟩
      have hB2 : Below w.heap.size w w2 := by repeat' (first | (with_reducible exact Below.refl _ _) | (with_reducible assumption) | (with_reducible refine Below.trans ?_ (Below.mono hb2 ?_)) | (with_reducible refine Below.alloc ?_ ?_ _) | (with_reducible refine below_drewN ?_ _) | (with_reducible refine Below.drew ?_) | (with_reducible refine Below.setCell ?_ ?_ _) | go_size | omega | (simp; omega))
      have hS2 := hB2.size
      clear hb2
      clear k2
      go_wp2_with fail
      refine wp_loop_rounds 2 ?_
      rw [rounds_succ]
      go_wp2_with fail
      go_ret
      exact ⟨rfl, hB2⟩
    · have HR := Lib.hid hr
      cases f
      · have hs := (lst_spec N D (fun i => (hD i).1) len).1 (by rw [hpf])
        rw [hpf] at hs
        obtain ⟨hp, hz⟩ := hs
        simp only at hp
        subst hp
        have HZ := Lib.hid hz
        clear hz hN hD hpf hr
        go_enter Try.func7, Try.ntmps7
        go_wp2_with fail
        refine (awake3_any _).mono ?_
        rintro r w1 ⟨rfl, hb1⟩
        have hB1 : Below w.heap.size w w1 := by repeat' (first | (with_reducible exact Below.refl _ _) | (with_reducible assumption) | (with_reducible refine Below.trans ?_ (Below.mono hb1 ?_)) | (with_reducible refine Below.alloc ?_ ?_ _) | (with_reducible refine below_drewN ?_ _) | (with_reducible refine Below.drew ?_) | (with_reducible refine Below.setCell ?_ ?_ _) | go_size | omega | (simp; omega))
        have hS1 := hB1.size
        clear hb1
        go_wp2_with fail
        refine (k2 _ (HL.out.below hB1)).mono ?_
        rintro r w2 ⟨rfl, hb2⟩
        have hB2 : Below w.heap.size w w2 := by repeat' (first | (with_reducible exact Below.refl _ _) | (with_reducible assumption) | (with_reducible refine Below.trans ?_ (Below.mono hb2 ?_)) | (with_reducible refine Below.alloc ?_ ?_ _) | (with_reducible refine below_drewN ?_ _) | (with_reducible refine Below.drew ?_) | (with_reducible refine Below.setCell ?_ ?_ _) | go_size | omega | (simp; omega))
        have hS2 := hB2.size
        clear hb2
        clear k2
        go_wp2_with fail
        go_loopw [6] (fun iv wr => ∃ i : Nat, i ≤ len ∧ iv = .int .i64 i ∧ Below w.heap.size w wr) (fun iv _ => len - (intOf iv).toNat)
        case atStart => exact ⟨0, Nat.zero_le _, rfl, hB2⟩
        case round =>
          obtain ⟨i, hi, rfl, hB⟩ := hrel
          by_cases hlt : i < len
          · have q1 := ((HR.out.below hB) i hlt).2
            rw [HZ.out i hlt] at q1
            go_wp2_with fail
            exact ⟨⟨i + 1, by omega, by go_num, hB⟩, by simp [intOf]; omega⟩
          · obtain rfl : i = len := by omega
            go_wp2_with fail
            go_ret
            exact ⟨rfl, hB⟩
      · obtain ⟨hp, hd, hf⟩ := least_facts (fun i => (hD i).1) hpf
        obtain ⟨np0, np1⟩ := hN p
        obtain ⟨dp0, dp1⟩ := hD p
        have hdz : (D p == 0) = false := by simp; omega
        have hp0 : decide ((p : Int) < 0) = false := by simp
        have hl0 : decide ((100 : Int) < (len : Int)) = false := by simp; omega
        have hp2 : decide (len ≤ p) = false := by simp; omega
        have HF := Lib.hid hf
        clear hf hN hD hpf hr
        go_enter Try.func7, Try.ntmps7
        go_wp2_with fail
        refine (awake3_any _).mono ?_
        rintro r w1 ⟨rfl, hb1⟩
        have hB1 : Below w.heap.size w w1 := by repeat' (first | (with_reducible exact Below.refl _ _) | (with_reducible assumption) | (with_reducible refine Below.trans ?_ (Below.mono hb1 ?_)) | (with_reducible refine Below.alloc ?_ ?_ _) | (with_reducible refine below_drewN ?_ _) | (with_reducible refine Below.drew ?_) | (with_reducible refine Below.setCell ?_ ?_ _) | go_size | omega | (simp; omega))
        have hS1 := hB1.size
        clear hb1
        go_wp2_with fail
        refine (k2 _ (HL.out.below hB1)).mono ?_
        rintro r w2 ⟨rfl, hb2⟩
        have hB2 : Below w.heap.size w w2 := by repeat' (first | (with_reducible exact Below.refl _ _) | (with_reducible assumption) | (with_reducible refine Below.trans ?_ (Below.mono hb2 ?_)) | (with_reducible refine Below.alloc ?_ ?_ _) | (with_reducible refine below_drewN ?_ _) | (with_reducible refine Below.drew ?_) | (with_reducible refine Below.setCell ?_ ?_ _) | go_size | omega | (simp; omega))
        have hS2 := hB2.size
        clear hb2
        clear k2
        have q1 := ((HR.out.below hB2) p hp).2
        go_wp2_with fail
        clear q1
        go_loopw [7] (fun iv wr => ∃ i : Nat, i ≤ len ∧ iv = .int .i64 i ∧ Below w.heap.size w wr) (fun iv _ => len - (intOf iv).toNat)
        case atStart => exact ⟨0, Nat.zero_le _, rfl, hB2⟩
        case round =>
          obtain ⟨i, hi, rfl, hB⟩ := hrel
          by_cases hlt : i < len
          · have q1 := Under.cell ((HR.out.below hB) p hp).1
            have q2 := Under.cell ((HR.out.below hB) p hp).2
            have q3 := Under.cell ((HR.out.below hB) i hlt).1
            have q4 := Under.cell ((HR.out.below hB) i hlt).2
            obtain ⟨m0, m1⟩ := HN.out i
            obtain ⟨e0, e1⟩ := HD.out i
            have kc : ∀ w', Calls Try.prog 10 #[.agg #[.int .u64 (N p), .int .u64 (D p)], .agg #[.int .u64 (N i), .int .u64 (D i)]] w' fun r w'' => r = .returned (.tuple #[.int .i64 (rCmp (N p) (D p) (N i) (D i)), .int .i64 (rErr (D p) (D i))]) ∧ Below w'.heap.size w' w'' := fun w' => ratio_Cmp _ _ _ _ np0 np1 dp0 dp1 m0 m1 e0 e1 w'
            have hfi := HF.out i hlt
            generalize rCmp (N p) (D p) (N i) (D i) = n at *
            generalize rErr (D p) (D i) = e at *
            by_cases he : e = 0
            · subst he
              obtain ⟨h1, h2⟩ := hfi rfl
              by_cases hn : n = 0
              · subst hn
                have hip : p ≤ i := by omega
                clear h1 h2 hfi
                go_wp2_with fail
                (refine region_under (by kernel_rfl) (by kernel_rfl) ?_; (repeat (first | go_big_quiet_step ((go_at_call 10; exact quietU (kc _))) | quiet_step ((go_at_call 10; exact quietU (kc _))))); refine wpQuiet_nil ?_; intro _ hw'; obtain ⟨x, hw''⟩ := hw'; subst hw''; go_wp2_with fail)
                all_goals exact ⟨⟨i + 1, by omega, by go_num, hB.trans (x.2.mono hB.size)⟩, by simp [intOf]; omega⟩
              · have hn1 : n < 0 := by omega
                have hn2 : (n == 0) = false := by simpa using hn
                clear h1 h2 hfi hn
                go_wp2_with fail
                (refine region_under (by kernel_rfl) (by kernel_rfl) ?_; (repeat (first | go_big_quiet_step ((go_at_call 10; exact quietU (kc _))) | quiet_step ((go_at_call 10; exact quietU (kc _))))); refine wpQuiet_nil ?_; intro _ hw'; obtain ⟨x, hw''⟩ := hw'; subst hw''; go_wp2_with fail)
                all_goals exact ⟨⟨i + 1, by omega, by go_num, hB.trans (x.2.mono hB.size)⟩, by simp [intOf]; omega⟩
            · have he1 : (e == 0) = false := by simpa using he
              clear hfi he
              go_wp2_with fail
              (refine region_under (by kernel_rfl) (by kernel_rfl) ?_; (repeat (first | go_big_quiet_step ((go_at_call 10; exact quietU (kc _))) | quiet_step ((go_at_call 10; exact quietU (kc _))))); refine wpQuiet_nil ?_; intro _ hw'; obtain ⟨x, hw''⟩ := hw'; subst hw''; go_wp2_with fail)
              all_goals exact ⟨⟨i + 1, by omega, by go_num, hB.trans (x.2.mono hB.size)⟩, by simp [intOf]; omega⟩
          · obtain rfl : i = len := by omega
            go_wp2_with fail
            go_ret
            exact ⟨rfl, hB⟩
end Go.Proofs.Ytjoomlcbniiekaa
