/- The walk of lhd.Victim. -/
import Derived.Test.YtmehejdgdjaipaaLhdD
import Derived.Test.YtmehejdgdjaipaaLhdP
import Derived.Test.YtmehejdgdjaipaaRatioM
import Derived.Laws.MakeOwn
set_option linter.unusedVariables false
set_option maxRecDepth 100000
set_option maxHeartbeats 1000000
namespace Go.Proofs.Ytmehejdgdjaipaa
open Go.RowKit Go.Shelf
attribute [local go_sem ↓] lt_alloc

/-- May the k-th of those that are asked for go? -/
def okV (Z S : Nat → Int) (la lz k : Nat) : Prop := 0 ≤ S k ∧ S k < la ∧ S k < lz ∧ Z (S k).toNat ≠ 0
instance (Z S : Nat → Int) (la lz k : Nat) : Decidable (okV Z S la lz k) := by unfold okV; infer_instance
def vN (R A Z S : Nat → Int) (la lz k : Nat) : Int := if okV Z S la lz k then densV R (A (S k).toNat) else 0
def vD (Z S : Nat → Int) (la lz k : Nat) : Int := if okV Z S la lz k then Z (S k).toNat else 0
theorem vN_bd {R : Nat → Int} (h : IsR R) (A Z S : Nat → Int) (la lz : Nat) : InU (vN R A Z S la lz) := fun k => by
  have := densV_bd h (A (S k).toNat)
  unfold vN; split <;> omega
theorem vD_bd {Z : Nat → Int} (h : InK .u64 Z) (S : Nat → Int) (la lz : Nat) : InU (vD Z S la lz) := fun k => by
  have := h.u64 (S k).toNat
  unfold vD; split <;> omega
/-- Pairs, one behind the other; the first k of them, and nothing behind. -/
def ilv (N D : Nat → Int) (k j : Nat) : Int := if j / 2 < k then (if j % 2 = 0 then N (j / 2) else D (j / 2)) else 0
theorem ilv_step (N D : Nat → Int) (k : Nat) : upd (upd (ilv N D k) (k * 2) (N k)) (k * 2 + 1) (D k) = ilv N D (k + 1) := by
  funext j
  unfold upd ilv
  by_cases h1 : j = k * 2 + 1
  · subst h1
    rw [if_pos rfl, if_pos (by omega), if_neg (by omega), show (k * 2 + 1) / 2 = k from by omega]
  · rw [if_neg h1]
    by_cases h2 : j = k * 2
    · subst h2
      rw [if_pos rfl, if_pos (by omega), if_pos (by omega), show k * 2 / 2 = k from by omega]
    · rw [if_neg h2]
      by_cases h3 : j / 2 < k
      · rw [if_pos h3, if_pos (show j / 2 < k + 1 by omega)]
      · rw [if_neg h3, if_neg (show ¬ j / 2 < k + 1 by omega)]
theorem ilv_skip {N D : Nat → Int} {k : Nat} (h0 : N k = 0) (h1 : D k = 0) : ilv N D k = ilv N D (k + 1) := by
  rw [← ilv_step, h0, h1]
  funext j
  unfold upd
  have z : ∀ j, k * 2 ≤ j → ilv N D k j = 0 := fun j hj => by unfold ilv; rw [if_neg (by omega)]
  by_cases h : j = k * 2 + 1
  · rw [if_pos h, z j (by omega)]
  · rw [if_neg h]
    by_cases h2 : j = k * 2
    · rw [if_pos h2, z j (by omega)]
    · rw [if_neg h2]
theorem ilv_row {wr : World} {g n : Nat} {N D : Nat → Int} {t : TypeId} (h : wr.heap[g]? = some (.cells (rowC (ilv N D n) (n * 2)) t (0, 0))) : RowR wr g 0 n N D := fun i hi => by
  have e0 : ilv N D n (i * 2) = N i := by unfold ilv; rw [if_pos (by omega), if_pos (by omega), show i * 2 / 2 = i from by omega]
  have e1 : ilv N D n (i * 2 + 1) = D i := by unfold ilv; rw [if_pos (by omega), if_neg (by omega), show (i * 2 + 1) / 2 = i from by omega]
  constructor
  · rw [Nat.zero_add]; exact ((cell_of_row wr _ _ _ _ _ h).trans (rowC_get (by omega))).trans (by rw [e0])
  · rw [Nat.zero_add]; exact ((cell_of_row wr _ _ _ _ _ h).trans (rowC_get (by omega))).trans (by rw [e1])
theorem made_row (n : Nat) (N D : Nat → Int) : madeCells #[.int .u64 0, .int .u64 0] (n * 2) = rowC (ilv N D 0) (n * 2) := by
  apply Array.ext_getElem?
  intro j
  by_cases hj : j < n * 2
  · rw [rowC_get hj]
    have e : ilv N D 0 j = 0 := by unfold ilv; rw [if_neg (by omega)]
    rw [e]
    simp only [madeCells, Array.getElem?_map]
    rw [show (Array.range (n * 2))[j]? = some j from by simp [hj]]
    rcases (show j % 2 = 0 ∨ j % 2 = 1 by omega) with h | h <;> simp [h]
  · rw [Array.getElem?_eq_none (by rw [size_madeCells]; omega), Array.getElem?_eq_none (by rw [rowC_size]; omega)]
theorem ratio_info : (Try.prog.info? 45).map (fun i => (i.zero, i.size, i.bytes)) = some (some (.agg #[.int .u64 0, .int .u64 0]), 2, 16) := by kernel_rfl
theorem make_ratios (n : Nat) (hn : n ≤ 100) (N D : Nat → Int) (w : World) : (Instr.makeSlice 49 (.int .i64 n) (.int .i64 n)).run Try.prog w =
    .ok (.slice (some ⟨w.heap.size, 0, none⟩) n n) (w.alloc (.cells (rowC (ilv N D 0) (n * 2)) 45)) := by
  have h := ratio_info
  cases hq : Try.prog.info? 45 with
  | none => rw [hq] at h; cases h
  | some i =>
    rw [hq] at h
    simp only [Option.map_some, Option.some.injEq, Prod.mk.injEq] at h
    obtain ⟨hz, hs, hb⟩ := h
    have r := run_make w 49 45 i _ (by kernel_rfl) hq hz .i64 .i64 n n (by omega) (Int.le_refl _) (by rw [hb]; omega) (by omega)
    rw [Int.toNat_natCast, hs] at r
    rw [r]
    congr 3
    exact made_row n N D
/-- Who goes first. -/
def vict (S : Nat → Int) (p : Nat × Bool) : Int := if p.2 then S p.1 else 0
theorem lhd_Victim_row (R A Z S : Nat → Int) (hR : IsR R) (hZ : InK .u64 Z) (hS : InK .i64 S) {a0 a1 a2 : Option Addr} {la ca lz cz ls cs : Nat} (hl : ls ≤ 100) (w : World)
    (iA : IsK .i64 w a0 la A) (iZ : IsK .u64 w a1 lz Z) (iS : IsK .i64 w a2 ls S) :
    Calls Try.prog 11 #[rankV R, .slice a0 la ca, .slice a1 lz cz, .slice a2 ls cs] w fun e w' =>
      e = .returned (.tuple #[.int .i64 (vict S (lst (vN R A Z S la lz) (vD Z S la lz) ls)), .bool (lst (vN R A Z S la lz) (vD Z S la lz) ls).2]) ∧ Below w.heap.size w w' := by
  have hmk := fun w => make_ratios ls hl (vN R A Z S la lz) (vD Z S la lz) w
  have HN := Lib.hid (vN_bd hR A Z S la lz)
  have HD := Lib.hid (vD_bd hZ S la lz)
  have HS := Lib.hid hS
  have HZ := Lib.hid hZ
  have HR := Lib.hid hR
  have IA := Lib.hid iA
  have IZ := Lib.hid iZ
  have IS := Lib.hid iS
  have hsz : (rankC R).size = 16 := rowC_size R 16
  have kd := fun a w => lhd_Density R a hR w
  clear hR hS iA iZ iS
  generalize hN : vN R A Z S la lz = N at *
  generalize hD : vD Z S la lz = D at *
  obtain ⟨p, f, hp⟩ : ∃ p f, lst N D ls = (p, f) := ⟨_, _, rfl⟩
  rw [hp]
  have HP := Lib.hid hp
  clear hp
  have HNe := Lib.hid hN
  have HDe := Lib.hid hD
  clear hN hD hZ
  unfold rankV at *
  generalize rankC R = C at *
  go_enter Try.func11, Try.ntmps11
  go_wp2_with fail
  refine forget (fun W => W.heap[w.heap.size]? = some (.cells C 25 (0, 0)) ∧ W.heap[w.heap.size + 1]? = some (.cells (rowC (ilv N D 0) (ls * 2)) 45 (0, 0)) ∧ Below w.heap.size w W ∧ w.heap.size + 2 = W.heap.size) ?_ ?_
  · exact ⟨heap_alloc2_old w _ _, heap_alloc2_new w _ _, ((Below.refl _ _).alloc (Nat.le_refl _) _).alloc (by simp) _, by simp⟩
  rintro W ⟨hg1, hg2, hB, hW⟩
  have HG1 := Lib.hid hg1
  have HG2 := Lib.hid hg2
  clear hg1 hg2 hmk
  go_loopw [20] (fun iv wr => ∃ k : Nat, k ≤ ls ∧ iv = .int .i64 k ∧ Hid (wr.heap[w.heap.size]? = some (.cells C 25 (0, 0))) ∧ Hid (wr.heap[w.heap.size + 1]? = some (.cells (rowC (ilv N D k) (ls * 2)) 45 (0, 0))) ∧ Below w.heap.size w wr ∧ w.heap.size + 2 ≤ wr.heap.size) (fun iv _ => ls - (intOf iv).toNat)
  case atStart => exact ⟨0, Nat.zero_le _, rfl, HG1, HG2, hB, by omega⟩
  case round =>
    obtain ⟨k, hk, rfl, G1, G2, hB', hW'⟩ := hrel
    by_cases hlt : k < ls
    · obtain ⟨b2, o2, e2, hl2, hrow2⟩ : ∃ b off, a2 = some ⟨b, off, none⟩ ∧ ls ≤ 9223372036854775807 ∧ RowK .i64 w b off ls S := by
        rcases IS.out with h | h
        · omega
        · exact h
      subst e2
      have q1 := hrow2.below hB' k hlt
      obtain ⟨s0, s1⟩ := HS.out.i64 k
      clear hrow2
      have skip : ¬ okV Z S la lz k → Hid (wr.heap[w.heap.size + 1]? = some (.cells (rowC (ilv N D (k + 1)) (ls * 2)) 45 (0, 0))) := fun hno => by
        have n0 : N k = 0 := by rw [← HNe.out]; unfold vN; rw [if_neg hno]
        have d0 : D k = 0 := by rw [← HDe.out]; unfold vD; rw [if_neg hno]
        have G3 := G2.out
        rw [ilv_skip n0 d0] at G3
        exact Lib.hid G3
      by_cases h1 : S k < 0
      · have G4 := skip (by unfold okV; omega)
        clear skip
        generalize S k = n at *
        go_wp2_with fail
        exact ⟨⟨k + 1, by omega, by go_num, G1, G4, hB', hW'⟩, by simp [intOf]; omega⟩
      · obtain ⟨m, hm⟩ : ∃ m : Nat, S k = m := ⟨(S k).toNat, by omega⟩
        have hmt : (S k).toNat = m := by omega
        rw [hm] at q1 s0 s1
        by_cases h2 : la ≤ m
        · have G4 := skip (by unfold okV; omega)
          have h2' : ¬ (m : Int) < la := by omega
          clear skip h1 hm hmt
          go_wp2_with fail
          exact ⟨⟨k + 1, by omega, by go_num, G1, G4, hB', hW'⟩, by simp [intOf]; omega⟩
        · by_cases h3 : lz ≤ m
          · have G4 := skip (by unfold okV; omega)
            have h2' : (m : Int) < la := by omega
            have h3' : ¬ (m : Int) < lz := by omega
            clear skip h1 hm hmt
            go_wp2_with fail
            exact ⟨⟨k + 1, by omega, by go_num, G1, G4, hB', hW'⟩, by simp [intOf]; omega⟩
          · obtain ⟨b1, o1, e1, hl1, hrow1⟩ : ∃ b off, a1 = some ⟨b, off, none⟩ ∧ lz ≤ 9223372036854775807 ∧ RowK .u64 w b off lz Z := by
              rcases IZ.out with h | h
              · omega
              · exact h
            obtain ⟨b0, o0, e0, hl0, hrow0⟩ : ∃ b off, a0 = some ⟨b, off, none⟩ ∧ la ≤ 9223372036854775807 ∧ RowK .i64 w b off la A := by
              rcases IA.out with h | h
              · omega
              · exact h
            subst e1 e0
            have q2 := hrow1.below hB' m (by omega)
            have q3 := hrow0.below hB' m (by omega)
            obtain ⟨z0, z1⟩ := HZ.out.u64 m
            have h2' : (m : Int) < la := by omega
            have h3' : (m : Int) < lz := by omega
            clear hrow1 hrow0
            by_cases h4 : Z m = 0
            · have G4 := skip (by unfold okV; rw [hmt]; omega)
              rw [h4] at q2
              clear skip h1 hm hmt
              go_wp2_with fail
              exact ⟨⟨k + 1, by omega, by go_num, G1, G4, hB', hW'⟩, by simp [intOf]; omega⟩
            · have hok : okV Z S la lz k := ⟨by omega, by omega, by omega, by rw [hmt]; exact h4⟩
              have en : N k = densV R (A m) := by rw [← HNe.out]; unfold vN; rw [if_pos hok, hmt]
              have ed : D k = Z m := by rw [← HDe.out]; unfold vD; rw [if_pos hok, hmt]
              have hn4 : (Z m != 0) = true := by simpa using h4
              have kd' := fun w => kd (A m) w
              rw [← en] at kd'
              rw [← ed] at q2 hn4
              have HST := Lib.hid (ilv_step N D k)
              have c1 : wr.cell? ⟨w.heap.size + 1, k * 2, none⟩ = some (.int .u64 (ilv N D k (k * 2))) := (cell_of_row wr _ _ _ _ _ G2.out).trans (rowC_get (by omega))
              have c2 : wr.cell? ⟨w.heap.size + 1, k * 2 + 1, none⟩ = some (.int .u64 (ilv N D k (k * 2 + 1))) := (cell_of_row wr _ _ _ _ _ G2.out).trans (rowC_get (by omega))
              have f0 : wr.frozen? ⟨w.heap.size + 1, k * 2, none⟩ = false := frozen_of_row wr _ _ _ _ G2.out
              have f1 : wr.frozen? ⟨w.heap.size + 1, k * 2 + 1, none⟩ = false := frozen_of_row wr _ _ _ _ G2.out
              have l1 : ∀ w', (∃ x : Under wr, w' = x.w) → (loadVar 25 ⟨w.heap.size, 0, none⟩).run Try.prog w' = .ok (.agg C) w' := by
                rintro _ ⟨x, rfl⟩
                exact run_loadVar_row _ _ _ _ C _ _ ((x.2.block _ (by omega)).trans G1.out) (Option.some_get rank_some).symm (by kernel_rfl) (by rw [rank_size, hsz])
              have p2 := Under.cell q2
              have p3 := Under.cell q3
              have hkl : (k : Int) < ls := by omega
              clear skip h1 hm hmt hok en ed h4 kd
              generalize N k = nk at *
              generalize D k = dk at *
              go_wp2_with fail
              (refine region_tail 14 (by kernel_rfl) (by kernel_rfl) ?_; simp only [List.take_succ_cons, List.take_zero, List.drop_succ_cons, List.drop_zero]; (repeat (first | (refine quiet_load_row rfl _ _ rfl w.heap.size 0 rfl C l1 _ rfl ?_; simp only [Act.put, List.setIfInBounds_toArray, List.set_cons_succ, List.set_cons_zero]) | go_big_quiet_step ((go_at_call 21; (with_reducible exact quietU (kd' _)))) | quiet_step ((go_at_call 21; (with_reducible exact quietU (kd' _)))))); refine wpQuiet_nil ?_; intro _ hw'; obtain ⟨x, hw''⟩ := hw'; subst hw'')
              have d1 := Under.cell c1 x
              have d2 := Under.cell c2 x
              have g1 : x.w.frozen? ⟨w.heap.size + 1, k * 2, none⟩ = false := keepBf x.2 c1 f0
              have g2 : x.w.frozen? ⟨w.heap.size + 1, k * 2 + 1, none⟩ = false := keepBf x.2 c2 f1
              have J2 : x.w.heap[w.heap.size + 1]? = some (.cells (rowC (ilv N D k) (ls * 2)) 45 (0, 0)) := (x.2.block _ (by omega)).trans G2.out
              have J1 : x.w.heap[w.heap.size]? = some (.cells C 25 (0, 0)) := (x.2.block _ (by omega)).trans G1.out
              have JS : wr.heap.size ≤ x.w.heap.size := x.2.size
              have K2 := heap_setCell_same (x.w.setCell ⟨w.heap.size + 1, k * 2, none⟩ (.int .u64 nk)) (w.heap.size + 1) (k * 2 + 1) _ _ (.int .u64 dk) (heap_setCell_same x.w (w.heap.size + 1) (k * 2) _ _ (.int .u64 nk) J2)
              rw [rowC_upd, rowC_upd, HST.out] at K2
              have K1 := (heap_setCell_other (x.w.setCell ⟨w.heap.size + 1, k * 2, none⟩ (.int .u64 nk)) ⟨w.heap.size + 1, k * 2 + 1, none⟩ w.heap.size (.int .u64 dk) (by simp)).trans ((heap_setCell_other x.w ⟨w.heap.size + 1, k * 2, none⟩ w.heap.size (.int .u64 nk) (by simp)).trans J1)
              have KS : w.heap.size + 2 ≤ ((x.w.setCell ⟨w.heap.size + 1, k * 2, none⟩ (.int .u64 nk)).setCell ⟨w.heap.size + 1, k * 2 + 1, none⟩ (.int .u64 dk)).heap.size := by simp; omega
              have HK1 := Lib.hid K1
              have HK2 := Lib.hid K2
              have HB2 := hB'.trans (x.2.mono hB'.size)
              clear J1 J2 K1 K2 c1 c2 f0 f1 HST l1
              go_wp2_with fail
              refine ⟨⟨k + 1, by omega, by go_num, HK1, HK2, (HB2.setCell ?_ _).setCell ?_ _, KS⟩, by simp [intOf]; omega⟩ <;> simp
    · obtain rfl : k = ls := by omega
      have hrow : RowR wr (w.heap.size + 1) 0 k N D := ilv_row G2.out
      have kl := fun w' hb => ratio_Least (w.heap.size + 1) 0 k k N D HN.out HD.out (by omega) w' (hrow.below hb)
      have hpf := lst_found (N := N) (D := D) (k := k) (p := p) (fun i => (HD.out i).1)
      simp only [HP.out] at kl
      rw [HP.out] at hpf
      have HPF := Lib.hid hpf
      clear hpf hrow
      cases f
      · go_wp2_with fail
        refine (kl _ (Below.refl _ _)).mono ?_
        rintro e w5 ⟨rfl, hb5⟩
        go_wp2_with fail
        go_ret2
        exact ⟨rfl, hB'.trans (hb5.mono hB'.size)⟩
      · obtain ⟨hpk, _⟩ := HPF.out rfl
        obtain ⟨b2, o2, e2, hl2, hrow2⟩ : ∃ b off, a2 = some ⟨b, off, none⟩ ∧ k ≤ 9223372036854775807 ∧ RowK .i64 w b off k S := by
          rcases IS.out with h | h
          · omega
          · exact h
        subst e2
        go_wp2_with fail
        refine (kl _ (Below.refl _ _)).mono ?_
        rintro e w5 ⟨rfl, hb5⟩
        have HB5 := hB'.trans (hb5.mono hB'.size)
        have q1 := hrow2.below HB5 p hpk
        clear hrow2
        go_wp2_with fail
        go_ret2
        exact ⟨rfl, HB5⟩
end Go.Proofs.Ytmehejdgdjaipaa
