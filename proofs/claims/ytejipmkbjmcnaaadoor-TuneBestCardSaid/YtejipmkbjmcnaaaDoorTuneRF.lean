/- The walks of the reference's Check, Part, power, Fill, Time, Score. -/
import Derived.Test.YtejipmkbjmcnaaaDoorTuneR
import Derived.Test.YtejipmkbjmcnaaaDoorTuneV
import Derived.Test.YtejipmkbjmcnaaaDoorExpoR
import Derived.Test.YtejipmkbjmcnaaaDoorWordR
import Derived.Test.YtejipmkbjmcnaaaDoorFixedR
set_option linter.unusedVariables false
set_option maxRecDepth 100000
set_option maxHeartbeats 2000000
namespace Go.Proofs.YtejipmkbjmcnaaaDoor
open Go.RowKit Go.Shelf
attribute [local go_sem ↓] lt_alloc

theorem ref21_Check {a : Option Addr} {n cap : Nat} {l : List Sn} (hn : l.length = n) (w : World) (iW : IsW w a l) :
    Calls Tryd.prog 13 #[.slice a n cap] w fun e w' => e = .returned (.bool (decide (mayW l))) ∧ Below w.heap.size w w' := by
  obtain ⟨b, hb⟩ : ∃ b, decide (mayW l) = b := ⟨_, rfl⟩
  rw [hb]
  have HB := Lib.hid hb
  have IW := Lib.hid iW
  have HN := Lib.hid hn
  clear hb iW hn
  go_enter Tryd.func13, Tryd.ntmps13
  go_wp2_with fail
  go_loopw [3] (fun iv wr => ∃ i : Nat, i ≤ n ∧ iv = .int .i64 i ∧ Hid (∀ j, j < i → okAt l j) ∧ Below w.heap.size w wr) (fun iv _ => n - (intOf iv).toNat)
  case atStart => exact ⟨0, Nat.zero_le _, rfl, Lib.hid (fun j hj => absurd hj (Nat.not_lt_zero j)), Below.refl _ _⟩
  case round =>
    obtain ⟨i, hi, rfl, hall, hB⟩ := hrel
    by_cases hlt : i < n
    · obtain ⟨ab, ao, rfl, h63, q0, q1, q2⟩ := (IW.out.below hB).row (i := i) (by rw [HN.out]; exact hlt)
      rw [HN.out] at h63
      have bad : ¬ okAt l i → b = false := fun h => HB.out.symm.trans (decide_eq_false fun hm => h (hm.2 i (by rw [HN.out]; exact hlt)))
      have BAD := Lib.hid bad
      have good : okAt l i → ∀ j, j < i + 1 → okAt l j := fun h j hj => by
        rcases Nat.lt_succ_iff_lt_or_eq.1 hj with h1 | rfl
        · exact hall.out j h1
        · exact h
      have GOOD := Lib.hid good
      have PREV := Lib.hid (fun (h0 : 0 < i) => show ∃ o, wr.cell? ⟨ab, o, none⟩ = some (.string (wAt l (i - 1)).key) ∧ o = ao + (i - 1) * 3 from by
        obtain ⟨ab', ao', hh, _, s0, _, _⟩ := (IW.out.below hB).row (i := i - 1) (by rw [HN.out]; omega)
        cases hh
        exact ⟨_, s0, rfl⟩)
      clear bad good hall
      generalize hk : (wAt l i).key = k at *
      generalize hz : (wAt l i).size = z at *
      generalize hm : (wAt l i).n = m at *
      have HK := Lib.hid hk
      have HZ := Lib.hid hz
      have HM := Lib.hid hm
      clear hk hz hm
      have p0 := Under.cell q0
      have p1 := Under.cell q1
      have p2 := Under.cell q2
      clear q0 q1 q2
      by_cases h1 : z < 1
      · have d1 : decide (z < 1) = true := decide_eq_true h1
        have BD := Lib.hid (BAD.out fun h => by have h1 := h.1; unfold okNum at h1; rw [HZ.out, HM.out] at h1; omega)
        clear h1
        go_wp2_with fail
        (refine region_under (by kernel_rfl) (by kernel_rfl) ?_; (repeat (first | go_big_quiet_step ((fail)) | quiet_step ((fail)))); refine wpQuiet_nil ?_; intro _ hw'; obtain ⟨x, hw''⟩ := hw'; subst hw''; go_wp2_with fail)
        go_ret
        exact ⟨by rw [BD.out]; rfl, hB.trans (x.2.mono hB.size)⟩
      · have d1 : decide (z < 1) = false := decide_eq_false h1
        by_cases h2 : 4096 < z
        · have d2 : decide (4096 < z) = true := decide_eq_true h2
          have BD := Lib.hid (BAD.out fun h => by have h1 := h.1; unfold okNum at h1; rw [HZ.out, HM.out] at h1; omega)
          clear h1 h2
          go_wp2_with fail
          (refine region_under (by kernel_rfl) (by kernel_rfl) ?_; (repeat (first | go_big_quiet_step ((fail)) | quiet_step ((fail)))); refine wpQuiet_nil ?_; intro _ hw'; obtain ⟨x, hw''⟩ := hw'; subst hw''; go_wp2_with fail)
          go_ret
          exact ⟨by rw [BD.out]; rfl, hB.trans (x.2.mono hB.size)⟩
        · have d2 : decide (4096 < z) = false := decide_eq_false h2
          by_cases h3 : m < 1
          · have d3 : decide (m < 1) = true := decide_eq_true h3
            have BD := Lib.hid (BAD.out fun h => by have h1 := h.1; unfold okNum at h1; rw [HZ.out, HM.out] at h1; omega)
            clear h1 h2 h3
            go_wp2_with fail
            (refine region_under (by kernel_rfl) (by kernel_rfl) ?_; (repeat (first | go_big_quiet_step ((fail)) | quiet_step ((fail)))); refine wpQuiet_nil ?_; intro _ hw'; obtain ⟨x, hw''⟩ := hw'; subst hw''; go_wp2_with fail)
            go_ret
            exact ⟨by rw [BD.out]; rfl, hB.trans (x.2.mono hB.size)⟩
          · have d3 : decide (m < 1) = false := decide_eq_false h3
            by_cases h4 : 1000 < m
            · have d4 : decide (1000 < m) = true := decide_eq_true h4
              have BD := Lib.hid (BAD.out fun h => by have h1 := h.1; unfold okNum at h1; rw [HZ.out, HM.out] at h1; omega)
              clear h1 h2 h3 h4
              go_wp2_with fail
              (refine region_under (by kernel_rfl) (by kernel_rfl) ?_; (repeat (first | go_big_quiet_step ((fail)) | quiet_step ((fail)))); refine wpQuiet_nil ?_; intro _ hw'; obtain ⟨x, hw''⟩ := hw'; subst hw''; go_wp2_with fail)
              go_ret
              exact ⟨by rw [BD.out]; rfl, hB.trans (x.2.mono hB.size)⟩
            · have d4 : decide (1000 < m) = false := decide_eq_false h4
              have NUM := Lib.hid (show okNum (wAt l i) by unfold okNum; rw [HZ.out, HM.out]; omega)
              clear h1 h2 h3 h4
              rcases Nat.eq_zero_or_pos i with h0 | h0
              · have d5 : decide (0 < i) = false := decide_eq_false (by omega)
                have d6 : decide ((0 : Int) < i) = false := decide_eq_false (by omega)
                have GD := Lib.hid (GOOD.out ⟨NUM.out, fun h => by omega⟩)
                clear h0
                go_wp2_with fail
                (refine region_under (by kernel_rfl) (by kernel_rfl) ?_; (repeat (first | go_big_quiet_step ((fail)) | quiet_step ((fail)))); refine wpQuiet_nil ?_; intro _ hw'; obtain ⟨x, hw''⟩ := hw'; subst hw''; go_wp2_with fail)
                exact ⟨⟨i + 1, by omega, by go_num, GD, hB.trans (x.2.mono hB.size)⟩, by simp [intOf]; omega⟩
              · have d5 : decide (0 < i) = true := decide_eq_true h0
                have d6 : decide ((0 : Int) < i) = true := decide_eq_true (by omega)
                obtain ⟨o, s0, ho⟩ := PREV.out h0
                subst ho
                have p3 := Under.cell s0
                have hi1 : 0 ≤ (i : Int) - 1 := by omega
                have hi2 : ((i : Int) - 1).toNat = i - 1 := by omega
                have hi3 : (i : Int) - 1 < n := by omega
                clear s0
                generalize hk' : (wAt l (i - 1)).key = k' at *
                have HK' := Lib.hid hk'
                clear hk'
                cases hlt2 : Op.bytesLess k'.toList k.toList with
                | true =>
                  have GD := Lib.hid (GOOD.out ⟨NUM.out, fun _ => by rw [HK.out, HK'.out]; exact hlt2⟩)
                  go_wp2_with fail
                  (refine region_under (by kernel_rfl) (by kernel_rfl) ?_; (repeat (first | go_big_quiet_step ((fail)) | quiet_step ((fail)))); refine wpQuiet_nil ?_; intro _ hw'; obtain ⟨x, hw''⟩ := hw'; subst hw''; go_wp2_with fail)
                  exact ⟨⟨i + 1, by omega, by go_num, GD, hB.trans (x.2.mono hB.size)⟩, by simp [intOf]; omega⟩
                | false =>
                  have BD := Lib.hid (BAD.out fun h => by have := h.2 h0; rw [HK.out, HK'.out] at this; exact absurd this (by unfold ltB; rw [hlt2]; decide))
                  go_wp2_with fail
                  (refine region_under (by kernel_rfl) (by kernel_rfl) ?_; (repeat (first | go_big_quiet_step ((fail)) | quiet_step ((fail)))); refine wpQuiet_nil ?_; intro _ hw'; obtain ⟨x, hw''⟩ := hw'; subst hw''; go_wp2_with fail)
                  go_ret
                  exact ⟨by rw [BD.out]; rfl, hB.trans (x.2.mono hB.size)⟩
    · obtain rfl : n = i := by omega
      by_cases hl : n ≤ 1000
      · have d0 : decide ((n : Int) ≤ 1000) = true := decide_eq_true (by omega)
        have d1 : decide (n ≤ 1000) = true := decide_eq_true hl
        have HT := Lib.hid (show b = true by rw [← HB.out]; exact decide_eq_true ⟨by rw [HN.out]; exact hl, fun j hj => hall.out j (by rw [← HN.out]; exact hj)⟩)
        clear hl
        go_wp2_with fail
        go_ret
        exact ⟨by rw [HT.out]; rfl, hB⟩
      · have d0 : decide ((n : Int) ≤ 1000) = false := decide_eq_false (by omega)
        have d1 : decide (n ≤ 1000) = false := decide_eq_false hl
        have HT := Lib.hid (show b = false by rw [← HB.out]; exact decide_eq_false fun h => hl (by rw [← HN.out]; exact h.1))
        clear hl
        go_wp2_with fail
        go_ret
        exact ⟨by rw [HT.out]; rfl, hB⟩

theorem partO_zero {t : Int} (h : 0 ≤ t) : partO 0 t = 0 := by
  rw [(partO_eq (Int.le_refl 0) h).1]
  have e : capO 0 t = 0 := by unfold capO mulS; rw [Int.zero_mul]; rw [if_pos (by decide)]; decide
  rw [e]; decide
theorem ref21_Part {s : Sn} {limit t : Int} (hs : -9223372036854775808 ≤ s.size ∧ s.size < 9223372036854775808) (hn : -9223372036854775808 ≤ s.n ∧ s.n < 9223372036854775808) (l0 : 0 ≤ limit) (l1 : limit < 18446744073709551616) (t0 : 0 ≤ t) (t1 : t < 18446744073709551616) (w : World) :
    Calls Tryd.prog 18 #[.agg #[.string s.key, .int .i64 s.size, .int .i64 s.n], .int .u64 limit, .int .u64 t] w fun e w' => e = .returned (.int .u64 (partO (oddsW s limit) t)) ∧ Below w.heap.size w w' := by
  by_cases h1 : s.size < 1
  · have e : partO (oddsW s limit) t = 0 := by
      have e : oddsW s limit = 0 := by unfold oddsW; rw [if_pos (Or.inl h1)]
      rw [e, partO_zero t0]
    rw [e]
    clear e
    generalize s.size = z at *
    generalize s.n = m at *
    have d1 : decide (z < 1) = true := decide_eq_true h1
    go_enter Tryd.func18, Tryd.ntmps18
    go_wp2_with fail
    go_ret
    exact ⟨rfl, (Below.refl _ _).alloc (Nat.le_refl _) _⟩
  · by_cases h2 : s.n < 1
    · have e : partO (oddsW s limit) t = 0 := by
        have e : oddsW s limit = 0 := by unfold oddsW; rw [if_pos (Or.inr h2)]
        rw [e, partO_zero t0]
      rw [e]
      clear e
      generalize s.size = z at *
      generalize s.n = m at *
      have d1 : decide (z < 1) = false := decide_eq_false h1
      have d2 : decide (m < 1) = true := decide_eq_true h2
      go_enter Tryd.func18, Tryd.ntmps18
      go_wp2_with fail
      go_ret
      exact ⟨rfl, (Below.refl _ _).alloc (Nat.le_refl _) _⟩
    · have ho : oddsW s limit = mulS (exR s.size limit) s.n := by
        unfold oddsW ofS
        rw [if_neg (by omega), if_neg (by omega), if_neg (by omega)]
      have hob := oddsW_bd (s := s) (limit := limit) l0 hs.2 hn.2
      have k3 := fun w => ref5_Ratio s.size limit (by omega) (by omega) l0 l1 w
      have b3 := exR_bd s.size limit
      have k4 := fun w => ref_Mul (exR s.size limit) s.n b3.1 (by omega) w
      rw [← ho] at k4
      have k5 := fun w => ref_Mul (oddsW s limit) t hob.1 t0 w
      have hm := mulS_bd (oddsW s limit) t hob.1 t0
      have hP : partO (oddsW s limit) t = fxV (min (mulS (oddsW s limit) t) 9223372036854775808) (min (mulS (oddsW s limit) t) 9223372036854775808 + 4294967296) := by
        unfold partO capO
        rw [Int.add_comm]
      rw [hP]
      clear hP ho
      generalize oddsW s limit = o at *
      generalize exR s.size limit = u at *
      generalize mulS o t = q at *
      have hz1 : 1 ≤ s.size := by omega
      have hm1 : 1 ≤ s.n := by omega
      generalize s.size = z at *
      generalize s.n = m at *
      generalize s.key = k at *
      have d1 : decide (z < 1) = false := decide_eq_false h1
      have d2 : decide (m < 1) = false := decide_eq_false h2
      clear h1 h2
      by_cases hq : 9223372036854775808 < q
      · have dq : decide (9223372036854775808 < q) = true := decide_eq_true hq
        have emin : min q 9223372036854775808 = 9223372036854775808 := by omega
        rw [emin]
        have k6 := fun w => ref4_Of 9223372036854775808 (9223372036854775808 + 4294967296) (by decide) (by decide) (by decide) (by decide) w
        generalize fxV 9223372036854775808 (9223372036854775808 + 4294967296) = v at *
        generalize fxE 9223372036854775808 (9223372036854775808 + 4294967296) = ve at *
        clear hq emin
        go_enter Tryd.func18, Tryd.ntmps18
        go_wp2_with fail
        refine forget (fun W => W.cell? ⟨w.heap.size, 1, none⟩ = some (.int .i64 z) ∧ W.cell? ⟨w.heap.size, 2, none⟩ = some (.int .i64 m) ∧ Below w.heap.size w W) ⟨cell_of_row _ _ 1 _ _ _ (heap_alloc_new w _), cell_of_row _ _ 2 _ _ _ (heap_alloc_new w _), (Below.refl _ _).alloc (Nat.le_refl _) _⟩ ?_
        rintro W ⟨r1, r2, hB⟩
        have p1 := Under.cell r1
        have p2 := Under.cell r2
        clear r1 r2
        (refine region_under (by kernel_rfl) (by kernel_rfl) ?_; (repeat (first | go_big_quiet_step ((first | (go_at_call 37; with_reducible exact quietU (k3 _)) | (go_at_call 36; first | (with_reducible exact stayU (k4 _)) | (with_reducible exact stayU (k5 _))))) | quiet_step ((first | (go_at_call 37; with_reducible exact quietU (k3 _)) | (go_at_call 36; first | (with_reducible exact stayU (k4 _)) | (with_reducible exact stayU (k5 _))))))); refine wpQuiet_nil ?_; intro _ hw'; obtain ⟨x, hw''⟩ := hw'; subst hw''; go_wp2_with fail)
        refine (k6 _).mono ?_
        rintro e w2 ⟨rfl, hb⟩
        have hB2 := Lib.hid (hB.trans ((x.2.trans (hb.mono x.2.size)).mono hB.size))
        clear hb
        go_wp2_with fail
        go_ret
        exact ⟨rfl, hB2.out⟩
      · have dq : decide (9223372036854775808 < q) = false := decide_eq_false hq
        have emin : min q 9223372036854775808 = q := by omega
        rw [emin]
        have k6 := fun w => ref4_Of q (q + 4294967296) (by omega) (by omega) (by omega) (by omega) w
        generalize fxV q (q + 4294967296) = v at *
        generalize fxE q (q + 4294967296) = ve at *
        have hq' : q ≤ 9223372036854775808 := by omega
        clear hq emin
        go_enter Tryd.func18, Tryd.ntmps18
        go_wp2_with fail
        refine forget (fun W => W.cell? ⟨w.heap.size, 1, none⟩ = some (.int .i64 z) ∧ W.cell? ⟨w.heap.size, 2, none⟩ = some (.int .i64 m) ∧ Below w.heap.size w W) ⟨cell_of_row _ _ 1 _ _ _ (heap_alloc_new w _), cell_of_row _ _ 2 _ _ _ (heap_alloc_new w _), (Below.refl _ _).alloc (Nat.le_refl _) _⟩ ?_
        rintro W ⟨r1, r2, hB⟩
        have p1 := Under.cell r1
        have p2 := Under.cell r2
        clear r1 r2
        (refine region_under (by kernel_rfl) (by kernel_rfl) ?_; (repeat (first | go_big_quiet_step ((first | (go_at_call 37; with_reducible exact quietU (k3 _)) | (go_at_call 36; first | (with_reducible exact stayU (k4 _)) | (with_reducible exact stayU (k5 _))))) | quiet_step ((first | (go_at_call 37; with_reducible exact quietU (k3 _)) | (go_at_call 36; first | (with_reducible exact stayU (k4 _)) | (with_reducible exact stayU (k5 _))))))); refine wpQuiet_nil ?_; intro _ hw'; obtain ⟨x, hw''⟩ := hw'; subst hw''; go_wp2_with fail)
        refine (k6 _).mono ?_
        rintro e w2 ⟨rfl, hb⟩
        have hB2 := Lib.hid (hB.trans ((x.2.trans (hb.mono x.2.size)).mono hB.size))
        clear hb
        go_wp2_with fail
        go_ret
        exact ⟨rfl, hB2.out⟩
theorem ref21_power {n : Nat} (hn : n ≤ 32) (w : World) : Calls Tryd.prog 44 #[.int .u64 n] w fun e w' => e = .returned (.int .u64 (2 ^ n)) ∧ w = w' := by
  have k := fun w => ref_Shl 1 n (by decide) (by decide) (by omega) w
  have hp := powT_bd (i := n) (by omega)
  have e : shlS 1 n = 2 ^ n := by
    unfold shlS
    rw [Int.toNat_natCast, Int.one_mul, if_pos hp.2]
  rw [e] at k
  clear e
  go_enter Tryd.func44, Tryd.ntmps44
  go_wp2_with (go_at_call 59; refine (k _).mono ?_; rintro e w' ⟨rfl, rfl⟩)
  go_ret
  exact ⟨rfl, rfl⟩

theorem ofS_pos {z : Int} (h : 1 ≤ z) : ofS z = z := by unfold ofS; rw [if_neg (by omega)]
theorem ref21_Fill {a : Option Addr} {n cap : Nat} {l : List Sn} {limit t : Int} (hn : l.length = n) (hi : InW l) (l0 : 0 ≤ limit) (l1 : limit < 18446744073709551616) (t0 : 0 ≤ t) (t1 : t < 18446744073709551616) (w : World) (iW : IsW w a l) :
    Calls Tryd.prog 20 #[.slice a n cap, .int .u64 limit, .int .u64 t] w fun e w' => e = .returned (.int .u64 (if mayW l then fillW l limit t else 0)) ∧ Below w.heap.size w w' := by
  have k1 := fun w iW => ref21_Check (a := a) (cap := cap) hn w iW
  have IW := Lib.hid iW
  by_cases hmay : mayW l
  · rw [if_pos hmay]
    rw [decide_eq_true hmay] at k1
    have hv : fillW l limit t = sumW (fillF l limit t) n := by rw [← hn]; rfl
    rw [hv]
    have hF : ∀ i, i < n → 0 ≤ fillF l limit t i ∧ fillF l limit t i < 18446744073709551616 := fun i h =>
      mulS_bd _ _ (ofS_bd _ (hi i (by rw [hn]; exact h)).1.2).1 (partO_bd (oddsW_bd l0 (hi i (by omega)).1.2 (hi i (by omega)).2.2).1 t0).1
    have hsb : ∀ i, i ≤ n → 0 ≤ sumW (fillF l limit t) i ∧ sumW (fillF l limit t) i < 18446744073709551616 := by
      intro i
      induction i with
      | zero => intro _; exact ⟨Int.le_refl _, by show (0 : Int) < _; omega⟩
      | succ i ih => intro h; exact addS_bd _ _ (ih (by omega)).1 (hF i (by omega)).1
    have HF := Lib.hid hF
    have HSB := Lib.hid hsb
    have HMAY := Lib.hid hmay
    have HI := Lib.hid hi
    have HN := Lib.hid hn
    clear hF hsb hmay hi iW hn hv
    go_enter Tryd.func20, Tryd.ntmps20
    go_wp2_with fail
    refine (k1 _ IW.out).mono ?_
    rintro e w1 ⟨rfl, hb⟩
    have HB1 := Lib.hid hb
    clear hb k1
    go_wp2_with fail
    go_loopw [8, 9] (fun sv iv W => ∃ i : Nat, i ≤ n ∧ iv = .int .i64 i ∧ sv = .int .u64 (sumW (fillF l limit t) i) ∧ Below w.heap.size w W) (fun _ iv _ => n - (intOf iv).toNat)
    case atStart => exact ⟨0, Nat.zero_le _, rfl, rfl, HB1.out⟩
    case round =>
      obtain ⟨i, hi, rfl, rfl, hB⟩ := hrel
      by_cases hlt : i < n
      · obtain ⟨ab, ao, rfl, h63, q0, q1, q2⟩ := (IW.out.below hB).row (i := i) (by rw [HN.out]; exact hlt)
        rw [HN.out] at h63
        have hw := HI.out i (by rw [HN.out]; exact hlt)
        have hz1 : 1 ≤ (wAt l i).size := (HMAY.out.2 i (by rw [HN.out]; exact hlt)).1.1
        have hob := oddsW_bd (s := wAt l i) (limit := limit) l0 hw.1.2 hw.2.2
        have hpb := partO_bd hob.1 t0
        have k2 := fun w => ref21_Part (s := wAt l i) (limit := limit) (t := t) hw.1 hw.2 l0 l1 t0 t1 w
        have k3 := fun w => ref_Mul (wAt l i).size (partO (oddsW (wAt l i) limit) t) (by omega) hpb.1 w
        have eF : mulS (wAt l i).size (partO (oddsW (wAt l i) limit) t) = fillF l limit t i := by unfold fillF; rw [ofS_pos hz1]
        rw [eF] at k3
        have HS := Lib.hid (show addS (sumW (fillF l limit t) i) (fillF l limit t i) = sumW (fillF l limit t) (i + 1) from rfl)
        have hb1 := HF.out i hlt
        have hb2 := HSB.out i hi
        have k4 := fun w => ref_Add (sumW (fillF l limit t) i) (fillF l limit t i) hb2.1 hb1.1 hb1.2 w
        clear eF hob
        generalize sumW (fillF l limit t) i = s at *
        generalize fillF l limit t i = v at *
        generalize partO (oddsW (wAt l i) limit) t = p at *
        generalize addS s v = sv at *
        have hz2 := hw.1.2
        clear hw
        generalize (wAt l i).size = z at *
        generalize (wAt l i).key = ky at *
        generalize (wAt l i).n = m at *
        have p0 := Under.cell q0
        have p1 := Under.cell q1
        have p2 := Under.cell q2
        clear q0 q1 q2
        go_wp2_with fail
        (refine region_under (by kernel_rfl) (by kernel_rfl) ?_; (repeat (first | go_big_quiet_step ((first | (go_at_call 18; with_reducible exact quietU (k2 _)) | (go_at_call 36; with_reducible exact stayU (k3 _)) | (go_at_call 41; with_reducible exact stayU (k4 _)))) | quiet_step ((first | (go_at_call 18; with_reducible exact quietU (k2 _)) | (go_at_call 36; with_reducible exact stayU (k3 _)) | (go_at_call 41; with_reducible exact stayU (k4 _)))))); refine wpQuiet_nil ?_; intro _ hw'; obtain ⟨x, hw''⟩ := hw'; subst hw''; go_wp2_with fail)
        exact ⟨⟨i + 1, by omega, by go_num, by rw [← HS.out], hB.trans (x.2.mono hB.size)⟩, by simp [intOf]; omega⟩
      · obtain rfl : n = i := by omega
        go_wp2_with fail
        go_ret
        exact ⟨rfl, hB⟩
  · rw [if_neg hmay]
    rw [decide_eq_false hmay] at k1
    clear iW hmay hi hn
    go_enter Tryd.func20, Tryd.ntmps20
    go_wp2_with fail
    refine (k1 _ IW.out).mono ?_
    rintro e w1 ⟨rfl, hb⟩
    have HB1 := Lib.hid hb
    clear hb k1
    go_wp2_with fail
    by_cases h0 : 0 < n
    · have d0 : decide (0 < n) = true := decide_eq_true h0
      go_wp2_with fail
      go_loopw [8, 9] (fun sv iv W => iv = .int .i64 0 ∧ sv = .int .u64 0 ∧ Below w.heap.size w W) (fun _ iv _ => 0)
      case atStart => exact ⟨rfl, rfl, HB1.out⟩
      case round =>
        obtain ⟨rfl, rfl, hB⟩ := hrel
        go_wp2_with fail
        go_ret
        exact ⟨rfl, hB⟩
    · obtain rfl : n = 0 := by omega
      go_wp2_with fail
      go_loopw [8, 9] (fun sv iv W => iv = .int .i64 0 ∧ sv = .int .u64 0 ∧ Below w.heap.size w W) (fun _ iv _ => 0)
      case atStart => exact ⟨rfl, rfl, HB1.out⟩
      case round =>
        obtain ⟨rfl, rfl, hB⟩ := hrel
        go_wp2_with fail
        go_ret
        exact ⟨rfl, hB⟩

theorem fillW_bd {l : List Sn} {limit t : Int} (hi : InW l) (l0 : 0 ≤ limit) (t0 : 0 ≤ t) : 0 ≤ fillW l limit t ∧ fillW l limit t < 18446744073709551616 := by
  have hF : ∀ i, i < l.length → 0 ≤ fillF l limit t i ∧ fillF l limit t i < 18446744073709551616 := fun i h =>
    mulS_bd _ _ (ofS_bd _ (hi i h).1.2).1 (partO_bd (oddsW_bd l0 (hi i (by omega)).1.2 (hi i (by omega)).2.2).1 t0).1
  have hsb : ∀ i, i ≤ l.length → 0 ≤ sumW (fillF l limit t) i ∧ sumW (fillF l limit t) i < 18446744073709551616 := by
    intro i
    induction i with
    | zero => intro _; exact ⟨Int.le_refl _, by show (0 : Int) < _; omega⟩
    | succ i ih => intro h; exact addS_bd _ _ (ih (by omega)).1 (hF i (by omega)).1
  exact hsb _ (Nat.le_refl _)
theorem timeW_only {l : List Sn} {limit most : Int} (hi : InW l) (l0 : 0 ≤ limit) {b : Nat} (hb : b ≤ 32) (h1 : b = 0 ∨ fillW l limit (2 ^ b) ≤ roomW most)
    (h2 : ∀ j, j < 33 → fillW l limit (2 ^ j) ≤ roomW most → j ≤ b) : b = timeW l limit most := by
  have hm : ∀ i j : Nat, i ≤ j → fillW l limit (2 ^ i) ≤ fillW l limit (2 ^ j) := fun i j h => fillW_mono hi l0 (Int.le_of_lt (Int.pow_pos (by decide))) (pow_le h)
  obtain ⟨s1, s2, s3⟩ := leadG_spec (F := fun n => fillW l limit (2 ^ n)) (room := roomW most) 33 0
  have hle := leadG_le (fun n => fillW l limit (2 ^ n)) (roomW most) 33 0
  unfold timeW
  generalize leadG (fun n => fillW l limit (2 ^ n)) (roomW most) 0 33 = K at *
  rcases Nat.lt_trichotomy b (K - 1) with h | h | h
  · have := h2 (K - 1) (by omega) (s1 (K - 1) (Nat.zero_le _) (by omega))
    omega
  · exact h
  · rcases h1 with h1 | h1
    · omega
    · exact absurd (Int.le_trans (hm K b (by omega)) h1) (s2 (by omega))
theorem ref21_Time {a : Option Addr} {n cap : Nat} {l : List Sn} {limit most : Int} (hn : l.length = n) (hi : InW l) (l0 : 0 ≤ limit) (l1 : limit < 18446744073709551616) (m0 : 0 ≤ most) (m1 : most < 18446744073709551616) (w : World) (iW : IsW w a l) :
    Calls Tryd.prog 24 #[.slice a n cap, .int .u64 limit, .int .u64 most] w fun e w' => e = .returned (.int .u64 ((if mayW l then timeW l limit most else 0 : Nat) : Int)) ∧ Below w.heap.size w w' := by
  have k1 := fun w iW => ref21_Check (a := a) (cap := cap) hn w iW
  have IW := Lib.hid iW
  by_cases hmay : mayW l
  · rw [if_pos hmay]
    rw [decide_eq_true hmay] at k1
    have k2 := fun (t : Int) t0 t1 w iW => ref21_Fill (a := a) (n := n) (cap := cap) (limit := limit) (t := t) hn hi l0 l1 t0 t1 w iW
    simp only [if_pos hmay] at k2
    have k3 := fun w => ref_Mul most 4294967296 m0 (by decide) w
    have hrm : mulS most 4294967296 = roomW most := rfl
    rw [hrm] at k3
    have hrb := mulS_bd most 4294967296 m0 (by decide)
    rw [hrm] at hrb
    have hon := fun b hb h1 h2 => timeW_only (l := l) (limit := limit) (most := most) (b := b) hi l0 hb h1 h2
    have hfb := fun i => fillW_bd (l := l) (limit := limit) (t := 2 ^ i) hi l0 (Int.le_of_lt (Int.pow_pos (by decide)))
    obtain ⟨F, hF⟩ : ∃ F : Nat → Int, ∀ i : Nat, fillW l limit (2 ^ i) = F i := ⟨_, fun i => rfl⟩
    simp only [hF] at hon hfb
    have HON := Lib.hid hon
    have HFB := Lib.hid hfb
    have HF := Lib.hid hF
    have K2 := Lib.hid k2
    clear hmay hi iW hn hon hfb hF k2 hrm
    generalize roomW most = room at *
    generalize timeW l limit most = tw at *
    go_enter Tryd.func24, Tryd.ntmps24
    go_wp2_with fail
    refine (k1 _ IW.out).mono ?_
    rintro e w1 ⟨rfl, hb⟩
    have HB1 := Lib.hid hb
    clear hb k1
    go_wp2_with fail
    go_loopw [8, 9] (fun sv iv W => ∃ i b : Nat, i ≤ 33 ∧ b ≤ 32 ∧ iv = .int .u64 i ∧ sv = .int .u64 b ∧ Hid ((b = 0 ∨ F b ≤ room) ∧ ∀ j, j < i → F j ≤ room → j ≤ b) ∧ Below w.heap.size w W) (fun _ iv _ => 33 - (intOf iv).toNat)
    case atStart => exact ⟨0, 0, by decide, by decide, rfl, rfl, Lib.hid ⟨Or.inl rfl, fun j hj => absurd hj (Nat.not_lt_zero j)⟩, HB1.out⟩
    case round =>
      obtain ⟨i, b, hi, hb32, rfl, rfl, hinv, hB⟩ := hrel
      by_cases hlt : i < 33
      · have hp := powT_bd hlt
        have k2 := fun (x : Under w1) => K2.out (2 ^ i) (by omega) hp.2
        have kp := fun w => ref21_power (n := i) (by omega) w
        have kf := fun w iW => K2.out (2 ^ i) (by omega) hp.2 w iW
        rw [HF.out i] at kf
        have hfb := HFB.out i
        have IWr := Lib.hid (IW.out.below hB)
        clear k2
        generalize hfv : F i = f at *
        have HFV := Lib.hid hfv
        clear hfv
        have hd1 : decide ((i : Int) ≤ 32) = true := decide_eq_true (by omega)
        have hd2 : decide (i ≤ 32) = true := decide_eq_true (by omega)
        generalize (2 : Int) ^ i = t at *
        by_cases hle : f ≤ room
        · have d1 : decide (f ≤ room) = true := decide_eq_true hle
          have INV := Lib.hid (show (i = 0 ∨ F i ≤ room) ∧ ∀ j, j < i + 1 → F j ≤ room → j ≤ i from ⟨Or.inr (by rw [HFV.out]; exact hle), fun j hj _ => by omega⟩)
          clear hle hinv
          go_wp2_with (go_at_call 44; refine (kp _).mono ?_; rintro e w' ⟨rfl, rfl⟩)
          refine (kf _ IWr.out).mono ?_
          rintro e w2 ⟨rfl, hb⟩
          have HB2 := Lib.hid (hB.trans (hb.mono hB.size))
          clear hb kf
          go_wp2_with (go_at_call 36; refine (k3 _).mono ?_; rintro e w' ⟨rfl, rfl⟩)
          exact ⟨⟨i + 1, i, by omega, by omega, by go_num, rfl, INV, HB2.out⟩, by simp [intOf]; omega⟩
        · have d1 : decide (f ≤ room) = false := decide_eq_false hle
          have INV := Lib.hid (show (b = 0 ∨ F b ≤ room) ∧ ∀ j, j < i + 1 → F j ≤ room → j ≤ b from ⟨hinv.out.1, fun j hj hf => by
            rcases Nat.lt_succ_iff_lt_or_eq.1 hj with h | rfl
            · exact hinv.out.2 j h hf
            · exact absurd (by rw [← HFV.out]; exact hf) hle⟩)
          clear hle hinv
          go_wp2_with (go_at_call 44; refine (kp _).mono ?_; rintro e w' ⟨rfl, rfl⟩)
          refine (kf _ IWr.out).mono ?_
          rintro e w2 ⟨rfl, hb⟩
          have HB2 := Lib.hid (hB.trans (hb.mono hB.size))
          clear hb kf
          go_wp2_with (go_at_call 36; refine (k3 _).mono ?_; rintro e w' ⟨rfl, rfl⟩)
          exact ⟨⟨i + 1, b, by omega, by omega, by go_num, rfl, INV, HB2.out⟩, by simp [intOf]; omega⟩
      · obtain rfl : i = 33 := by omega
        have HE := Lib.hid (HON.out b hb32 hinv.out.1 hinv.out.2)
        clear hinv
        go_wp2_with fail
        go_ret
        exact ⟨by rw [HE.out]; rfl, hB⟩
  · rw [if_neg hmay]
    rw [decide_eq_false hmay] at k1
    clear iW hmay hi hn
    go_enter Tryd.func24, Tryd.ntmps24
    go_wp2_with fail
    refine (k1 _ IW.out).mono ?_
    rintro e w1 ⟨rfl, hb⟩
    have HB1 := Lib.hid hb
    clear hb k1
    go_wp2_with fail
    go_loopw [8, 9] (fun sv iv W => iv = .int .u64 0 ∧ sv = .int .u64 0 ∧ Below w.heap.size w W) (fun _ iv _ => 0)
    case atStart => exact ⟨rfl, rfl, HB1.out⟩
    case round =>
      obtain ⟨rfl, rfl, hB⟩ := hrel
      go_wp2_with fail
      go_ret
      exact ⟨rfl, hB⟩
theorem ref21_Score {a : Option Addr} {n cap : Nat} {l : List Sn} {limit most : Int} (hn : l.length = n) (hi : InW l) (l0 : 0 ≤ limit) (l1 : limit < 18446744073709551616) (m0 : 0 ≤ most) (m1 : most < 18446744073709551616) (w : World) (iW : IsW w a l) :
    Calls Tryd.prog 26 #[.slice a n cap, .int .u64 limit, .int .u64 most] w fun e w' => e = .returned (.int .u64 (scoreW l limit most)) ∧ Below w.heap.size w w' := by
  have k1 := fun w iW => ref21_Check (a := a) (cap := cap) hn w iW
  have kt := fun w iW => ref21_Time (a := a) (cap := cap) hn hi l0 l1 m0 m1 w iW
  have kp := fun n hn w => ref21_power (n := n) hn w
  have IW := Lib.hid iW
  by_cases hmay : mayW l
  · simp only [if_pos hmay] at kt
    rw [decide_eq_true hmay] at k1
    have hv : scoreW l limit most = sumW (scoreF l limit (2 ^ timeW l limit most)) n := by unfold scoreW; rw [if_pos hmay, ← hn]
    rw [hv]
    have htl := timeW_le l limit most
    have hp := powT_bd (i := timeW l limit most) (by omega)
    have kp := fun w => kp (timeW l limit most) htl w
    generalize timeW l limit most = tw at *
    generalize (2 : Int) ^ tw = t at *
    have t0 : 0 ≤ t := by omega
    have t1 := hp.2
    have hF : ∀ i, i < n → 0 ≤ scoreF l limit t i ∧ scoreF l limit t i < 18446744073709551616 := fun i h =>
      mulS_bd _ _ (ofS_bd _ (hi i (by rw [hn]; exact h)).2.2).1 (partO_bd (oddsW_bd l0 (hi i (by omega)).1.2 (hi i (by omega)).2.2).1 t0).1
    have hsb : ∀ i, i ≤ n → 0 ≤ sumW (scoreF l limit t) i ∧ sumW (scoreF l limit t) i < 18446744073709551616 := by
      intro i
      induction i with
      | zero => intro _; exact ⟨Int.le_refl _, by show (0 : Int) < _; omega⟩
      | succ i ih => intro h; exact addS_bd _ _ (ih (by omega)).1 (hF i (by omega)).1
    have HF := Lib.hid hF
    have HSB := Lib.hid hsb
    have HMAY := Lib.hid hmay
    have HI := Lib.hid hi
    have HN := Lib.hid hn
    clear hF hsb hmay hi iW hn hv
    go_enter Tryd.func26, Tryd.ntmps26
    go_wp2_with fail
    refine (k1 _ IW.out).mono ?_
    rintro e w1 ⟨rfl, hb⟩
    have HB1 := Lib.hid hb
    clear hb k1
    go_wp2_with fail
    refine (kt _ (IW.out.below HB1.out)).mono ?_
    rintro e w2 ⟨rfl, hb⟩
    have HB2 := Lib.hid (HB1.out.trans (hb.mono HB1.out.size))
    clear hb kt
    go_wp2_with (go_at_call 44; refine (kp _).mono ?_; rintro e w' ⟨rfl, rfl⟩)
    go_loopw [9, 10] (fun sv iv W => ∃ i : Nat, i ≤ n ∧ iv = .int .i64 i ∧ sv = .int .u64 (sumW (scoreF l limit t) i) ∧ Below w.heap.size w W) (fun _ iv _ => n - (intOf iv).toNat)
    case atStart => exact ⟨0, Nat.zero_le _, rfl, rfl, HB2.out⟩
    case round =>
      obtain ⟨i, hi, rfl, rfl, hB⟩ := hrel
      by_cases hlt : i < n
      · obtain ⟨ab, ao, rfl, h63, q0, q1, q2⟩ := (IW.out.below hB).row (i := i) (by rw [HN.out]; exact hlt)
        rw [HN.out] at h63
        have hw := HI.out i (by rw [HN.out]; exact hlt)
        have hz1 : 1 ≤ (wAt l i).n := (HMAY.out.2 i (by rw [HN.out]; exact hlt)).1.2.2.1
        have hob := oddsW_bd (s := wAt l i) (limit := limit) l0 hw.1.2 hw.2.2
        have hpb := partO_bd hob.1 t0
        have k2 := fun w => ref21_Part (s := wAt l i) (limit := limit) (t := t) hw.1 hw.2 l0 l1 t0 t1 w
        have k3 := fun w => ref_Mul (wAt l i).n (partO (oddsW (wAt l i) limit) t) (by omega) hpb.1 w
        have eF : mulS (wAt l i).n (partO (oddsW (wAt l i) limit) t) = scoreF l limit t i := by unfold scoreF; rw [ofS_pos hz1]
        rw [eF] at k3
        have HS := Lib.hid (show addS (sumW (scoreF l limit t) i) (scoreF l limit t i) = sumW (scoreF l limit t) (i + 1) from rfl)
        have hb1 := HF.out i hlt
        have hb2 := HSB.out i hi
        have k4 := fun w => ref_Add (sumW (scoreF l limit t) i) (scoreF l limit t i) hb2.1 hb1.1 hb1.2 w
        clear eF hob
        generalize sumW (scoreF l limit t) i = s at *
        generalize scoreF l limit t i = v at *
        generalize partO (oddsW (wAt l i) limit) t = p at *
        generalize addS s v = sv at *
        have hz2 := hw.2.2
        clear hw
        generalize (wAt l i).size = z at *
        generalize (wAt l i).key = ky at *
        generalize (wAt l i).n = m at *
        have p0 := Under.cell q0
        have p1 := Under.cell q1
        have p2 := Under.cell q2
        clear q0 q1 q2
        go_wp2_with fail
        (refine region_under (by kernel_rfl) (by kernel_rfl) ?_; (repeat (first | go_big_quiet_step ((first | (go_at_call 18; with_reducible exact quietU (k2 _)) | (go_at_call 36; with_reducible exact stayU (k3 _)) | (go_at_call 41; with_reducible exact stayU (k4 _)))) | quiet_step ((first | (go_at_call 18; with_reducible exact quietU (k2 _)) | (go_at_call 36; with_reducible exact stayU (k3 _)) | (go_at_call 41; with_reducible exact stayU (k4 _)))))); refine wpQuiet_nil ?_; intro _ hw'; obtain ⟨x, hw''⟩ := hw'; subst hw''; go_wp2_with fail)
        exact ⟨⟨i + 1, by omega, by go_num, by rw [← HS.out], hB.trans (x.2.mono hB.size)⟩, by simp [intOf]; omega⟩
      · obtain rfl : n = i := by omega
        go_wp2_with fail
        go_ret
        exact ⟨rfl, hB⟩
  · simp only [if_neg hmay] at kt
    have hv : scoreW l limit most = 0 := by unfold scoreW; rw [if_neg hmay]
    rw [hv]
    have kp := fun w => kp 0 (by decide) w
    rw [decide_eq_false hmay] at k1
    clear iW hmay hi hn hv
    go_enter Tryd.func26, Tryd.ntmps26
    go_wp2_with fail
    refine (k1 _ IW.out).mono ?_
    rintro e w1 ⟨rfl, hb⟩
    have HB1 := Lib.hid hb
    clear hb k1
    go_wp2_with fail
    refine (kt _ (IW.out.below HB1.out)).mono ?_
    rintro e w2 ⟨rfl, hb⟩
    have HB2 := Lib.hid (HB1.out.trans (hb.mono HB1.out.size))
    clear hb kt
    go_wp2_with (go_at_call 44; refine (kp _).mono ?_; rintro e w' ⟨rfl, rfl⟩)
    by_cases h0 : 0 < n
    · have d0 : decide (0 < n) = true := decide_eq_true h0
      go_wp2_with fail
      go_loopw [9, 10] (fun sv iv W => iv = .int .i64 0 ∧ sv = .int .u64 0 ∧ Below w.heap.size w W) (fun _ iv _ => 0)
      case atStart => exact ⟨rfl, rfl, HB2.out⟩
      case round =>
        obtain ⟨rfl, rfl, hB⟩ := hrel
        go_wp2_with fail
        go_ret
        exact ⟨rfl, hB⟩
    · obtain rfl : n = 0 := by omega
      go_wp2_with fail
      go_loopw [9, 10] (fun sv iv W => iv = .int .i64 0 ∧ sv = .int .u64 0 ∧ Below w.heap.size w W) (fun _ iv _ => 0)
      case atStart => exact ⟨rfl, rfl, HB2.out⟩
      case round =>
        obtain ⟨rfl, rfl, hB⟩ := hrel
        go_wp2_with fail
        go_ret
        exact ⟨rfl, hB⟩
end Go.Proofs.YtejipmkbjmcnaaaDoor
