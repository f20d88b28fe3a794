/- The walk of the reference's Best. -/
import Derived.Test.YtejipmkbjmcnaaaDoorTuneRF
import Derived.Test.YtejipmkbjmcnaaaDoorTuneL3
set_option linter.unusedVariables false
set_option maxRecDepth 100000
set_option maxHeartbeats 2000000
namespace Go.Proofs.YtejipmkbjmcnaaaDoor
open Go.RowKit Go.Shelf
attribute [local go_sem ↓] lt_alloc

def betB (G T : Nat → Int) (i j : Nat) : Prop := G j < 1 ∨ T j < T i ∨ (T i = T j ∧ G i ≤ G j)
def isBest (G T : Nat → Int) (n i : Nat) : Prop := 1 ≤ G i ∧ ∀ j, j < n → betB G T i j
theorem best_at {G : Nat → Int} {S : Int → Int} {n i : Nat} (hi : i < n) (h : isBest G (fun j => S (ofS (G j))) n i) : (bestG G S n).1 = G i ∧ (bestG G S n).2.2 = true := by
  obtain ⟨h1, h2⟩ := h
  obtain ⟨sn, ss⟩ := bestG_spec G S n
  cases hr : (bestG G S n).2.2 with
  | false => have := (sn hr).2 i hi; omega
  | true =>
    obtain ⟨a, b, ⟨j, hj, e⟩, c⟩ := ss hr
    have hij := h2 j hj
    unfold betB at hij
    dsimp only at hij
    rw [ofS_pos h1, ofS_pos (show 1 ≤ G j by omega), e, ← b] at hij
    obtain ⟨c1, c2⟩ := c i hi h1
    refine ⟨?_, rfl⟩
    rcases hij with h | h | ⟨h, h'⟩
    · omega
    · omega
    · have := c2 h; omega
theorem best_none {G : Nat → Int} {S : Int → Int} {n : Nat} (h : ∀ i, i < n → ¬ isBest G (fun j => S (ofS (G j))) n i) : (bestG G S n).1 = 0 ∧ (bestG G S n).2.2 = false := by
  obtain ⟨sn, ss⟩ := bestG_spec G S n
  cases hr : (bestG G S n).2.2 with
  | false => exact ⟨(sn hr).1, rfl⟩
  | true =>
    obtain ⟨a, b, ⟨j, hj, e⟩, c⟩ := ss hr
    refine absurd ⟨by omega, fun k hk => ?_⟩ (h j hj)
    unfold betB
    dsimp only
    by_cases hg : G k < 1
    · exact Or.inl hg
    · obtain ⟨c1, c2⟩ := c k hk (by omega)
      rw [ofS_pos (show 1 ≤ G k by omega), ofS_pos (show 1 ≤ G j by omega), e, ← b]
      right
      rcases Int.lt_or_eq_of_le c1 with h1 | h1
      · exact Or.inl h1
      · exact Or.inr ⟨h1.symm, c2 h1⟩
theorem ref21_Best {a ga : Option Addr} {n cap gn gc : Nat} {l : List Sn} {most : Int} {G : Nat → Int} (hn : l.length = n) (hi : InW l) (m0 : 0 ≤ most) (m1 : most < 18446744073709551616) (hG : InK .i64 G) (hgn : gn ≤ 5) (w : World) (iW : IsW w a l) (iG : IsK .i64 w ga gn G) :
    Calls Tryd.prog 22 #[.slice a n cap, .int .u64 most, .slice ga gn gc] w fun e w' => e = .returned (.tuple #[.int .i64 (bestR l most G gn).1, .bool (bestR l most G gn).2.2]) ∧ Below w.heap.size w w' := by
  obtain ⟨T, hT⟩ : ∃ T : Nat → Int, T = fun j => scoreW l (ofS (G j)) most := ⟨_, rfl⟩
  obtain ⟨R, hR⟩ : ∃ R : Int × Int × Bool, bestR l most G gn = R := ⟨_, rfl⟩
  rw [hR]
  have k1 := fun w iW => ref21_Check (a := a) (cap := cap) hn w iW
  obtain ⟨may, hmay⟩ : ∃ may, decide (mayW l) = may := ⟨_, rfl⟩
  rw [hmay] at k1
  have hyes : may = true → ∀ i, i < gn → isBest G T gn i → R.1 = G i ∧ R.2.2 = true := fun h i hi' hb => by
    rw [← hR]; unfold bestR
    rw [if_pos (of_decide_eq_true (hmay.trans h))]
    rw [hT] at hb
    exact best_at (S := fun limit => scoreW l limit most) hi' hb
  have hno : (may = true → ∀ i, i < gn → ¬ isBest G T gn i) → R.1 = 0 ∧ R.2.2 = false := fun h => by
    rw [← hR]; unfold bestR
    cases may with
    | false => rw [if_neg (of_decide_eq_false hmay)]; exact ⟨rfl, rfl⟩
    | true =>
      rw [if_pos (of_decide_eq_true hmay)]
      have h := h rfl
      rw [hT] at h
      exact best_none (S := fun limit => scoreW l limit most) h
  have ks := fun (i : Nat) w iW => ref21_Score (a := a) (cap := cap) (limit := ofS (G i)) (most := most) hn hi (ofS_bd _ (hG.i64 i).2).1 (ofS_bd _ (hG.i64 i).2).2 m0 m1 w iW
  have hTi : ∀ i, scoreW l (ofS (G i)) most = T i := fun i => by rw [hT]
  simp only [hTi] at ks
  have ko := fun (i : Nat) w => ref_Of (G i) (hG.i64 i).1 (hG.i64 i).2 w
  have IW := Lib.hid iW
  have IG := Lib.hid iG
  have KS := Lib.hid ks
  have KO := Lib.hid ko
  have HG := Lib.hid hG
  have HYES := Lib.hid hyes
  have HNO := Lib.hid hno
  obtain ⟨ti, ti1, ti2, ti3, ti4⟩ := info_parts u64_info
  clear hyes hno ks ko iW iG hn hi hG hR hmay hT hTi
  go_enter Tryd.func22, Tryd.ntmps22
  go_wp2_with fail
  refine (k1 _ IW.out).mono ?_
  rintro e w1 ⟨rfl, hb⟩
  have HB1 := Lib.hid hb
  clear hb k1
  go_wp2_with fail
  go_loopw [9, 10] (fun sv iv W => ∃ i : Nat, i ≤ gn ∧ iv = .int .i64 i ∧ W.ownsRow w.heap.size 23 1 sv i (listK .u64 T i) ∧ Below w.heap.size w W) (fun _ iv _ => gn - (intOf iv).toNat)
  case atStart => exact ⟨0, Nat.zero_le _, rfl, World.ownsRow_nil _ _ _ _, HB1.out⟩
  case round =>
    obtain ⟨i, hi, rfl, hO, hB⟩ := hrel
    have HO := Lib.hid hO
    clear hO
    by_cases hlt : i < gn
    · obtain ⟨gb, go, rfl, _, q0⟩ := (IG.out.below hB).row hlt
      have ko := KO.out i
      have ks := KS.out i
      have hg := HG.out.i64 i
      generalize G i = g at *
      generalize hti : T i = ti0 at *
      have HTI := Lib.hid hti
      clear hti
      generalize ofS g = og at *
      go_wp2_with (go_at_call 42; refine (ko _).mono ?_; rintro e w' ⟨rfl, rfl⟩)
      refine (ks _ (IW.out.below hB)).mono ?_
      rintro e w2 ⟨rfl, hb⟩
      have HB2 := Lib.hid (hB.trans (hb.mono hB.size))
      have HO2 := Lib.hid (own_below HO.out hb)
      clear hb ks
      go_wp2_with (at_builtin; refine wpList_append_one w2 rfl _ _ _ rfl .u64 w.heap.size 23 ti 8 (by kernel_rfl) ti1 ti2 ti3 ti4 u9 i T ti0 rfl rfl HO2.out HTI.out.symm (by omega) (by decide) HB2.out.size ?_; intro v1 W1 g1; have HO3 := Lib.hid g1.own; have HB3 := Lib.hid (HB2.out.trans (g1.below HO2.out HB2.out.size)); clear g1)
      exact ⟨⟨i + 1, by omega, by go_num, HO3.out, HB3.out⟩, by simp [intOf]; omega⟩
    · obtain rfl : gn = i := by omega
      go_wp2_with fail
      obtain ⟨sa, sc, rfl, hsc, hS⟩ := isK_own HO.out
      go_loopw [11] (fun iv W => ∃ i : Nat, i ≤ gn ∧ iv = .int .i64 i ∧ Hid (may = true → ∀ j, j < i → ¬ isBest G T gn j) ∧ IsK .u64 W sa gn T ∧ Below w.heap.size w W) (fun iv _ => gn - (intOf iv).toNat)
      case atStart => exact ⟨0, Nat.zero_le _, rfl, Lib.hid (fun _ j hj => absurd hj (Nat.not_lt_zero j)), hS, hB⟩
      case round =>
        clear hS
        obtain ⟨i, hi, rfl, hnone, hS2, hB3⟩ := hrel
        cases may with
        | false =>
          obtain ⟨r1, r2⟩ := HNO.out (fun h => by cases h)
          have R1 := Lib.hid r1
          have R2 := Lib.hid r2
          clear r1 r2 hnone
          by_cases hlt : i < gn
          all_goals
            go_wp2_with fail
            go_ret2
            exact ⟨by rw [R1.out, R2.out]; rfl, hB3⟩
        | true =>
          by_cases hlt : i < gn
          · obtain ⟨gb, go, rfl, _, q0⟩ := (IG.out.below hB3).row hlt
            have hgi0 := HG.out.i64 i
            obtain ⟨b0, e0⟩ : ∃ b, decide (1 ≤ G i) = b := ⟨_, rfl⟩
            have START := Lib.hid (show (b0 = true → 1 ≤ G i ∧ ∀ j, j < 0 → betB G T i j) ∧ (b0 = false → ¬ isBest G T gn i) from
              ⟨fun h => ⟨of_decide_eq_true (e0.trans h), fun j hj => absurd hj (Nat.not_lt_zero j)⟩, fun h hb => of_decide_eq_false (e0.trans h) hb.1⟩)
            have HS2 := Lib.hid hS2
            clear hS2
            go_wp2_with fail
            go_loopw [12, 13] (fun bv kv W => ∃ (k : Nat) (b : Bool), k ≤ gn ∧ kv = .int .i64 k ∧ bv = .bool b ∧ Hid ((b = true → 1 ≤ G i ∧ ∀ j, j < k → betB G T i j) ∧ (b = false → ¬ isBest G T gn i)) ∧ IsK .u64 W sa gn T ∧ Below w.heap.size w W) (fun _ kv _ => gn - (intOf kv).toNat)
            case atStart => exact ⟨0, b0, Nat.zero_le _, rfl, rfl, START, HS2.out, hB3⟩
            case round =>
              clear START e0 q0 HS2
              obtain ⟨k, b, hk, rfl, rfl, hinv, hS3, hB4⟩ := hrel
              cases b with
              | false =>
                have NB := Lib.hid (hinv.out.2 rfl)
                have HS3 := Lib.hid hS3
                have NXT := Lib.hid (show True → ∀ j, j < i + 1 → ¬ isBest G T gn j from fun _ j hj => by
                  rcases Nat.lt_succ_iff_lt_or_eq.1 hj with h | rfl
                  · exact hnone.out (by trivial) j h
                  · exact NB.out)
                clear hinv hS3
                by_cases hlt2 : k < gn
                all_goals
                  go_wp2_with fail
                  exact ⟨⟨i + 1, by omega, by go_num, NXT, HS3.out, hB4⟩, by simp [intOf]; omega⟩
              | true =>
                by_cases hlt2 : k < gn
                · -- still the best, one more to look at
                  obtain ⟨gb1, go1, hga, _, g1⟩ := (IG.out.below hB4).row hlt2
                  cases hga
                  obtain ⟨gb2, go2, hga2, _, g2⟩ := (IG.out.below hB4).row hlt
                  cases hga2
                  obtain ⟨sb, so, rfl, _, s1⟩ := hS3.row hlt2
                  obtain ⟨sb2, so2, hsa2, _, s2⟩ := hS3.row hlt
                  cases hsa2
                  have BET := Lib.hid (show betB G T i k ↔ (G k < 1 ∨ T k < T i ∨ (T i = T k ∧ G i ≤ G k)) from Iff.rfl)
                  have hgk0 := HG.out.i64 k
                  have hgi0 := HG.out.i64 i
                  generalize hgk : G k = gk at *
                  generalize hgi : G i = gi at *
                  generalize htk : T k = tk at *
                  generalize hti : T i = ti0 at *
                  clear hgk hgi htk hti
                  have p1 := Under.cell g1
                  have p2 := Under.cell g2
                  have p3 := Under.cell s1
                  have p4 := Under.cell s2
                  clear g1 g2 s1 s2
                  have HS3 := Lib.hid hS3
                  clear hS3
                  have NXT := Lib.hid (show betB G T i k → (1 ≤ gi ∧ ∀ j, j < k + 1 → betB G T i j) from fun hb => ⟨(hinv.out.1 rfl).1, fun j hj => by
                    rcases Nat.lt_succ_iff_lt_or_eq.1 hj with h | rfl
                    · exact (hinv.out.1 rfl).2 j h
                    · exact hb⟩)
                  have NOT := Lib.hid (show ¬ betB G T i k → ¬ isBest G T gn i from fun hb h => hb (h.2 k hlt2))
                  clear hinv
                  obtain ⟨c1, e1⟩ : ∃ c, decide (gk < 1) = c := ⟨_, rfl⟩
                  obtain ⟨c2, e2⟩ : ∃ c, decide (tk < ti0) = c := ⟨_, rfl⟩
                  obtain ⟨c3, e3⟩ : ∃ c, (ti0 == tk) = c := ⟨_, rfl⟩
                  obtain ⟨c4, e4⟩ : ∃ c, decide (gi ≤ gk) = c := ⟨_, rfl⟩
                  have YES := Lib.hid (show (c1 || c2 || (c3 && c4)) = true ↔ betB G T i k by
                    rw [BET.out, ← e1, ← e2, ← e3, ← e4]; simp [or_assoc])
                  clear BET
                  cases c1 <;> cases c2 <;> cases c3 <;> cases c4
                  all_goals
                    first
                      | (have HY := Lib.hid (NXT.out (YES.out.1 (by rfl)))
                         go_wp2_with fail
                         (refine region_under (by kernel_rfl) (by kernel_rfl) ?_; (repeat (first | go_big_quiet_step ((fail)) | quiet_step ((fail)))); refine wpQuiet_nil ?_; intro _ hw'; obtain ⟨x, hw''⟩ := hw'; subst hw''; go_wp2_with fail)
                         exact ⟨⟨k + 1, true, by omega, by go_num, rfl, Lib.hid ⟨fun _ => HY.out, fun h => by cases h⟩, HS3.out.below x.2, hB4.trans (x.2.mono hB4.size)⟩, by simp [intOf]; omega⟩)
                      | (have HY := Lib.hid (NOT.out (fun h => by have := YES.out.2 h; cases this))
                         go_wp2_with fail
                         (refine region_under (by kernel_rfl) (by kernel_rfl) ?_; (repeat (first | go_big_quiet_step ((fail)) | quiet_step ((fail)))); refine wpQuiet_nil ?_; intro _ hw'; obtain ⟨x, hw''⟩ := hw'; subst hw''; go_wp2_with fail)
                         exact ⟨⟨k + 1, false, by omega, by go_num, rfl, Lib.hid ⟨fun h => (by cases h), fun _ => HY.out⟩, HS3.out.below x.2, hB4.trans (x.2.mono hB4.size)⟩, by simp [intOf]; omega⟩)
                · obtain rfl : gn = k := by omega
                  obtain ⟨r1, r2⟩ := HYES.out (by trivial) i hlt (hinv.out.1 rfl)
                  obtain ⟨gb2, go2, hga2, _, q1⟩ := (IG.out.below hB4).row hlt
                  cases hga2
                  have R1 := Lib.hid r1
                  have R2 := Lib.hid r2
                  clear r1 r2 hinv hnone
                  go_wp2_with fail
                  go_ret2
                  exact ⟨by rw [R1.out, R2.out]; rfl, hB4⟩
          · obtain rfl : gn = i := by omega
            obtain ⟨r1, r2⟩ := HNO.out (fun _ j hj => hnone.out (by trivial) j hj)
            have R1 := Lib.hid r1
            have R2 := Lib.hid r2
            clear r1 r2 hnone
            go_wp2_with fail
            go_ret2
            exact ⟨by rw [R1.out, R2.out]; rfl, hB3⟩
end Go.Proofs.YtejipmkbjmcnaaaDoor
