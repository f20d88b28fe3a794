/- The walk of TuneGreatest. -/
import Derived.Test.YtejipmkbjmcnaaaDoorTuneL1
set_option linter.unusedVariables false
set_option maxRecDepth 100000
set_option maxHeartbeats 4000000
namespace Go.Proofs.YtejipmkbjmcnaaaDoor
open Go.RowKit Go.Shelf
attribute [local go_sem ↓] lt_alloc

/-- What the best one of the first i is. -/
structure BestS (G : Nat → Int) (S : Int → Int) (i : Nat) (r : Int × Int × Bool) : Prop where
  none : r.2.2 = false → r.1 = 0 ∧ ∀ j, j < i → G j < 1
  some : r.2.2 = true → 1 ≤ r.1 ∧ r.2.1 = S r.1 ∧ (∃ j, j < i ∧ G j = r.1) ∧ ∀ j, j < i → 1 ≤ G j → S (G j) ≤ r.2.1 ∧ (S (G j) = r.2.1 → r.1 ≤ G j)
theorem bestG_spec (G : Nat → Int) (S : Int → Int) : ∀ i, BestS G S i (bestG G S i)
  | 0 => ⟨fun _ => ⟨rfl, fun j hj => absurd hj (Nat.not_lt_zero j)⟩, fun h => by cases h⟩
  | i + 1 => by
    have ih := bestG_spec G S i
    rw [bestG_succ]
    generalize bestG G S i = r at *
    obtain ⟨best, high, ok⟩ := r
    obtain ⟨hno, hso⟩ := ih
    dsimp only at hno hso
    unfold bestStep
    have step : ∀ j, j < i + 1 → j < i ∨ j = i := fun j hj => by omega
    by_cases h1 : G i < 1
    · rw [if_pos h1]
      refine ⟨fun h => ⟨(hno h).1, fun j hj => ?_⟩, fun h => ?_⟩
      · rcases step j hj with h2 | rfl
        · exact (hno h).2 j h2
        · exact h1
      · obtain ⟨a, b, ⟨j0, c, d⟩, e⟩ := hso h
        refine ⟨a, b, ⟨j0, by omega, d⟩, fun j hj hg => ?_⟩
        rcases step j hj with h2 | rfl
        · exact e j h2 hg
        · omega
    · rw [if_neg h1]
      dsimp only
      by_cases hc : ok = false ∨ high < S (G i) ∨ (S (G i) = high ∧ G i < best)
      · rw [if_pos hc]
        refine ⟨(fun h => by cases h), fun _ => ⟨(by dsimp only; omega), rfl, ⟨i, by omega, rfl⟩, fun j hj hg => ?_⟩⟩
        dsimp only
        rcases step j hj with h2 | rfl
        · cases ok with
          | false => have := (hno rfl).2 j h2; omega
          | true =>
            obtain ⟨a, b, _, e⟩ := hso rfl
            obtain ⟨e1, e2⟩ := e j h2 hg
            rcases hc with hc | hc | hc
            · cases hc
            · exact ⟨by omega, fun h => by omega⟩
            · exact ⟨by omega, fun h => by have := e2 (by omega); omega⟩
        · exact ⟨Int.le_refl _, fun _ => Int.le_refl _⟩
      · rw [if_neg hc]
        refine ⟨fun h => absurd (Or.inl h) hc, fun h => ?_⟩
        obtain ⟨a, b, ⟨j0, c, d⟩, e⟩ := hso h
        refine ⟨a, b, ⟨j0, by omega, d⟩, fun j hj hg => ?_⟩
        rcases step j hj with h2 | rfl
        · exact e j h2 hg
        · refine ⟨?_, fun h3 => ?_⟩
          · apply Int.not_lt.1; exact fun h3 => hc (Or.inr (Or.inl h3))
          · apply Int.not_lt.1; exact fun h4 => hc (Or.inr (Or.inr ⟨h3, h4⟩))
/-- Is one of the first i it? -/
def foundB (G : Nat → Int) (best : Int) : Nat → Bool
  | 0 => false
  | i + 1 => foundB G best i || (G i == best)
theorem foundB_of {G : Nat → Int} {best : Int} : ∀ {n j : Nat}, j < n → G j = best → foundB G best n = true
  | 0, j, h, _ => absurd h (Nat.not_lt_zero j)
  | n + 1, j, h, e => by
    show (foundB G best n || (G n == best)) = true
    rcases Nat.lt_or_ge j n with h1 | h1
    · rw [foundB_of h1 e]; rfl
    · rw [show n = j by omega, e]; simp
theorem greatest_walk {a ga : Option Addr} {n cap gn gc : Nat} {l : List Sn} {most : Int} {G : Nat → Int} (hn : l.length = n) (hi : InW l) (hm : 0 ≤ most ∧ most < 18446744073709551616) (hG : InK .i64 G) (w : World) (hP : PW w) (iW : IsW w a l) (iG : IsK .i64 w ga gn G) :
    Calls Tryd.prog 8 #[.slice a n cap, .int .u64 most, .slice ga gn gc] w fun e w' => e = .returned (.bool true) ∧ Below w.heap.size w w' := by
  have kw := fun w iW => ref21_Few (a := a) (cap := cap) (most := 10) hn w iW
  have kc := fun w iW => tune_Check (a := a) (cap := cap) hn w iW
  have HP := Lib.hid hP
  have IW := Lib.hid iW
  have IG := Lib.hid iG
  clear hP iW iG
  by_cases hf : FewP l 10
  · rw [decide_eq_true hf] at kw
    have KW := Lib.hid kw
    clear kw hf
    by_cases h5 : gn ≤ 5
    · have d5 : decide ((5 : Int) < gn) = false := decide_eq_false (by omega)
      by_cases hmay : mayW l
      · rw [decide_eq_true hmay] at kc
        have KC := Lib.hid kc
        have kb := fun w hP iW iG => tune_Best (a := a) (ga := ga) (cap := cap) (gn := gn) (gc := gc) (most := most) (G := G) hn hi hm.1 hm.2 hG w hP iW iG
        have eb : bestR l most G gn = bestG G (fun limit => scoreW l limit most) gn := by unfold bestR; rw [if_pos hmay]
        rw [eb] at kb
        have ks := fun limit l0 l1 w hP iW => tune_Score (a := a) (cap := cap) (limit := limit) (most := most) hn hi l0 l1 hm.1 hm.2 w hP iW
        have hspec := bestG_spec G (fun limit => scoreW l limit most) gn
        have hbd := bestG_bd (G := G) (S := fun limit => scoreW l limit most) (n := gn) (fun i _ => hG.i64 i) (fun i _ h => scoreW_bd hi (by omega)) gn (Nat.le_refl _)
        have hsb := fun limit (h : 0 ≤ limit) => scoreW_bd (limit := limit) (most := most) hi h
        have HG := Lib.hid hG
        have KB := Lib.hid kb
        have KS := Lib.hid ks
        have HSP := Lib.hid hspec
        have HSB := Lib.hid hsb
        clear kc kb ks hspec hsb hG hi hn hmay eb
        generalize bestG G (fun limit => scoreW l limit most) gn = r at *
        obtain ⟨best, high, ok⟩ := r
        dsimp only at hbd
        obtain ⟨hno, hso⟩ := HSP.out
        dsimp only at hno hso
        have HNO := Lib.hid hno
        have HSO := Lib.hid hso
        clear hno hso HSP
        go_enter Tryd.func8, Tryd.ntmps8
        go_wp2_with fail
        refine (law21_awake w HP.out).mono ?_
        rintro e w1 ⟨rfl, hb⟩
        have B1 := Lib.hid hb
        clear hb
        go_wp2_with fail
        refine (KW.out _ (IW.out.below B1.out)).mono ?_
        rintro e w2 ⟨rfl, hb⟩
        have B2 := Lib.hid (B1.out.trans (hb.mono B1.out.size))
        clear hb B1
        go_wp2_with fail
        refine (KC.out _ (IW.out.below B2.out)).mono ?_
        rintro e w3 ⟨rfl, hb⟩
        have B3 := Lib.hid (B2.out.trans (hb.mono B2.out.size))
        clear hb B2
        go_wp2_with fail
        refine (KB.out _ (HP.out.below B3.out) (IW.out.below B3.out) (IG.out.below B3.out)).mono ?_
        rintro e w4 ⟨rfl, hb⟩
        have B4 := Lib.hid (B3.out.trans (hb.mono B3.out.size))
        clear hb B3 KB
        dsimp only
        cases ok with
        | false =>
          obtain ⟨rfl, hall⟩ := HNO.out rfl
          have HALL := Lib.hid hall
          have kk := KS.out 0 (by decide) (by decide) w4 (HP.out.below B4.out) (IW.out.below B4.out)
          generalize scoreW l 0 most = s0 at *
          clear hall
          go_wp2_with fail
          refine kk.mono ?_
          rintro e w5 ⟨rfl, hb⟩
          have B5 := Lib.hid (B4.out.trans (hb.mono B4.out.size))
          clear hb kk B4
          go_wp2_with fail
          go_loopw [10, 12] (fun fv iv W => ∃ i : Nat, i ≤ gn ∧ iv = .int .i64 i ∧ fv = .bool false ∧ Below w.heap.size w W) (fun _ iv _ => gn - (intOf iv).toNat)
          case atStart => exact ⟨0, Nat.zero_le _, rfl, rfl, B5.out⟩
          case round =>
            obtain ⟨i, hi, rfl, rfl, hB⟩ := hrel
            by_cases hlt : i < gn
            · obtain ⟨gb, go, rfl, _, q0⟩ := (IG.out.below hB).row hlt
              have hg := HALL.out i hlt
              generalize G i = g at *
              have d1 : decide (g < 1) = true := decide_eq_true hg
              clear hg
              go_wp2_with fail
              exact ⟨⟨i + 1, by omega, by go_num, rfl, hB⟩, by simp [intOf]; omega⟩
            · obtain rfl : gn = i := by omega
              go_wp2_with fail
              go_ret
              exact ⟨rfl, hB⟩
        | true =>
          obtain ⟨h1, h2, ⟨j0, h3, h4⟩, h5'⟩ := HSO.out rfl
          have hmx : max best 0 = best := by omega
          have kk := KS.out best (by omega) (by omega) w4 (HP.out.below B4.out) (IW.out.below B4.out)
          rw [← h2] at kk
          have HALL := Lib.hid h5'
          have HF := Lib.hid (foundB_of h3 h4)
          clear h2 h3 h4 h5' HNO HSO
          have B4' := B4.out
          go_wp2_with fail
          first
            | refine kk.mono ?_
            | (rw [hmx]; refine kk.mono ?_)
          rintro e w5 ⟨rfl, hb⟩
          have B5 := Lib.hid (B4.out.trans (hb.mono B4.out.size))
          clear hb kk B4 B4'
          go_wp2_with fail
          go_loopw [10, 12] (fun fv iv W => ∃ i : Nat, i ≤ gn ∧ iv = .int .i64 i ∧ fv = .bool (foundB G best i) ∧ Below w.heap.size w W) (fun _ iv _ => gn - (intOf iv).toNat)
          case atStart => exact ⟨0, Nat.zero_le _, rfl, rfl, B5.out⟩
          case round =>
            obtain ⟨i, hi, rfl, rfl, hB⟩ := hrel
            by_cases hlt : i < gn
            · obtain ⟨gb, go, rfl, _, q0⟩ := (IG.out.below hB).row hlt
              have hgb := HG.out.i64 i
              have hall := HALL.out i hlt
              have hfs : foundB G best (i + 1) = (foundB G best i || (G i == best)) := rfl
              have HFS := Lib.hid hfs
              have kg := fun h => KS.out (G i) (by omega) (by omega) wr (HP.out.below hB) (IW.out.below hB)
              have hsg := fun h => HSB.out (G i) h
              clear hfs
              generalize hgg : G i = g at *
              clear hgg
              generalize scoreW l g most = s at *
              by_cases hg : g < 1
              · have d1 : decide (g < 1) = true := decide_eq_true hg
                have hne : (g == best) = false := by simp; omega
                have HE := Lib.hid (show foundB G best (i + 1) = foundB G best i by rw [HFS.out, hne, Bool.or_false])
                clear hg kg hall hsg hne
                go_wp2_with fail
                exact ⟨⟨i + 1, by omega, by go_num, by rw [HE.out], hB⟩, by simp [intOf]; omega⟩
              · have d1 : decide (g < 1) = false := decide_eq_false hg
                have hg1 : 1 ≤ g := by omega
                have k2 := kg (show 0 ≤ g by omega)
                obtain ⟨f1, f2⟩ := hall hg1
                have hs := hsg (show 0 ≤ g by omega)
                have d2 : decide (high < s) = false := decide_eq_false (by omega)
                clear kg hall hsg hg
                have hsx : (∃ v : Bool, (s == high) = v ∧ (v = true → decide (g < best) = false)) := ⟨_, rfl, fun h => decide_eq_false (by have := f2 (by simpa using h); omega)⟩
                obtain ⟨v, hv1, hv2⟩ := hsx
                obtain ⟨e1, he1⟩ : ∃ e1, (g == best) = e1 := ⟨_, rfl⟩
                obtain ⟨fi, hfi⟩ : ∃ fi, foundB G best i = fi := ⟨_, rfl⟩
                have HE := Lib.hid (show foundB G best (i + 1) = (fi || e1) by rw [HFS.out, he1, hfi])
                have HSH := Lib.hid hv1
                rw [hfi]
                clear f2 HFS hfi
                cases v with
                | true =>
                  have d4 := hv2 rfl
                  clear hv2
                  cases fi <;> cases e1
                  all_goals
                    go_wp2_with fail
                    refine k2.mono ?_
                    rintro e w6 ⟨rfl, hb⟩
                    have B6 := Lib.hid (hB.trans (hb.mono hB.size))
                    have q1 := keepB hb q0
                    clear hb
                    go_wp2_with fail
                    exact ⟨⟨i + 1, by omega, by go_num, by rw [HE.out]; rfl, B6.out⟩, by simp [intOf]; omega⟩
                | false =>
                  clear hv2
                  cases fi <;> cases e1
                  all_goals
                    go_wp2_with fail
                    refine k2.mono ?_
                    rintro e w6 ⟨rfl, hb⟩
                    have B6 := Lib.hid (hB.trans (hb.mono hB.size))
                    have q1 := keepB hb q0
                    clear hb
                    go_wp2_with fail
                    exact ⟨⟨i + 1, by omega, by go_num, by rw [HE.out]; rfl, B6.out⟩, by simp [intOf]; omega⟩
            · obtain rfl : gn = i := by omega
              rw [HF.out]
              go_wp2_with fail
              go_ret
              exact ⟨rfl, hB⟩
      · rw [decide_eq_false hmay] at kc
        have KC := Lib.hid kc
        clear kc hmay hi hn
        go_enter Tryd.func8, Tryd.ntmps8
        go_wp2_with fail
        refine (law21_awake w HP.out).mono ?_
        rintro e w1 ⟨rfl, hb⟩
        have B1 := Lib.hid hb
        clear hb
        go_wp2_with fail
        refine (KW.out _ (IW.out.below B1.out)).mono ?_
        rintro e w2 ⟨rfl, hb⟩
        have B2 := Lib.hid (B1.out.trans (hb.mono B1.out.size))
        clear hb B1
        go_wp2_with fail
        refine (KC.out _ (IW.out.below B2.out)).mono ?_
        rintro e w3 ⟨rfl, hb⟩
        have B3 := Lib.hid (B2.out.trans (hb.mono B2.out.size))
        clear hb B2
        go_wp2_with fail
        go_ret
        exact ⟨rfl, B3.out⟩
    · have d5 : decide ((5 : Int) < gn) = true := decide_eq_true (by omega)
      clear kc hi hn
      go_enter Tryd.func8, Tryd.ntmps8
      go_wp2_with fail
      refine (law21_awake w HP.out).mono ?_
      rintro e w1 ⟨rfl, hb⟩
      have B1 := Lib.hid hb
      clear hb
      go_wp2_with fail
      refine (KW.out _ (IW.out.below B1.out)).mono ?_
      rintro e w2 ⟨rfl, hb⟩
      have B2 := Lib.hid (B1.out.trans (hb.mono B1.out.size))
      clear hb B1
      go_wp2_with fail
      go_ret
      exact ⟨rfl, B2.out⟩
  · rw [decide_eq_false hf] at kw
    have KW := Lib.hid kw
    clear kw kc hf hi hn
    go_enter Tryd.func8, Tryd.ntmps8
    go_wp2_with fail
    refine (law21_awake w HP.out).mono ?_
    rintro e w1 ⟨rfl, hb⟩
    have B1 := Lib.hid hb
    clear hb
    go_wp2_with fail
    refine (KW.out _ (IW.out.below B1.out)).mono ?_
    rintro e w2 ⟨rfl, hb⟩
    have B2 := Lib.hid (B1.out.trans (hb.mono B1.out.size))
    clear hb B1
    go_wp2_with fail
    go_ret
    exact ⟨rfl, B2.out⟩
end Go.Proofs.YtejipmkbjmcnaaaDoor
