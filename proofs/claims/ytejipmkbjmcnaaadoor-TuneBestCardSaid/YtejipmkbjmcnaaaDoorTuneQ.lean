/- The walk of Best. -/
import Derived.Test.YtejipmkbjmcnaaaDoorTuneO
set_option linter.unusedVariables false
set_option maxRecDepth 100000
set_option maxHeartbeats 2000000
namespace Go.Proofs.YtejipmkbjmcnaaaDoor
open Go.RowKit Go.Shelf
attribute [local go_sem ↓] lt_alloc

theorem scoreW_bd {l : List Sn} {limit most : Int} (hi : InW l) (l0 : 0 ≤ limit) : 0 ≤ scoreW l limit most ∧ scoreW l limit most < 18446744073709551616 := by
  unfold scoreW
  split
  · have key : ∀ i, i ≤ l.length → 0 ≤ sumW (scoreF l limit (2 ^ timeW l limit most)) i ∧ sumW (scoreF l limit (2 ^ timeW l limit most)) i < 18446744073709551616 := by
      intro i
      induction i with
      | zero => intro _; exact ⟨Int.le_refl _, by show (0 : Int) < _; omega⟩
      | succ i ih =>
        intro h
        refine addS_bd _ _ (ih (by omega)).1 ?_
        have hob := oddsL_bd (limit := limit) rfl hi l0 i (by omega)
        have hp := powT_bd (i := timeW l limit most) (by have := timeW_le l limit most; omega)
        exact (mulS_bd _ _ (ofS_bd _ (hi i (by omega)).2.2).1 (partO_bd hob.1 (by omega)).1).1
    exact key _ (Nat.le_refl _)
  · omega
/-- One round. -/
def bestStep (r : Int × Int × Bool) (g s : Int) : Int × Int × Bool :=
  if g < 1 then r else if r.2.2 = false ∨ r.2.1 < s ∨ (s = r.2.1 ∧ g < r.1) then (g, s, true) else r
theorem bestG_succ (G : Nat → Int) (S : Int → Int) (i : Nat) : bestG G S (i + 1) = bestStep (bestG G S i) (G i) (S (G i)) := rfl
theorem bestG_bd {G : Nat → Int} {S : Int → Int} {n : Nat} (hG : ∀ i, i < n → -9223372036854775808 ≤ G i ∧ G i < 9223372036854775808) (hS : ∀ i, i < n → 1 ≤ G i → 0 ≤ S (G i) ∧ S (G i) < 18446744073709551616) : ∀ i, i ≤ n →
    (-9223372036854775808 ≤ (bestG G S i).1 ∧ (bestG G S i).1 < 9223372036854775808) ∧ (0 ≤ (bestG G S i).2.1 ∧ (bestG G S i).2.1 < 18446744073709551616)
  | 0, _ => ⟨by show (-9223372036854775808 : Int) ≤ 0 ∧ (0 : Int) < _; omega, by show (0 : Int) ≤ 0 ∧ (0 : Int) < _; omega⟩
  | i + 1, h => by
    have ih := bestG_bd hG hS i (by omega)
    rw [bestG_succ]
    unfold bestStep
    by_cases h1 : G i < 1
    · rw [if_pos h1]; exact ih
    · rw [if_neg h1]
      split
      · exact ⟨hG i (by omega), hS i (by omega) (by omega)⟩
      · exact ih
def bestR (l : List Sn) (most : Int) (G : Nat → Int) (gn : Nat) : Int × Int × Bool := if mayW l then bestG G (fun limit => scoreW l limit most) gn else (0, 0, false)
theorem tune_Best {a ga : Option Addr} {n cap gn gc : Nat} {l : List Sn} {most : Int} {G : Nat → Int} (hn : l.length = n) (hi : InW l) (m0 : 0 ≤ most) (m1 : most < 18446744073709551616) (hG : InK .i64 G) (w : World) (hP : PW w) (iW : IsW w a l) (iG : IsK .i64 w ga gn G) :
    Calls Tryd.prog 21 #[.slice a n cap, .int .u64 most, .slice ga gn gc] w fun e w' => e = .returned (.tuple #[.int .i64 (bestR l most G gn).1, .bool (bestR l most G gn).2.2]) ∧ Below w.heap.size w w' := by
  have k1 := fun w iW => tune_Check (a := a) (cap := cap) hn w iW
  have HP := Lib.hid hP
  have IW := Lib.hid iW
  have IG := Lib.hid iG
  by_cases hmay : mayW l
  · have e : bestR l most G gn = bestG G (fun limit => scoreW l limit most) gn := by unfold bestR; rw [if_pos hmay]
    rw [e]
    rw [decide_eq_true hmay] at k1
    have k2 := fun limit l0 l1 w hP iW => tune_Score (a := a) (cap := cap) (limit := limit) (most := most) hn hi l0 l1 m0 m1 w hP iW
    have hbd := bestG_bd (G := G) (S := fun limit => scoreW l limit most) (n := gn) (fun i _ => hG.i64 i) (fun i _ h => scoreW_bd hi (by omega))
    have hsb := fun limit (h : 1 ≤ limit) => scoreW_bd (limit := limit) (most := most) hi (by omega)
    have hst := bestG_succ G (fun limit => scoreW l limit most)
    have K2 := Lib.hid k2
    have HBD := Lib.hid hbd
    have HSB := Lib.hid hsb
    have HST := Lib.hid hst
    have HG := Lib.hid hG
    clear k2 hbd hsb hst e hP iW iG hi hmay hn hG
    generalize hSS : (fun limit => scoreW l limit most) = S at *
    have HSS := Lib.hid (show ∀ limit, scoreW l limit most = S limit from fun limit => by rw [← hSS])
    clear hSS
    go_enter Tryd.func21, Tryd.ntmps21
    go_wp2_with fail
    refine (k1 _ IW.out).mono ?_
    rintro e w1 ⟨rfl, hb⟩
    have HB1 := Lib.hid hb
    clear hb k1
    go_wp2_with fail
    go_loopw [8, 9, 10, 19] (fun bv hv kv iv W => ∃ i : Nat, i ≤ gn ∧ iv = .int .i64 i ∧ bv = .int .i64 (bestG G S i).1 ∧ hv = .int .u64 (bestG G S i).2.1 ∧ kv = .bool (bestG G S i).2.2 ∧ Below w.heap.size w W) (fun _ _ _ iv _ => gn - (intOf iv).toNat)
    case atStart => exact ⟨0, Nat.zero_le _, rfl, rfl, rfl, rfl, HB1.out⟩
    case round =>
      obtain ⟨i, hi, rfl, rfl, rfl, rfl, hB⟩ := hrel
      by_cases hlt : i < gn
      · obtain ⟨gb, go, rfl, _, q0⟩ := (IG.out.below hB).row hlt
        have hg := HG.out.i64 i
        have hr := HBD.out i hi
        have hstep := HST.out i
        rw [HSS.out (G i)] at hstep
        generalize bestG G S i = r at *
        obtain ⟨best, high, ok⟩ := r
        dsimp only at hr hstep
        have HSTEP := Lib.hid hstep
        clear hstep
        have hss := HSS.out (G i)
        have k2' := fun l0 l1 w hP iW => K2.out (G i) l0 l1 w hP iW
        have hsb' := fun h => HSB.out (G i) h
        rw [hss] at k2'
        have hsb2 : 1 ≤ G i → 0 ≤ S (G i) ∧ S (G i) < 18446744073709551616 := fun h => by
          have := hsb' h
          have e : scoreW l (G i) most = S (G i) := hss
          rw [e] at this
          exact this
        clear hss hsb'
        generalize hgg : G i = g at *
        generalize S g = s at *
        clear hgg
        by_cases h1 : g < 1
        · have HS := Lib.hid (show bestG G S (i + 1) = (best, high, ok) by rw [HSTEP.out]; unfold bestStep; rw [if_pos h1])
          have d1 : decide (g < 1) = true := decide_eq_true h1
          have HB2 := Lib.hid hB
          clear h1 k2' hsb2
          go_wp2_with fail
          exact ⟨⟨i + 1, by omega, by go_num, by rw [HS.out], by rw [HS.out], by rw [HS.out], HB2.out⟩, by simp [intOf]; omega⟩
        · have d1 : decide (g < 1) = false := decide_eq_false h1
          have hg1 : 1 ≤ g := by omega
          have hs := hsb2 hg1
          have k2 := fun w hP iW => k2' (by omega) (by omega) w hP iW
          have kk := k2 wr (HP.out.below hB) (IW.out.below hB)
          have hstep : bestG G S (i + 1) = if ok = false ∨ high < s ∨ (s = high ∧ g < best) then (g, s, true) else (best, high, ok) := by rw [HSTEP.out]; unfold bestStep; rw [if_neg h1]
          have HST2 := Lib.hid hstep
          clear hstep k2' hsb2 k2 h1
          go_wp2_with fail
          refine kk.mono ?_
          rintro e w2 ⟨rfl, hb⟩
          have HB2 := Lib.hid (hB.trans (hb.mono hB.size))
          clear hb kk q0
          cases ok with
          | false =>
            have HS := Lib.hid (show bestG G S (i + 1) = (g, s, true) by rw [HST2.out, if_pos (Or.inl rfl)])
            go_wp2_with fail
            exact ⟨⟨i + 1, by omega, by go_num, by rw [HS.out], by rw [HS.out], by rw [HS.out], HB2.out⟩, by simp [intOf]; omega⟩
          | true =>
            by_cases h2 : high < s
            · have HS := Lib.hid (show bestG G S (i + 1) = (g, s, true) by rw [HST2.out, if_pos (Or.inr (Or.inl h2))])
              have d2 : decide (high < s) = true := decide_eq_true h2
              clear h2
              go_wp2_with fail
              exact ⟨⟨i + 1, by omega, by go_num, by rw [HS.out], by rw [HS.out], by rw [HS.out], HB2.out⟩, by simp [intOf]; omega⟩
            · have d2 : decide (high < s) = false := decide_eq_false h2
              by_cases h3 : s = high
              · have d3 : (s == high) = true := by simpa using h3
                by_cases h4 : g < best
                · have HS := Lib.hid (show bestG G S (i + 1) = (g, s, true) by rw [HST2.out, if_pos (Or.inr (Or.inr ⟨h3, h4⟩))])
                  have d4 : decide (g < best) = true := decide_eq_true h4
                  have HH := Lib.hid h3
                  clear h2 h3 h4
                  go_wp2_with fail
                  exact ⟨⟨i + 1, by omega, by go_num, by rw [HS.out], by rw [HS.out], by rw [HS.out], HB2.out⟩, by simp [intOf]; omega⟩
                · have HS := Lib.hid (show bestG G S (i + 1) = (best, high, true) by rw [HST2.out, if_neg (fun h => by rcases h with h | h | h; cases h; exact h2 h; exact h4 h.2)])
                  have d4 : decide (g < best) = false := decide_eq_false h4
                  have HH := Lib.hid h3
                  clear h2 h3 h4
                  go_wp2_with fail
                  exact ⟨⟨i + 1, by omega, by go_num, by rw [HS.out], by rw [HS.out], by rw [HS.out], HB2.out⟩, by simp [intOf]; omega⟩
              · have HS := Lib.hid (show bestG G S (i + 1) = (best, high, true) by rw [HST2.out, if_neg (fun h => by rcases h with h | h | h; cases h; exact h2 h; exact h3 h.1)])
                have d3 : (s == high) = false := by simpa using h3
                clear h2 h3
                go_wp2_with fail
                exact ⟨⟨i + 1, by omega, by go_num, by rw [HS.out], by rw [HS.out], by rw [HS.out], HB2.out⟩, by simp [intOf]; omega⟩
      · obtain rfl : gn = i := by omega
        go_wp2_with fail
        go_ret2
        exact ⟨rfl, hB⟩
  · have e : bestR l most G gn = (0, 0, false) := by unfold bestR; rw [if_neg hmay]
    rw [e]
    rw [decide_eq_false hmay] at k1
    clear hP iW iG hmay hi hn e
    go_enter Tryd.func21, Tryd.ntmps21
    go_wp2_with fail
    refine (k1 _ IW.out).mono ?_
    rintro e w1 ⟨rfl, hb⟩
    have HB1 := Lib.hid hb
    clear hb k1
    go_wp2_with fail
    go_ret2
    exact ⟨rfl, HB1.out⟩
end Go.Proofs.YtejipmkbjmcnaaaDoor
