/- The walks of the document's Victim and Age. -/
import Derived.Test.YtmehejdgdjaipaaLhdV
import Derived.Test.YtmehejdgdjaipaaRatioR
set_option linter.unusedVariables false
set_option maxRecDepth 100000
set_option maxHeartbeats 2000000
namespace Go.Proofs.Ytmehejdgdjaipaa
open Go.RowKit Go.Shelf
attribute [local go_sem ↓] lt_alloc

/-- The best one so far: -1, if none is. -/
def bestI (S : Nat → Int) (p : Nat × Bool) : Int := if p.2 then S p.1 else -1
theorem vD_ok {Z S : Nat → Int} {la lz p : Nat} (h : 0 < vD Z S la lz p) : okV Z S la lz p := by
  unfold vD at h
  split at h
  · assumption
  · omega
theorem rCmp_lt {a b c d : Int} (hb : 0 < b) (hd : 0 < d) : rCmp a b c d < 0 ↔ a * d < c * b := by
  rw [rCmp_pos hb hd]
  generalize a * d = x
  generalize c * b = y
  unfold cmpS; repeat' split <;> omega
theorem ref19_Victim (R A Z S : Nat → Int) (hR : IsR R) (hZ : InK .u64 Z) (hS : InK .i64 S) {a0 a1 a2 : Option Addr} {la ca lz cz ls cs : Nat} (hl : ls ≤ 100) (w : World)
    (iA : IsK .i64 w a0 la A) (iZ : IsK .u64 w a1 lz Z) (iS : IsK .i64 w a2 ls S) :
    Calls Try.prog 12 #[rankV R, .slice a0 la ca, .slice a1 lz cz, .slice a2 ls cs] w fun e w' =>
      e = .returned (.tuple #[.int .i64 (vict S (lst (vN R A Z S la lz) (vD Z S la lz) ls)), .bool (lst (vN R A Z S la lz) (vD Z S la lz) ls).2]) ∧ Below w.heap.size w w' := by
  have HN := Lib.hid (vN_bd hR A Z S la lz)
  have HD := Lib.hid (vD_bd hZ S la lz)
  have HS := Lib.hid hS
  have HZ := Lib.hid hZ
  have IA := Lib.hid iA
  have IZ := Lib.hid iZ
  have IS := Lib.hid iS
  have hsz : (rankC R).size = 16 := rowC_size R 16
  have kd := fun a w => ref19_Density R a hR w
  have HVD := Lib.hid (fun p (h : 0 < vD Z S la lz p) => vD_ok h)
  clear hR hS iA iZ iS
  generalize hN : vN R A Z S la lz = N at *
  generalize hD : vD Z S la lz = D at *
  obtain ⟨p, f, hp⟩ : ∃ p f, lst N D ls = (p, f) := ⟨_, _, rfl⟩
  rw [hp]
  have HP := Lib.hid hp
  clear hp
  have HNe := Lib.hid hN
  have HDe := Lib.hid hD
  clear hN hD hZ
  unfold rankV at *
  generalize rankC R = C at *
  go_enter Try.func12, Try.ntmps12
  go_wp2_with fail
  refine forget (fun W => W.heap[w.heap.size]? = some (.cells C 25 (0, 0)) ∧ Below w.heap.size w W ∧ w.heap.size + 1 = W.heap.size) ?_ ?_
  · exact ⟨heap_alloc_new w _, (Below.refl _ _).alloc (Nat.le_refl _) _, by simp⟩
  rintro W ⟨hg1, hB, hW⟩
  have HG1 := Lib.hid hg1
  clear hg1
  go_loopw [10, 11] (fun bv iv wr => ∃ (k p : Nat) (f : Bool), k ≤ ls ∧ iv = .int .i64 k ∧ Hid (lst N D k = (p, f)) ∧ bv = .int .i64 (bestI S (p, f)) ∧ Below W.heap.size W wr) (fun _ iv _ => ls - (intOf iv).toNat)
  case atStart => exact ⟨0, 0, false, Nat.zero_le _, rfl, Lib.hid rfl, rfl, Below.refl _ _⟩
  case round =>
    obtain ⟨k, p', f', hk, rfl, HL, rfl, hBW⟩ := hrel
    have hB' : Below w.heap.size w wr := hB.trans (hBW.mono hB.size)
    have hS1 := hBW.size
    by_cases hlt : k < ls
    · obtain ⟨b2, o2, e2, hl2, hrow2⟩ : ∃ b off, a2 = some ⟨b, off, none⟩ ∧ ls ≤ 9223372036854775807 ∧ RowK .i64 w b off ls S := by
        rcases IS.out with h | h
        · omega
        · exact h
      subst e2
      have q1 := hrow2.below hB' k hlt
      obtain ⟨s0, s1⟩ := HS.out.i64 k
      clear hrow2
      have skip : ¬ okV Z S la lz k → Hid (lst N D (k + 1) = (p', f')) := fun hno => by
        have d0 : D k = 0 := by rw [← HDe.out]; unfold vD; rw [if_neg hno]
        exact Lib.hid (lst_skip HL.out d0)
      by_cases h1 : S k < 0
      · have G4 := skip (by unfold okV; omega)
        clear skip
        generalize hn : S k = n at *
        clear hn
        go_wp2_with fail
        exact ⟨⟨k + 1, p', f', by omega, by go_num, G4, rfl, hBW⟩, by simp [intOf]; omega⟩
      · obtain ⟨m, hm⟩ : ∃ m : Nat, S k = m := ⟨(S k).toNat, by omega⟩
        have hmt : (S k).toNat = m := by omega
        rw [hm] at q1 s0 s1
        by_cases h2 : la ≤ m
        · have G4 := skip (by unfold okV; omega)
          have h2' : ¬ (m : Int) < la := by omega
          clear skip h1 hm hmt
          go_wp2_with fail
          exact ⟨⟨k + 1, p', f', by omega, by go_num, G4, rfl, hBW⟩, by simp [intOf]; omega⟩
        · by_cases h3 : lz ≤ m
          · have G4 := skip (by unfold okV; omega)
            have h2' : (m : Int) < la := by omega
            have h3' : ¬ (m : Int) < lz := by omega
            clear skip h1 hm hmt
            go_wp2_with fail
            exact ⟨⟨k + 1, p', f', by omega, by go_num, G4, rfl, hBW⟩, by simp [intOf]; omega⟩
          · obtain ⟨b1, o1, e1, hl1, hrow1⟩ : ∃ b off, a1 = some ⟨b, off, none⟩ ∧ lz ≤ 9223372036854775807 ∧ RowK .u64 w b off lz Z := by
              rcases IZ.out with h | h
              · omega
              · exact h
            obtain ⟨b0, o0, e0, hl0, hrow0⟩ : ∃ b off, a0 = some ⟨b, off, none⟩ ∧ la ≤ 9223372036854775807 ∧ RowK .i64 w b off la A := by
              rcases IA.out with h | h
              · omega
              · exact h
            subst e1 e0
            have q2 := hrow1.below hB' m (by omega)
            have q3 := hrow0.below hB' m (by omega)
            obtain ⟨z0, z1⟩ := HZ.out.u64 m
            have h2' : (m : Int) < la := by omega
            have h3' : (m : Int) < lz := by omega
            by_cases h4 : Z m = 0
            · have G4 := skip (by unfold okV; rw [hmt]; omega)
              rw [h4] at q2
              clear skip h1 hm hmt hrow1 hrow0
              go_wp2_with fail
              exact ⟨⟨k + 1, p', f', by omega, by go_num, G4, rfl, hBW⟩, by simp [intOf]; omega⟩
            · have hok : okV Z S la lz k := ⟨by omega, by omega, by omega, by rw [hmt]; exact h4⟩
              have en : N k = densV R (A m) := by rw [← HNe.out]; unfold vN; rw [if_pos hok, hmt]
              have ed : D k = Z m := by rw [← HDe.out]; unfold vD; rw [if_pos hok, hmt]
              have hn4 : (Z m == 0) = false := by simpa using h4
              have dk0 : ¬ D k = 0 := by rw [ed]; exact h4
              cases f'
              · have G4 := Lib.hid (lst_first HL.out dk0)
                have hbi : bestI S (p', false) = -1 := rfl
                have hbk : bestI S (k, true) = m := hm
                have HBK := Lib.hid hbk
                rw [hbi]
                clear skip h1 hm hmt hrow1 hrow0 hbi hbk hok en ed dk0 kd s0 s1
                generalize Z m = zm at *
                go_wp2_with fail
                exact ⟨⟨k + 1, k, true, by omega, by go_num, G4, by rw [HBK.out], hBW⟩, by simp [intOf]; omega⟩
              · obtain ⟨hpk, dp0⟩ := lst_found (fun i => (HD.out i).1) HL.out
                have okp := HVD.out p' dp0
                obtain ⟨mp, hmp⟩ : ∃ mp : Nat, S p' = mp := ⟨(S p').toNat, by have := okp.1; omega⟩
                have hmpt : (S p').toNat = mp := by omega
                have en' : N p' = densV R (A mp) := by rw [← HNe.out]; unfold vN; rw [if_pos okp, hmpt]
                have ed' : D p' = Z mp := by rw [← HDe.out]; unfold vD; rw [if_pos okp, hmpt]
                have mp1 : mp < la := by have := okp.2.1; omega
                have mp2 : mp < lz := by have := okp.2.2.1; omega
                have q4 := hrow1.below hB' mp mp2
                have q5 := hrow0.below hB' mp mp1
                have hbi : bestI S (p', true) = mp := hmp
                have hbk : bestI S (k, true) = m := hm
                have HBI := Lib.hid hbi
                have HBK := Lib.hid hbk
                rw [hbi]
                have kd1 := fun w => kd (A m) w
                have kd2 := fun w => kd (A mp) w
                rw [← en] at kd1
                rw [← en'] at kd2
                rw [← ed] at q2 hn4
                rw [← ed'] at q4
                obtain ⟨n0, n1⟩ := HN.out k
                obtain ⟨d0, d1⟩ := HD.out k
                obtain ⟨n0', n1'⟩ := HN.out p'
                obtain ⟨d0', d1'⟩ := HD.out p'
                have kc := fun w => ref3_Cmp (N k) (D k) (N p') (D p') n0 n1 d0 d1 n0' n1' d0' d1' w
                have hless := rCmp_lt (a := N k) (b := D k) (c := N p') (d := D p') (by omega) dp0
                have HLK := Lib.hid (fun h => lst_keep HL.out dk0 h)
                have HLL := Lib.hid (fun h => lst_less HL.out dk0 h)
                rw [← hless] at HLK HLL
                have l1 : ∀ w', (∃ x : Under wr, w' = x.w) → (loadVar 25 ⟨w.heap.size, 0, none⟩).run Try.prog w' = .ok (.agg C) w' := by
                  rintro _ ⟨x, rfl⟩
                  exact run_loadVar_row _ _ _ _ C _ _ ((x.2.block _ (by omega)).trans ((hBW.block _ (by omega)).trans HG1.out)) (Option.some_get rank_some).symm (by kernel_rfl) (by rw [rank_size, hsz])
                have p2 := Under.cell q2
                have p3 := Under.cell q3
                have p4 := Under.cell q4
                have p5 := Under.cell q5
                have mp1' : (mp : Int) < la := by omega
                have mp2' : (mp : Int) < lz := by omega
                have hmp0 : ¬ (mp : Int) < 0 := by omega
                clear skip h1 hm hmt hrow1 hrow0 hbi hbk hok en ed dk0 h4 kd okp hmp hmpt en' ed' hless s0 s1
                generalize rCmp (N k) (D k) (N p') (D p') = c at *
                generalize rErr (D k) (D p') = ce at *
                generalize N k = nk at *
                generalize D k = dk at *
                generalize N p' = np at *
                generalize D p' = dp at *
                by_cases hc : c < 0
                · have G4 := Lib.hid (HLL.out hc)
                  go_wp2_with fail
                  (refine region_under (by kernel_rfl) (by kernel_rfl) ?_; (repeat (first | (refine quiet_load_row rfl _ _ rfl w.heap.size 0 rfl C l1 _ rfl ?_; simp only [Act.put, List.setIfInBounds_toArray, List.set_cons_succ, List.set_cons_zero]) | go_big_quiet_step ((first | (go_at_call 22; first | (with_reducible exact quietU (kd1 _)) | (with_reducible exact quietU (kd2 _))) | (go_at_call 23; (with_reducible exact quietU (kc _))))) | quiet_step ((first | (go_at_call 22; first | (with_reducible exact quietU (kd1 _)) | (with_reducible exact quietU (kd2 _))) | (go_at_call 23; (with_reducible exact quietU (kc _))))))); refine wpQuiet_nil ?_; intro _ hw'; obtain ⟨x, hw''⟩ := hw'; subst hw''; go_wp2_with fail)
                  exact ⟨⟨k + 1, k, true, by omega, by go_num, G4, by rw [HBK.out], hBW.trans (x.2.mono hBW.size)⟩, by simp [intOf]; omega⟩
                · have G4 := Lib.hid (HLK.out hc)
                  go_wp2_with fail
                  (refine region_under (by kernel_rfl) (by kernel_rfl) ?_; (repeat (first | (refine quiet_load_row rfl _ _ rfl w.heap.size 0 rfl C l1 _ rfl ?_; simp only [Act.put, List.setIfInBounds_toArray, List.set_cons_succ, List.set_cons_zero]) | go_big_quiet_step ((first | (go_at_call 22; first | (with_reducible exact quietU (kd1 _)) | (with_reducible exact quietU (kd2 _))) | (go_at_call 23; (with_reducible exact quietU (kc _))))) | quiet_step ((first | (go_at_call 22; first | (with_reducible exact quietU (kd1 _)) | (with_reducible exact quietU (kd2 _))) | (go_at_call 23; (with_reducible exact quietU (kc _))))))); refine wpQuiet_nil ?_; intro _ hw'; obtain ⟨x, hw''⟩ := hw'; subst hw''; go_wp2_with fail)
                  exact ⟨⟨k + 1, p', true, by omega, by go_num, G4, by rw [HBI.out], hBW.trans (x.2.mono hBW.size)⟩, by simp [intOf]; omega⟩
    · obtain rfl : k = ls := by omega
      have epf : (p', f') = (p, f) := by rw [← HL.out, HP.out]
      obtain ⟨rfl, rfl⟩ : p' = p ∧ f' = f := by simpa using epf
      have hpf := lst_found (N := N) (D := D) (k := k) (p := p') (fun i => (HD.out i).1)
      clear epf
      cases f'
      · have hbi : bestI S (p', false) = -1 := rfl
        rw [hbi]
        clear hbi
        go_wp2_with fail
        go_ret2
        exact ⟨rfl, hB'⟩
      · obtain ⟨_, dp0⟩ := hpf HL.out
        have okp := HVD.out p' dp0
        have hbi : bestI S (p', true) = S p' := rfl
        have hvi : vict S (p', true) = S p' := rfl
        have HVI := Lib.hid hvi
        rw [hbi]
        obtain ⟨mp, hmp⟩ : ∃ mp : Nat, S p' = mp := ⟨(S p').toNat, by have := okp.1; omega⟩
        rw [hmp] at HVI
        rw [hmp]
        have hm0 : ¬ (mp : Int) < 0 := by omega
        clear hbi hvi hpf okp hmp
        go_wp2_with fail
        go_ret2
        exact ⟨by rw [HVI.out]; first | rfl | (congr 2; simp) | simp, hB'⟩
end Go.Proofs.Ytmehejdgdjaipaa
