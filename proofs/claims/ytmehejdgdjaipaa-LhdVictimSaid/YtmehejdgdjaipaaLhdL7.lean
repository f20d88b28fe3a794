/- The walk of LhdVictim. -/
import Derived.Test.YtmehejdgdjaipaaLhdL1
set_option linter.unusedVariables false
set_option maxRecDepth 100000
set_option maxHeartbeats 2000000
namespace Go.Proofs.Ytmehejdgdjaipaa
open Go.RowKit Go.Shelf
attribute [local go_sem ↓] lt_alloc

theorem victim_facts {N D : Nat → Int} (hD : ∀ i, 0 ≤ D i) {n p k : Nat} (h : lst N D n = (p, true)) (hk : k < n) (hd : ¬ D k = 0) :
    rErr (D k) (D p) = 0 ∧ 0 ≤ rCmp (N k) (D k) (N p) (D p) ∧ (rCmp (N k) (D k) (N p) (D p) = 0 → p ≤ k) := by
  obtain ⟨a, b, c, d⟩ := (lst_spec N D hD n).2 (by rw [h])
  rw [h] at a b c d
  dsimp only at a b c d
  have hk0 : 0 < D k := by have := hD k; omega
  have h1 := c k hk hk0
  rw [rErr_pos hk0 b, rCmp_pos hk0 b]
  refine ⟨rfl, ?_, ?_⟩
  · unfold cmpS; repeat' split <;> omega
  · intro h2
    refine Nat.le_of_not_lt fun hlt => ?_
    have h3 := d k hlt hk0
    unfold cmpS at h2
    repeat' split at h2
    all_goals omega
set_option maxHeartbeats 4000000 in
theorem victim19_walk (R A Z S : Nat → Int) (hR : IsR R) (hA : InK .i64 A) (hZ : InK .u64 Z) (hS : InK .i64 S) {a0 a1 a2 : Option Addr} {la ca lz cz ls cs : Nat} (w : World)
    (iA : IsK .i64 w a0 la A) (iZ : IsK .u64 w a1 lz Z) (iS : IsK .i64 w a2 ls S) :
    Calls Try.prog 7 #[rankV R, .slice a0 la ca, .slice a1 lz cz, .slice a2 ls cs] w fun r w' => r = .returned (.bool true) ∧ Below w.heap.size w w' := by
  have IA := Lib.hid iA
  have IZ := Lib.hid iZ
  have IS := Lib.hid iS
  have hs : (rankC R).size = 16 := rowC_size R 16
  by_cases hl : la ≤ 100 ∧ lz ≤ 100 ∧ ls ≤ 100
  · obtain ⟨hl0, hl1, hl2⟩ := hl
    have kv := fun w x y z => lhd_Victim_row R A Z S hR hZ hS (a0 := a0) (a1 := a1) (a2 := a2) (la := la) (ca := ca) (lz := lz) (cz := cz) (ls := ls) (cs := cs) hl2 w x y z
    have HN := Lib.hid (vN_bd hR A Z S la lz)
    have HD := Lib.hid (vD_bd hZ S la lz)
    have HS := Lib.hid hS
    have HZ := Lib.hid hZ
    have kd := fun a w => lhd_Density R a hR w
    have HVD := Lib.hid (fun p (h : 0 < vD Z S la lz p) => vD_ok h)
    generalize hN : vN R A Z S la lz = N at *
    generalize hD : vD Z S la lz = D at *
    obtain ⟨p, f, hp⟩ : ∃ p f, lst N D ls = (p, f) := ⟨_, _, rfl⟩
    rw [hp] at kv
    have HP := Lib.hid hp
    have HNe := Lib.hid hN
    have HDe := Lib.hid hD
    have hl0' : ¬ (100 : Int) < la := by omega
    have hl1' : ¬ (100 : Int) < lz := by omega
    have hl2' : ¬ (100 : Int) < ls := by omega
    clear iA iZ iS hp hN hD hR hS hZ hA
    unfold rankV at *
    generalize rankC R = c at *
    obtain ⟨v, hv⟩ : ∃ v, vict S (p, f) = v := ⟨_, rfl⟩
    rw [hv] at kv
    have HV := Lib.hid hv
    clear hv
    go_enter Try.func7, Try.ntmps7
    go_wp2_with fail
    refine (awake19_any _).mono ?_
    rintro e w1 ⟨rfl, hb1⟩
    have hB1 : Below w.heap.size w w1 := ((Below.refl _ _).alloc (Nat.le_refl _) _).trans (hb1.mono (by simp))
    have G1 : w1.heap[w.heap.size]? = some (.cells c 25 (0, 0)) := (hb1.block _ (by simp)).trans (heap_alloc_new w _)
    have hS1 : w.heap.size < w1.heap.size := by have := hb1.size; simp at this; omega
    clear hb1
    go_wp2_with (refine wpList_load_row rfl _ _ rfl w.heap.size rfl 25 c (0, 0) ((Try.prog.underlying 25).get rank_some) G1 (Option.some_get _).symm (by kernel_rfl) (by rw [rank_size, hs]) ?_)
    refine (kv _ (IA.out.below hB1) (IZ.out.below hB1) (IS.out.below hB1)).mono ?_
    rintro e w2 ⟨rfl, hb2⟩
    have hB2 := hB1.trans (hb2.mono hB1.size)
    have G2 := (hb2.block _ hS1).trans G1
    have hS2 : w.heap.size < w2.heap.size := Nat.lt_of_lt_of_le hS1 hb2.size
    clear hb2 hB1 G1 hS1
    clear kv
    go_wp2_with fail
    go_loopw [12, 13] (fun fv iv wr => ∃ (k : Nat) (g : Bool), k ≤ ls ∧ iv = .int .i64 k ∧ fv = .bool g ∧ Hid (g = true → f = true) ∧ Hid (f = true → p < k → g = true) ∧ Below w2.heap.size w2 wr) (fun _ iv _ => ls - (intOf iv).toNat)
    case atStart => exact ⟨0, false, Nat.zero_le _, rfl, rfl, Lib.hid (fun h => by cases h), Lib.hid (fun _ h => absurd h (Nat.not_lt_zero _)), Below.refl _ _⟩
    case round =>
      obtain ⟨k, g, hk, rfl, rfl, F1, F2, hBW⟩ := hrel
      have hSW := hBW.size
      have hB' := hB2.trans (hBW.mono hB2.size)
      by_cases hlt : k < ls
      · obtain ⟨b2, o2, e2, hl2, hrow2⟩ : ∃ b off, a2 = some ⟨b, off, none⟩ ∧ ls ≤ 9223372036854775807 ∧ RowK .i64 w b off ls S := by
          rcases IS.out with h | h
          · omega
          · exact h
        subst e2
        have q1 := hrow2.below hB' k hlt
        obtain ⟨s0, s1⟩ := HS.out.i64 k
        clear hrow2
        have skip : ¬ okV Z S la lz k → Hid (f = true → p < k + 1 → g = true) := fun hno => Lib.hid fun hf hpk => by
          have d0 : D k = 0 := by rw [← HDe.out]; unfold vD; rw [if_neg hno]
          have hfd := lst_found (fun i => (HD.out i).1) (show lst N D ls = (p, true) by rw [HP.out, hf])
          refine F2.out hf ?_
          rcases Nat.lt_succ_iff_lt_or_eq.1 hpk with h | rfl
          · exact h
          · omega
        by_cases h1 : S k < 0
        · have G4 := skip (by unfold okV; omega)
          clear skip
          generalize hn : S k = n at *
          clear hn
          go_wp2_with fail
          exact ⟨⟨k + 1, g, by omega, by go_num, rfl, F1, G4, hBW⟩, by simp [intOf]; omega⟩
        · obtain ⟨m, hm⟩ : ∃ m : Nat, S k = m := ⟨(S k).toNat, by omega⟩
          have hmt : (S k).toNat = m := by omega
          rw [hm] at q1 s0 s1
          by_cases h2 : la ≤ m
          · have G4 := skip (by unfold okV; omega)
            have h2' : ¬ (m : Int) < la := by omega
            clear skip h1 hm hmt
            go_wp2_with fail
            exact ⟨⟨k + 1, g, by omega, by go_num, rfl, F1, G4, hBW⟩, by simp [intOf]; omega⟩
          · by_cases h3 : lz ≤ m
            · have G4 := skip (by unfold okV; omega)
              have h2' : (m : Int) < la := by omega
              have h3' : ¬ (m : Int) < lz := by omega
              clear skip h1 hm hmt
              go_wp2_with fail
              exact ⟨⟨k + 1, g, by omega, by go_num, rfl, F1, G4, hBW⟩, by simp [intOf]; omega⟩
            · obtain ⟨b1, o1, e1, hl1, hrow1⟩ : ∃ b off, a1 = some ⟨b, off, none⟩ ∧ lz ≤ 9223372036854775807 ∧ RowK .u64 w b off lz Z := by
                rcases IZ.out with h | h
                · omega
                · exact h
              obtain ⟨b0, o0, e0, hl0, hrow0⟩ : ∃ b off, a0 = some ⟨b, off, none⟩ ∧ la ≤ 9223372036854775807 ∧ RowK .i64 w b off la A := by
                rcases IA.out with h | h
                · omega
                · exact h
              subst e1 e0
              have q2 := hrow1.below hB' m (by omega)
              have q3 := hrow0.below hB' m (by omega)
              obtain ⟨z0, z1⟩ := HZ.out.u64 m
              have h2' : (m : Int) < la := by omega
              have h3' : (m : Int) < lz := by omega
              by_cases h4 : Z m = 0
              · have G4 := skip (by unfold okV; rw [hmt]; omega)
                rw [h4] at q2
                clear skip h1 hm hmt hrow1 hrow0
                go_wp2_with fail
                exact ⟨⟨k + 1, g, by omega, by go_num, rfl, F1, G4, hBW⟩, by simp [intOf]; omega⟩
              · have hok : okV Z S la lz k := ⟨by omega, by omega, by omega, by rw [hmt]; exact h4⟩
                have en : N k = densV R (A m) := by rw [← HNe.out]; unfold vN; rw [if_pos hok, hmt]
                have ed : D k = Z m := by rw [← HDe.out]; unfold vD; rw [if_pos hok, hmt]
                have hn4 : (Z m == 0) = false := by simpa using h4
                have dk0 : ¬ D k = 0 := by rw [ed]; exact h4
                have dkp : 0 < D k := by have := (HD.out k).1; omega
                have hf : f = true := by
                  cases hf : f
                  · have := ((lst_spec N D (fun i => (HD.out i).1) ls).1 (by rw [HP.out, hf])).2 k hlt; omega
                  · rfl
                subst hf
                obtain ⟨hpl, dp0⟩ := lst_found (fun i => (HD.out i).1) HP.out
                have okp := HVD.out p dp0
                obtain ⟨mp, hmp⟩ : ∃ mp : Nat, S p = mp := ⟨(S p).toNat, by have := okp.1; omega⟩
                have hmpt : (S p).toNat = mp := by omega
                obtain rfl : (mp : Int) = v := by rw [← HV.out, ← hmp]; rfl
                have en' : N p = densV R (A mp) := by rw [← HNe.out]; unfold vN; rw [if_pos okp, hmpt]
                have ed' : D p = Z mp := by rw [← HDe.out]; unfold vD; rw [if_pos okp, hmpt]
                have mp1 : mp < la := by have := okp.2.1; omega
                have mp2 : mp < lz := by have := okp.2.2.1; omega
                have q4 := hrow1.below hB' mp mp2
                have q5 := hrow0.below hB' mp mp1
                have kd1 := fun w => kd (A m) w
                have kd2 := fun w => kd (A mp) w
                rw [← en] at kd1
                rw [← en'] at kd2
                rw [← ed] at q2 hn4
                rw [← ed'] at q4
                obtain ⟨n0, n1⟩ := HN.out k
                obtain ⟨d0, d1⟩ := HD.out k
                obtain ⟨n0', n1'⟩ := HN.out p
                obtain ⟨d0', d1'⟩ := HD.out p
                have kc := fun w => ref3_Cmp (N k) (D k) (N p) (D p) n0 n1 d0 d1 n0' n1' d0' d1' w
                obtain ⟨v1, v2, v3⟩ := victim_facts (fun i => (HD.out i).1) HP.out hlt dk0
                have l1 : ∀ w', (∃ x : Under wr, w' = x.w) → (loadVar 25 ⟨w.heap.size, 0, none⟩).run Try.prog w' = .ok (.agg c) w' := by
                  rintro _ ⟨x, rfl⟩
                  exact run_loadVar_row _ _ _ _ c _ _ ((x.2.block _ (by omega)).trans ((hBW.block _ (by omega)).trans G2)) (Option.some_get rank_some).symm (by kernel_rfl) (by rw [rank_size, hs])
                have p2 := Under.cell q2
                have p3 := Under.cell q3
                have p4 := Under.cell q4
                have p5 := Under.cell q5
                have mp1' : (mp : Int) < la := by omega
                have mp2' : (mp : Int) < lz := by omega
                have hmp0 : ¬ (mp : Int) < 0 := by omega
                rw [v1] at kc
                clear skip h1 hrow1 hrow0 hok en ed h4 kd okp hmpt en' ed' s0 s1 v1
                generalize rCmp (N k) (D k) (N p) (D p) = cc at *
                have hgg : ∃ g' : Bool, ((m : Int) == mp) = g' ∧ Hid ((g || g') = true → (true = true)) ∧ Hid (true = true → p < k + 1 → (g || g') = true) ∧ (cc = 0 → (g || g') = true) := by
                  refine ⟨_, rfl, Lib.hid (fun _ => rfl), Lib.hid (fun _ hpk => ?_), fun h0 => ?_⟩
                  · rcases Nat.lt_succ_iff_lt_or_eq.1 hpk with h | rfl
                    · rw [F2.out rfl h]; rfl
                    · have : m = mp := by omega
                      subst this; simp
                  · have hpk := v3 h0
                    rcases Nat.lt_or_ge p k with h | h
                    · rw [F2.out rfl h]; rfl
                    · have : p = k := by omega
                      subst this
                      have : m = mp := by omega
                      subst this; simp
                obtain ⟨g', hg', J1, J2, J3⟩ := hgg
                have HJ3 := Lib.hid J3
                clear J3 v3 hm hmp hmt dk0 dkp F1 F2
                generalize N k = nk at *
                generalize D k = dk at *
                generalize N p = np at *
                generalize D p = dp at *
                cases g'
                · rw [Bool.or_false] at J1 J2 HJ3
                  by_cases hcc : cc = 0
                  · obtain rfl : g = true := HJ3.out hcc
                    subst hcc
                    clear HJ3
                    go_wp2_with fail
                    (refine region_under (by kernel_rfl) (by kernel_rfl) ?_; (repeat (first | (refine quiet_load_row (by kernel_rfl) _ _ (by rfl) w.heap.size 0 (by rfl) c l1 _ rfl ?_; simp only [Act.put, List.setIfInBounds_toArray, List.set_cons_succ, List.set_cons_zero]) | go_big_quiet_step ((first | (go_at_call 21; first | (with_reducible exact quietU (kd1 _)) | (with_reducible exact quietU (kd2 _))) | (go_at_call 23; (with_reducible exact quietU (kc _))))) | quiet_step ((first | (go_at_call 21; first | (with_reducible exact quietU (kd1 _)) | (with_reducible exact quietU (kd2 _))) | (go_at_call 23; (with_reducible exact quietU (kc _))))))); refine wpQuiet_nil ?_; intro _ hw'; obtain ⟨x, hw''⟩ := hw'; subst hw''; go_wp2_with fail)
                    exact ⟨⟨k + 1, true, by omega, by go_num, rfl, Lib.hid (by intros; first | trivial | rfl), Lib.hid (by intros; first | trivial | rfl | exact J2.out trivial (by assumption) | exact J2.out rfl (by assumption)), hBW.trans (x.2.mono hBW.size)⟩, by simp [intOf]; omega⟩
                  · have hcc' : (cc == 0) = false := by simpa using hcc
                    clear hcc
                    clear HJ3
                    go_wp2_with fail
                    (refine region_under (by kernel_rfl) (by kernel_rfl) ?_; (repeat (first | (refine quiet_load_row (by kernel_rfl) _ _ (by rfl) w.heap.size 0 (by rfl) c l1 _ rfl ?_; simp only [Act.put, List.setIfInBounds_toArray, List.set_cons_succ, List.set_cons_zero]) | go_big_quiet_step ((first | (go_at_call 21; first | (with_reducible exact quietU (kd1 _)) | (with_reducible exact quietU (kd2 _))) | (go_at_call 23; (with_reducible exact quietU (kc _))))) | quiet_step ((first | (go_at_call 21; first | (with_reducible exact quietU (kd1 _)) | (with_reducible exact quietU (kd2 _))) | (go_at_call 23; (with_reducible exact quietU (kc _))))))); refine wpQuiet_nil ?_; intro _ hw'; obtain ⟨x, hw''⟩ := hw'; subst hw''; go_wp2_with fail)
                    exact ⟨⟨k + 1, g, by omega, by go_num, rfl, Lib.hid (by intros; first | trivial | rfl), Lib.hid (by intros; first | trivial | rfl | exact J2.out trivial (by assumption) | exact J2.out rfl (by assumption)), hBW.trans (x.2.mono hBW.size)⟩, by simp [intOf]; omega⟩
                · rw [Bool.or_true] at J1 J2 HJ3
                  by_cases hcc : cc = 0
                  · subst hcc
                    clear HJ3
                    go_wp2_with fail
                    (refine region_under (by kernel_rfl) (by kernel_rfl) ?_; (repeat (first | (refine quiet_load_row (by kernel_rfl) _ _ (by rfl) w.heap.size 0 (by rfl) c l1 _ rfl ?_; simp only [Act.put, List.setIfInBounds_toArray, List.set_cons_succ, List.set_cons_zero]) | go_big_quiet_step ((first | (go_at_call 21; first | (with_reducible exact quietU (kd1 _)) | (with_reducible exact quietU (kd2 _))) | (go_at_call 23; (with_reducible exact quietU (kc _))))) | quiet_step ((first | (go_at_call 21; first | (with_reducible exact quietU (kd1 _)) | (with_reducible exact quietU (kd2 _))) | (go_at_call 23; (with_reducible exact quietU (kc _))))))); refine wpQuiet_nil ?_; intro _ hw'; obtain ⟨x, hw''⟩ := hw'; subst hw''; go_wp2_with fail)
                    exact ⟨⟨k + 1, true, by omega, by go_num, rfl, Lib.hid (by intros; first | trivial | rfl), Lib.hid (by intros; first | trivial | rfl | exact J2.out trivial (by assumption) | exact J2.out rfl (by assumption)), hBW.trans (x.2.mono hBW.size)⟩, by simp [intOf]; omega⟩
                  · have hcc' : (cc == 0) = false := by simpa using hcc
                    clear hcc
                    clear HJ3
                    go_wp2_with fail
                    (refine region_under (by kernel_rfl) (by kernel_rfl) ?_; (repeat (first | (refine quiet_load_row (by kernel_rfl) _ _ (by rfl) w.heap.size 0 (by rfl) c l1 _ rfl ?_; simp only [Act.put, List.setIfInBounds_toArray, List.set_cons_succ, List.set_cons_zero]) | go_big_quiet_step ((first | (go_at_call 21; first | (with_reducible exact quietU (kd1 _)) | (with_reducible exact quietU (kd2 _))) | (go_at_call 23; (with_reducible exact quietU (kc _))))) | quiet_step ((first | (go_at_call 21; first | (with_reducible exact quietU (kd1 _)) | (with_reducible exact quietU (kd2 _))) | (go_at_call 23; (with_reducible exact quietU (kc _))))))); refine wpQuiet_nil ?_; intro _ hw'; obtain ⟨x, hw''⟩ := hw'; subst hw''; go_wp2_with fail)
                    exact ⟨⟨k + 1, true, by omega, by go_num, rfl, Lib.hid (by intros; first | trivial | rfl), Lib.hid (by intros; first | trivial | rfl | exact J2.out trivial (by assumption) | exact J2.out rfl (by assumption)), hBW.trans (x.2.mono hBW.size)⟩, by simp [intOf]; omega⟩
      · obtain rfl : k = ls := by omega
        cases f
        · obtain rfl : g = false := by
            cases g
            · rfl
            · exact absurd (F1.out rfl) (by decide)
          obtain rfl : 0 = v := HV.out
          go_wp2_with fail
          go_ret
          exact ⟨rfl, hB'⟩
        · obtain ⟨hpk, _⟩ := lst_found (fun i => (HD.out i).1) HP.out
          obtain rfl : g = true := F2.out rfl hpk
          go_wp2_with fail
          go_ret
          exact ⟨rfl, hB'⟩
  · unfold rankV
    generalize rankC R = c at *
    by_cases h0 : 100 < la
    · have h0' : (100 : Int) < la := by omega
      clear hl
      go_enter Try.func7, Try.ntmps7
      go_wp2_with fail
      refine (awake19_any _).mono ?_
      rintro e w1 ⟨rfl, hb1⟩
      have hB1 : Below w.heap.size w w1 := ((Below.refl _ _).alloc (Nat.le_refl _) _).trans (hb1.mono (by simp))
      have G1 : w1.heap[w.heap.size]? = some (.cells c 25 (0, 0)) := (hb1.block _ (by simp)).trans (heap_alloc_new w _)
      have hS1 : w.heap.size < w1.heap.size := by have := hb1.size; simp at this; omega
      clear hb1
      go_wp2_with fail
      go_ret
      exact ⟨rfl, hB1⟩
    · by_cases h1 : 100 < lz
      · have h0' : ¬ (100 : Int) < la := by omega
        have h1' : (100 : Int) < lz := by omega
        clear hl
        go_enter Try.func7, Try.ntmps7
        go_wp2_with fail
        refine (awake19_any _).mono ?_
        rintro e w1 ⟨rfl, hb1⟩
        have hB1 : Below w.heap.size w w1 := ((Below.refl _ _).alloc (Nat.le_refl _) _).trans (hb1.mono (by simp))
        have G1 : w1.heap[w.heap.size]? = some (.cells c 25 (0, 0)) := (hb1.block _ (by simp)).trans (heap_alloc_new w _)
        have hS1 : w.heap.size < w1.heap.size := by have := hb1.size; simp at this; omega
        clear hb1
        go_wp2_with fail
        go_ret
        exact ⟨rfl, hB1⟩
      · have h0' : ¬ (100 : Int) < la := by omega
        have h1' : ¬ (100 : Int) < lz := by omega
        have h2' : (100 : Int) < ls := by omega
        clear hl
        go_enter Try.func7, Try.ntmps7
        go_wp2_with fail
        refine (awake19_any _).mono ?_
        rintro e w1 ⟨rfl, hb1⟩
        have hB1 : Below w.heap.size w w1 := ((Below.refl _ _).alloc (Nat.le_refl _) _).trans (hb1.mono (by simp))
        have G1 : w1.heap[w.heap.size]? = some (.cells c 25 (0, 0)) := (hb1.block _ (by simp)).trans (heap_alloc_new w _)
        have hS1 : w.heap.size < w1.heap.size := by have := hb1.size; simp at this; omega
        clear hb1
        go_wp2_with fail
        go_ret
        exact ⟨rfl, hB1⟩
end Go.Proofs.Ytmehejdgdjaipaa
