/- The walk of the reference's serve, where room is made. -/
import Derived.Test.YtlhjacgocggbcaaGdsRL
set_option linter.unusedVariables false
set_option maxRecDepth 100000
set_option maxHeartbeats 4000000
namespace Go.Proofs.Ytlhjacgocggbcaa
open Go.RowKit Go.Shelf
attribute [local go_sem ↓] lt_alloc

/-- While room is made. -/
structure MkR (w W : World) (Z : Nat → Int) (n : Nat) (most : Int) (i : Nat) (R : Gd × List Nat) (ra : Option Addr) (rc : Nat) (rk : Nat → Int) (ov : Value) (s : Gd) (l L : List Nat) (a : Option Addr) (c : Nat) : Prop where
  sv : SvW w W #[.slice a L.length c, .slice ra n rc, .int .u64 s.lv] #[.slice none 0 0, .slice none 0 0, .int .u64 0] #[.bool false, .slice none 0 0]
  ls : InAt w.heap.size W a L ov
  own : OwnL (w.heap.size + 3) W ov l
  kept : KeptR Z n most L s
  room : RoomR Z n most i R s l
  rk : s.rk = rk
theorem MkR.below {w W W' : World} {Z : Nat → Int} {n : Nat} {most : Int} {i : Nat} {R : Gd × List Nat} {ra : Option Addr} {rc : Nat} {rk : Nat → Int} {ov : Value} {s : Gd} {l L : List Nat} {a : Option Addr} {c : Nat} (h : MkR w W Z n most i R ra rc rk ov s l L a c) (hb : Below W.heap.size W W') : MkR w W' Z n most i R ra rc rk ov s l L a c :=
  ⟨h.sv.below hb, h.ls.below hb, h.own.below hb, h.kept, h.room, h.rk⟩
theorem ref18_serve_room {ia ra sa ca : Option Addr} {m n ic rc cs cc i : Nat} {most : Int} {L : List Nat} {s : Gd} {Z C : Nat → Int} (hL : L.length = m) (hi : i < n) (hn : n ≤ 64) (hZ : InK .i64 Z) (hC : InK .i64 C) (hz : ∀ j, j < n → 1 ≤ Z j ∧ Z j ≤ 4096) (hm : most ≤ 65536) (hK : KeptR Z n most L s) (hin : s.inn i = false) (hfit : ¬ most < Z i)
    (w : World) (iL : IsL w ia L) (iR : IsK .u64 w ra n s.rk) (iZ : IsK .i64 w sa n Z) (iC : IsK .i64 w ca n C) :
    Calls Try.prog 23 #[.agg #[.slice ia m ic, .slice ra n rc, .int .u64 s.lv], .int .i64 most, .slice sa n cs, .slice ca n cc, .int .i64 i] w (ServeEnd w ia L ra Z C n most (comeG Z C (roomG Z n most i n s).1 i, false, (roomG Z n most i n s).2)) := by
  have hmem : i ∉ L := fun hh => by rw [(hK.be.mem i hi).2 hh] at hin; cases hin
  have kh := fun w iL => ref18_has (a := ia) (cap := ic) (k := i) hL w iL
  rw [decide_eq_false hmem] at kh
  have hfit' : decide (most < Z i) = false := decide_eq_false hfit
  have hzi := hz i hi
  have HR0 := Lib.hid (RoomR.start hK.inv hin)
  generalize roomG Z n most i n s = R at *
  have HK := Lib.hid hK
  have HL := Lib.hid hL
  have IL := Lib.hid iL
  have IR := Lib.hid iR
  have IZ := Lib.hid iZ
  have IC := Lib.hid iC
  have HZ := Lib.hid hZ
  have HC := Lib.hid hC
  have HB := Lib.hid hz
  have KH := Lib.hid kh
  have HW0 := Lib.hid (svW_new w #[.slice ia m ic, .slice ra n rc, .int .u64 s.lv] #[.slice none 0 0, .slice none 0 0, .int .u64 0] #[.bool false, .slice none 0 0])
  clear hK iL iR iZ iC kh hL hZ hC hz
  have c0 := HW0.out.cC.1
  generalize hrk : s.rk = rk at *
  have HRK := Lib.hid hrk
  clear hrk
  go_enter Try.func23, Try.ntmps23
  go_wp2_with fail
  refine (KH.out _ (IL.out.below HW0.out.on)).mono ?_
  rintro e w1 ⟨rfl, hb1⟩
  have HW1 := Lib.hid (HW0.out.below hb1)
  clear c0 HW0 hb1
  obtain ⟨sb, so, rfl, h63, hz0⟩ := (IZ.out.below HW1.out.on).row hi
  generalize hZi : Z i = z at *
  go_wp2_with fail
  have hzm : z ≤ most := by omega
  clear hz0 hfit hfit'
  rw [← HL.out] at HW1
  have HM0 := Lib.hid (show MkR w w1 Z n most i R ra rc rk (.slice none 0 0) s [] L ia ic from ⟨HW1.out, inAt_start IL.out HW1.out.on, World.ownsRow_nil _ _ _ _, HK.out, HR0.out, HRK.out⟩)
  go_loopw [13, 14] (fun ov kv W => ∃ (s1 : Gd) (l L1 : List Nat) (a1 : Option Addr) (c1 : Nat), MkR w W Z n most i R ra rc rk ov s1 l L1 a1 c1) (fun ov _ _ => n - lenV ov)
  case atStart => exact ⟨s, [], L, ia, ic, HM0.out⟩
  case round =>
    clear HM0 HW1 HR0 HK HRK IL KH
    obtain ⟨s1, l, L1, a1, c1, hM⟩ := hrel
    have HM := Lib.hid hM
    clear hM
    have hlen := ownsRow_len HM.out.own
    have hZ0 : ∀ j, j < n → 0 ≤ Z j := fun j hj => by have := HB.out j hj; omega
    have HZ0 := Lib.hid hZ0
    obtain ⟨t0, t1⟩ := HM.out.kept.inv.tk0 hZ0
    have t2 := HM.out.kept.inv.le
    have hL1 := HM.out.kept.len (fun j hj => (HB.out j hj).1) hm
    have ktk : sumZ Z L1 L1.length = s1.tk := by rw [sumZ_all, HM.out.kept.tk]
    have kt := fun (x : Under wr) => ref18_taken (a := a1) (sa := some ⟨sb, so, none⟩) (cap := c1) (cs := cs) (n := n) (Z := Z) rfl (by omega) HM.out.kept.be.lt (fun j hj => ⟨HZ0.out j hj, (HB.out j hj).2⟩) x.w ((IZ.out.below HM.out.sv.on).below x.2) (HM.out.ls.isL.below x.2)
    rw [ktk] at kt
    obtain ⟨q0, q1, q2⟩ := HM.out.sv.cC
    obtain ⟨_, _, hzE, _, hz0⟩ := (IZ.out.below HM.out.sv.on).row hi
    cases hzE
    rw [hZi] at hz0
    have p0 := Under.cell q0
    have p1 := Under.cell hz0
    have p2 := Under.cell q1
    have p3 := Under.cell q2
    clear hZ0 ktk q0 q1 q2 hz0
    by_cases hr : s1.tk + z ≤ most
    · have hr' : decide (most < s1.tk + z) = false := decide_eq_false (by omega)
      have hRe := HM.out.room.stop (by rw [hZi]; exact hr)
      have HRe := Lib.hid (show comeG Z C R.1 i = comeG Z C s1 i ∧ R.2 = l by rw [hRe]; exact ⟨rfl, rfl⟩)
      clear hRe
      have HKc := Lib.hid (HM.out.kept.come (C := C) hi HM.out.room.inn (by rw [hZi]; exact hr))
      have kr := fun (x : Under wr) => ref18_rank (ia := a1) (ra := ra) (sa := some ⟨sb, so, none⟩) (ca := ca) (ic := c1) (rc := rc) (cs := cs) (cc := cc) (R := rk) rfl (by omega) hi (by omega) HZ.out HC.out HM.out.kept.inv.lv x.w (HM.out.ls.isL.below x.2) ((IR.out.below HM.out.sv.on).below x.2) ((IZ.out.below HM.out.sv.on).below x.2) ((IC.out.below HM.out.sv.on).below x.2)
      have HE := Lib.hid (show (comeG Z C s1 i).lv = s1.lv ∧ (comeG Z C s1 i).rk = setI rk i ((s1.lv + wgtO Z C i) % 18446744073709551616) from ⟨rfl, by rw [← HM.out.rk]; rfl⟩)
      obtain ⟨oa, oc, rfl, _, _⟩ := isK_own HM.out.own
      have KR := Lib.hid kr
      have HSV := Lib.hid HM.out.sv
      have HOW := Lib.hid HM.out.own
      clear t1 kr HM hlen
      generalize (L1.filter fun x => x != i) ++ [i] = L2 at *
      generalize comeG Z C s1 i = s2 at *
      generalize setI rk i ((s1.lv + wgtO Z C i) % 18446744073709551616) = R2 at *
      generalize s1.lv = lv at *
      generalize s1.tk = tk at *
      generalize l.length = ll at *
      go_wp2_with fail
      (refine region_under (by kernel_rfl) (by kernel_rfl) ?_; (repeat (first | go_big_quiet_step ((go_at_call 43; with_reducible exact quietU (kt _))) | quiet_step ((go_at_call 43; with_reducible exact quietU (kt _))))); refine wpQuiet_nil ?_; intro _ hw'; obtain ⟨x, hw''⟩ := hw'; subst hw''; go_wp2_with fail)
      refine (KR.out x).mono ?_
      rintro e w2 ⟨fa, fc, fb, fd, rfl, hL2, hR2, hb2, hfa, hfb⟩
      have HW2 := Lib.hid ((HSV.out.below x.2).below hb2)
      obtain ⟨d0, d1, d2⟩ := HW2.out.cD
      obtain ⟨e0, e1⟩ := HW2.out.cE
      have f0 := HW2.out.fD 0
      have f1 := HW2.out.fD 1
      have f2 := HW2.out.fD 2
      have f3 := HW2.out.fE 0
      have f4 := HW2.out.fE 1
      have hs1 : w.heap.size + 3 ≤ x.w.heap.size := (HSV.out.below x.2).sz
      have HFin := Lib.hid (fun (lv' : Int) (hlv : lv' = lv) => serve_end (C := C) (fc := fc) (fd := fd) (hit := false) HW2.out hL2 hR2 (fun k o e _ => Or.inr (by have := hfa k o e; omega)) (fun k o e _ => Or.inr (by have := hfb k o e; omega)) (outsAt_ownL ((HOW.out.below x.2).below hb2) (Nat.le_refl _)) HKc.out HE.out.1 HE.out.2 (ia := ia) (ra := ra) (L0 := L) (Or.inr (fun k o e => by have := hfa k o e; omega)) (Or.inr (fun k o e => by have := hfb k o e; omega)))
      have HN := Lib.hid (HW2.out.ans (.slice fa L2.length fc) (.slice fb n fd) (.int .u64 lv) (.bool false) (.slice oa ll oc))
      clear HW2 hL2 hR2 hb2 hfa hfb HSV HOW KR kt p0 p1 p2 p3 hs1
      go_wp2_with fail
      have hr : ∀ (tmps : Array Value) (w : World) (g k : Nat) (cs ds : Array Value), tmps.getD 10 undef = .pointer (some ⟨g, 0, none⟩) → w.heap[g]? = some (.cells cs 56 (0, 0)) → cs.size = 3 → tmps.getD 11 undef = .pointer (some ⟨k, 0, none⟩) → w.heap[k]? = some (.cells ds 40 (0, 0)) → ds.size = 2 → (results Try.f23 tmps).run Try.prog w = .ok (.tuple #[.agg cs, .agg ds]) w := fun _ _ _ _ _ _ => ret_served (by kernel_rfl)
      first
        | refine bodyPost_ret (hr _ _ (w.heap.size + 1) (w.heap.size + 1 + 1) _ _ rfl HN.out.d rfl rfl HN.out.e rfl) rfl ?_
        | (rw [Exit.noGoto_ret]; go_at_K; refine bodyPost_ret (hr _ _ (w.heap.size + 1) (w.heap.size + 1 + 1) _ _ rfl HN.out.d rfl rfl HN.out.e rfl) rfl ?_)
      rw [HRe.out.1, HRe.out.2]
      exact HFin.out lv rfl
    · have hr' : decide (most < s1.tk + z) = true := decide_eq_true (by omega)
      obtain ⟨b0, hb0⟩ := HM.out.kept.inv.some (i := i) (by rw [hZi]; exact hr) (by rw [hZi]; exact hzm)
      have hpos := HM.out.kept.pos hb0
      have kl := fun (x : Under wr) => ref18_least (ia := a1) (ra := ra) (ic := c1) (rc := rc) (n := n) (lv := s1.lv) (R := rk) rfl hpos HM.out.kept.be.lt x.w (HM.out.ls.isL.below x.2) ((IR.out.below HM.out.sv.on).below x.2)
      have KL := Lib.hid kl
      have HNR := Lib.hid hr
      have HB0 := Lib.hid hb0
      have T1 := Lib.hid t1
      clear t1 kl hr hb0 hpos
      generalize hlv1 : s1.lv = lv1 at *
      generalize htk1 : s1.tk = tk at *
      go_wp2_with fail
      (refine region_under (by kernel_rfl) (by kernel_rfl) ?_; (repeat (first | go_big_quiet_step ((go_at_call 43; with_reducible exact quietU (kt _))) | quiet_step ((go_at_call 43; with_reducible exact quietU (kt _))))); refine wpQuiet_nil ?_; intro _ hw'; obtain ⟨x, hw''⟩ := hw'; subst hw''; go_wp2_with fail)
      refine (KL.out x).mono ?_
      rintro e w2 ⟨b, rfl, hlp, hb2⟩
      have HM2 := Lib.hid ((HM.out.below x.2).below hb2)
      have hlg : leastG s1 n = some b := HM.out.kept.be.least (by rw [HM.out.rk]; exact hlp)
      obtain ⟨hb, hbi⟩ := leastG_some hlg
      have HST := Lib.hid (HM.out.room.step (by exact fun j hj => by have := HB.out j hj; omega) (by rw [htk1, hZi]; have := HNR.out; omega) hlg)
      have HRK1 := Lib.hid (show (outG Z s1 b).lv = rk b ∧ (outG Z s1 b).rk = rk from ⟨by rw [← HM.out.rk]; rfl, HM.out.rk⟩)
      have HKO := Lib.hid (HM.out.kept.out (fun j hj => by have := HB.out j hj; omega) hlg)
      have hl64 := HST.out.2
      have hbs := HM2.out.sv.sz
      clear hb2 hlp hlg hbi HM HB0 T1 HNR KL kt p0 p1 p2 p3
      obtain ⟨ti, ti1, ti2, ti3, ti4⟩ := info_parts int_info
      have HZB := Lib.hid (show ((b : Nat) : Int) = nthI (l ++ [b]) l.length by rw [nthI_snoc])
      go_wp2_with (at_builtin; refine wpList_append_one w2 rfl _ _ _ rfl .i64 (w.heap.size + 3) 3 ti 8 (by kernel_rfl) ti1 ti2 ti3 ti4 u13 l.length (nthI (l ++ [b])) b rfl rfl (ownL_pre b HM2.out.own) HZB.out (by omega) (by decide) hbs ?_; intro v3 w3 g3)
      have HM3 := Lib.hid (show SvW w w3 #[.slice a1 L1.length c1, .slice ra n rc, .int .u64 lv1] #[.slice none 0 0, .slice none 0 0, .int .u64 0] #[.bool false, .slice none 0 0] from by rw [← hlv1]; exact HM2.out.sv.grown g3.grown (own_ge HM2.out.own))
      have HI3 := Lib.hid (HM2.out.ls.grown g3)
      have HO3 := Lib.hid (ownL_snoc g3.own)
      clear HM2 g3 HZB hbs
      obtain ⟨rb, ro, rfl, _, hq⟩ := (IR.out.below HM3.out.on).row hb
      obtain ⟨c0, c1', _⟩ := HM3.out.cC
      have ko := fun w iL => ref18_without (a := a1) (cap := c1) (k := b) (L := L1) rfl (by omega) w iL
      have KO := Lib.hid ko
      have hnb : (b : Int) < n := by omega
      have hb00 : (0 : Int) ≤ (b : Int) := by omega
      clear ko ti1 ti2 ti3 ti4
      generalize (L1.filter fun x => x != b) = L5 at *
      generalize outG Z s1 b = s5 at *
      generalize hrb : rk b = rkb at *
      refine wp_region_noPanic ?_
      refine region_calltail (fun W => W.cell? ⟨w.heap.size, 0, none⟩ = some (.slice a1 L1.length c1) ∧ W.cell? ⟨w.heap.size, 1, none⟩ = some (.slice (some ⟨rb, ro, none⟩) n rc) ∧ W.cell? ⟨rb, ro + b, none⟩ = some (.int .u64 rkb)) [0, 1, 2, 4, 5, 6, 7, 8, 9, 10] 3 11 (by kernel_rfl) (by kernel_rfl) (fun _ _ _ _ _ h => h) ⟨c0, c1', hq⟩ rfl ?_
      iterate 10 (refine wpIf_take (v := ?_) rfl (by rfl) (fun W hSW => ?_) ?_; rotate_left; · ((try dsimp only at hSW); go_simp; first | done | with_reducible rfl); (try simp only [Act.put, List.setIfInBounds_toArray, List.set_cons_zero, List.set_cons_succ]))
      refine wpIf_nil ?_
      intro K hK
      go_simp
      refine (KO.out _ ((HI3.out.isL).below (Below.refl _ _).drew)).mono ?_
      rintro e w4 ⟨v4, rfl, hO4, hb4⟩
      obtain ⟨a4, c4, rfl, _, _⟩ := isK_own hO4
      have hb4' : Below w3.heap.size w3 w4 := ((Below.refl _ _).drew).trans (hb4.mono (by simp))
      have HM4 := Lib.hid (HM3.out.below hb4')
      have hsz := HM3.out.sz
      obtain ⟨hk4, hI4⟩ := inAt_own (ov := v3) hO4 (by show w.heap.size + 3 ≤ w3.drew.heap.size; simpa using hsz) (fun j hj => by have := (HO3.out.lt j hj).2; simpa using this)
      have HI4 := Lib.hid hI4
      have HO4 := Lib.hid (HO3.out.below hb4')
      have hlen4 := ownsRow_len HO3.out
      dsimp only
      refine hK.out _ _ ⟨keepB hb4' c0, keepB hb4' c1', keepB hb4' hq⟩ ?_
      obtain ⟨y0, y1, y2⟩ := HM4.out.cC
      have f0 := HM4.out.fC 0
      have f1 := HM4.out.fC 1
      have f2 := HM4.out.fC 2
      clear hK KO c0 c1' hq hb4' hI4 HI3 HO3 HM3 hO4 hb4
      simp only [List.drop_succ_cons, List.drop_zero]
      have HFin := Lib.hid (show MkR w (((w4.setCell ⟨w.heap.size, 0, none⟩ (.slice a4 L5.length c4)).setCell ⟨w.heap.size, 1, none⟩ (.slice (some ⟨rb, ro, none⟩) n rc)).setCell ⟨w.heap.size, 2, none⟩ (.int .u64 rkb)) Z n most i R (some ⟨rb, ro, none⟩) rc rk v3 s5 (l ++ [b]) L5 a4 c4 from by
        refine ⟨?_, ?_, ?_, HKO.out, HST.out.1, HRK1.out.2⟩
        · rw [HRK1.out.1]
          exact ((HM4.out.setC 0 _).setC 1 _).setC 2 _
        · exact ((HI4.out.set (by omega) 0 _).set (by omega) 1 _).set (by omega) 2 _
        · exact ((HO4.out.set (by omega) 0 _).set (by omega) 1 _).set (by omega) 2 _)
      clear HM4 HI4 HO4 HKO HST HRK1
      go_wp2_with fail
      refine NoPanic.normal ?_
      go_wp2_with fail
      refine ⟨⟨s5, l ++ [b], L5, a4, c4, HFin.out⟩, ?_⟩
      simp at hlen4
      omega
end Go.Proofs.Ytlhjacgocggbcaa
