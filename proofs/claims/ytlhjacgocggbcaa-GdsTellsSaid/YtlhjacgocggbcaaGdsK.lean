/- The walk of serve, where room is made: the walk itself. -/
import Derived.Test.YtlhjacgocggbcaaGdsJ
set_option linter.unusedVariables false
set_option maxRecDepth 100000
set_option maxHeartbeats 4000000
namespace Go.Proofs.Ytlhjacgocggbcaa
open Go.RowKit Go.Shelf
attribute [local go_sem ↓] lt_alloc

theorem gds_serve_room (g : Nat) {sb so : Nat} {ca : Option Addr} {n cs cc i : Nat} {Z C : Nat → Int} {most : Int} {s : Gd} (hZ : InK .i64 Z) (hC : InK .i64 C) (hi : i < n) (hn : n ≤ 64) (hz : ∀ j, j < n → 1 ≤ Z j ∧ Z j ≤ 4096) (hm : most ≤ 65536)
    (hI : InvG Z n most s) (hin : s.inn i = false) (hfit : ¬ most < Z i) (w : World) (hsg : sb ≠ g) (hcg : ∀ b off, ca = some ⟨b, off, none⟩ → b ≠ g)
    (hrow : ∀ j, j < n → w.cell? ⟨sb, so + j, none⟩ = some (.int .i64 (Z j))) (iC : IsK .i64 w ca n C) (hc : CourseAt w g (.slice (some ⟨sb, so, none⟩) n cs) (.slice ca n cc) most s) :
    Calls Try.prog 22 #[.pointer (some ⟨g, 0, none⟩), .int .i64 i] w fun e w' => ∃ ov, e = .returned (.agg #[.bool false, ov]) ∧ OutsAt w.heap.size w' ov (roomG Z n most i n s).2 ∧ CourseAt w' g (.slice (some ⟨sb, so, none⟩) n cs) (.slice ca n cc) most (comeG Z C (roomG Z n most i n s).1 i) ∧ Only g w w' := by
  have hg : g < w.heap.size := block_lt_of_cell (a := ⟨g, 0, none⟩) (hc.cell (i := 0) (by decide))
  have hs0 := serve_start (i := i) g hc hg
  have hi64 : (i : Int) < 64 := by omega
  have mf := hmf
  have HR0 := Lib.hid (RoomR.start hI hin)
  generalize roomG Z n most i n s = R at *
  have HS0 := Lib.hid hs0
  have HL := Lib.hid (fun (s : Gd) (W : World) (h : SW w g i (.slice (some ⟨sb, so, none⟩) n cs) (.slice ca n cc) most s W) => h.loads hrow hsg)
  have HC := Lib.hid iC
  have HZ := Lib.hid hZ
  have HCC := Lib.hid hC
  have hzi := hz i hi
  have HB := Lib.hid hz
  have hfit' : decide (most < Z i) = false := decide_eq_false hfit
  have HM := Lib.hid hI.le
  clear hs0 hrow iC hZ hC hz hc hI
  generalize hZi : Z i = z at *
  go_enter Try.func22, Try.ntmps22
  go_wp2_with fail
  refine forget (fun W => SW w g i (.slice (some ⟨sb, so, none⟩) n cs) (.slice ca n cc) most s W) ?_ ?_
  · exact HS0.out
  intro W hW
  clear HS0
  have F := HL.out s W hW
  have p2 := Under.cell F.c2
  have p3 := Under.cell F.c3
  have pin := Under.cell (F.gi i (by omega))
  rw [hin] at pin
  have HW := Lib.hid hW
  clear hW F
  go_step3
  go_wp2_with fail
  (refine region_under (by kernel_rfl) (by kernel_rfl) ?_; (repeat (first | go_big_quiet_step ((fail)) | quiet_step ((fail)))); refine wpQuiet_nil ?_; intro _ hw'; obtain ⟨x, hw''⟩ := hw'; subst hw''; go_wp2_with fail)
  refine forget (fun V => SW w g i (.slice (some ⟨sb, so, none⟩) n cs) (.slice ca n cc) most s V) ?_ ?_
  · exact HW.out.below x.2
  clear HW p2 p3 pin x W
  intro W hW
  have F := HL.out s W hW
  have p2 := Under.cell F.c2
  have p3 := Under.cell F.c3
  have p4 := Under.cell F.g0
  have p5 := Under.cell F.g2
  have p6 := Under.cell (F.z i hi)
  rw [hZi] at p6
  have HW := Lib.hid hW
  clear hW F
  (refine region_under (by kernel_rfl) (by kernel_rfl) ?_; (repeat (first | go_big_quiet_step ((fail)) | quiet_step ((fail)))); refine wpQuiet_nil ?_; intro _ hw'; obtain ⟨x, hw''⟩ := hw'; subst hw''; go_wp2_with fail)
  go_step3
  go_wp2_with fail
  have HW2 := Lib.hid (HW.out.below x.2)
  clear p2 p3 p4 p5 p6 HW
  go_loopw [6, 7] (fun ov lv wr => ∃ (s1 : Gd) (l : List Nat), LW w g i (.slice (some ⟨sb, so, none⟩) n cs) (.slice ca n cc) most s1 ov l wr ∧ RoomR Z n most i R s1 l) (fun ov _ _ => n - lenV ov)
  case atStart => exact ⟨s, [], ⟨HW2.out, World.ownsRow_nil _ _ _ _⟩, HR0.out⟩
  case round =>
    clear HW2
    obtain ⟨s1, l, hLW, hR⟩ := hrel
    have hZ0 : ∀ j, j < n → 0 ≤ Z j := fun j hj => by have := HB.out j hj; omega
    obtain ⟨t0, t1⟩ := hR.inv.tk0 hZ0
    have t2 := hR.inv.le
    have hlen := ownsRow_len hLW.own
    have F := HL.out s1 _ hLW.sw
    have p2 := Under.cell F.c2
    have p3 := Under.cell F.c3
    have p4 := Under.cell F.g0
    have p5 := Under.cell F.g2
    have p6 := Under.cell (F.z i hi)
    have p7 := Under.cell F.g3
    rw [hZi] at p6
    have HLW := Lib.hid hLW
    clear F hLW
    by_cases hr : s1.tk + z ≤ most
    · have hr' : decide (s1.tk + z ≤ most) = true := decide_eq_true hr
      have hRe := hR.stop (by rw [hZi]; exact hr)
      have hlv := hR.inv.lv
      obtain ⟨oa, ol, oc, rfl⟩ : ∃ a l c, u6 = .slice a l c := by
        rcases HLW.out.own.2 with ⟨h, _⟩ | ⟨g, cap, cur, h, _⟩
        · exact ⟨_, _, _, h⟩
        · exact ⟨_, _, _, h⟩
      have HRe := Lib.hid hRe
      clear hR t1 hZ0 HR0 hRe
      generalize hs1 : s1.tk = tk at *
      go_wp2_with fail
      (refine region_under (by kernel_rfl) (by kernel_rfl) ?_; (repeat (first | go_big_quiet_step ((fail)) | quiet_step ((fail)))); refine wpQuiet_nil ?_; intro _ hw'; obtain ⟨x, hw''⟩ := hw'; subst hw''; go_wp2_with fail)
      refine forget (fun V => LW w g i (.slice (some ⟨sb, so, none⟩) n cs) (.slice ca n cc) most s1 (.slice oa ol oc) l V) ?_ ?_
      · exact HLW.out.below x.2
      clear HLW p2 p3 p4 p5 p6 p7 x
      intro V hV
      have F := HL.out _ _ hV.sw
      have p2 := Under.cell F.c2
      have p3 := Under.cell F.c3
      have ck := F.gi i (by omega)
      have fk := F.fz (4 + i)
      have HV := Lib.hid hV
      clear hV F
      (refine region_tail 5 (by kernel_rfl) (by kernel_rfl) ?_; simp only [List.take_succ_cons, List.take_zero, List.drop_succ_cons, List.drop_zero]; (repeat (first | go_big_quiet_step (fail) | quiet_step (fail))); refine wpQuiet_nil ?_; intro _ hw'; obtain ⟨x, hw''⟩ := hw'; subst hw'')
      have d1 := Under.cell ck x
      have d2 : x.w.frozen? ⟨g, 4 + i, none⟩ = false := keepBf x.2 ck fk
      have HV2 := Lib.hid ((HV.out.below x.2).set hg (4 + i) (.bool true) (inn_cells (by omega) true))
      clear p2 p3 HV ck fk
      go_wp2_with fail
      refine forget (fun V => LW w g i (.slice (some ⟨sb, so, none⟩) n cs) (.slice ca n cc) most { s1 with inn := setB s1.inn i true } (.slice oa ol oc) l V) ?_ ?_
      · exact HV2.out
      clear HV2 d1 d2 x V
      intro V hV
      have F := HL.out _ _ hV.sw
      have p2 := Under.cell F.c2
      have p3 := Under.cell F.c3
      have p4 := Under.cell F.g0
      have p5 := Under.cell F.g3
      have p6 := Under.cell (F.z i hi)
      have ck := F.g3
      have fk := F.fz 3
      dsimp only at p5 ck
      rw [hs1] at p5 ck
      rw [hZi] at p6
      have HV := Lib.hid hV
      clear hV F
      (refine region_tail 15 (by kernel_rfl) (by kernel_rfl) ?_; simp only [List.take_succ_cons, List.take_zero, List.drop_succ_cons, List.drop_zero]; (repeat (first | go_big_quiet_step (fail) | quiet_step (fail))); refine wpQuiet_nil ?_; intro _ hw'; obtain ⟨x, hw''⟩ := hw'; subst hw'')
      have d1 := Under.cell ck x
      have d2 : x.w.frozen? ⟨g, 3, none⟩ = false := keepBf x.2 ck fk
      have HV2 := Lib.hid ((HV.out.below x.2).set hg 3 (.int .i64 (tk + z)) (tk_cells (tk + z)))
      clear p2 p3 p4 p5 p6 HV ck fk
      go_wp2_with fail
      have hLV := HV2.out
      have F := HL.out _ _ hLV.sw
      refine (gds_rank g (w.heap.size) (w.heap.size + 1) (n := n) (nc := n) (cs := cs) (cc := cc) (s := { s1 with inn := setB s1.inn i true, tk := tk + z }) HZ.out HCC.out hi hi (by omega) hlv.1 hlv.2 _ (Or.inr ⟨sb, so, rfl, by omega, F.z⟩) (HC.out.only hLV.sw.on hcg) hLV.sw.co F.c2 F.c3).mono ?_
      rintro e w1 ⟨rfl, hc1, ho1⟩
      have hL1 := hLV.only hg hc1 ho1
      have hc4 := hL1.sw.c4
      have e1 : w1.cell? ⟨w.heap.size + 1 + 1, 0, none⟩ = some (.bool false) := cell_of_row w1 _ 0 _ _ _ hc4
      have e2 : w1.cell? ⟨w.heap.size + 1 + 1, 1, none⟩ = some (.slice none 0 0) := cell_of_row w1 _ 1 _ _ _ hc4
      have f0 : w1.frozen? ⟨w.heap.size + 1 + 1, 0, none⟩ = false := frozen_of_row w1 _ _ _ _ hc4
      have f1 : w1.frozen? ⟨w.heap.size + 1 + 1, 1, none⟩ = false := frozen_of_row w1 _ _ _ _ hc4
      have HFin := Lib.hid (serve_ret hL1 hg)
      clear hL1 hLV F HV2 d1 d2 hc1 ho1 hc4
      go_wp2_with fail
      have hr : ∀ (tmps : Array Value) (w : World) (g : Nat) (cs : Array Value), tmps.getD 4 undef = .pointer (some ⟨g, 0, none⟩) → w.heap[g]? = some (.cells cs 40 (0, 0)) → cs.size = 2 → (results Try.f22 tmps).run Try.prog w = .ok (.agg cs) w := fun _ _ _ _ => ret_serve (by kernel_rfl)
      obtain ⟨k1, k2, k3, k4⟩ := HFin.out
      rw [Exit.noGoto_ret]
      go_at_K
      refine bodyPost_ret (hr _ _ (w.heap.size + 1 + 1) #[.bool false, (.slice oa ol oc)] rfl k1 rfl) rfl ?_
      rw [HRe.out]
      refine ⟨(.slice oa ol oc), rfl, k2, ?_, k4⟩
      have he : rankG Z C ({ s1 with inn := setB s1.inn i true, tk := tk + z } : Gd) i = comeG Z C s1 i := by rw [← hs1, ← hZi]; rfl
      rw [← he]
      exact k3
    · have hr' : decide (s1.tk + z ≤ most) = false := decide_eq_false hr
      obtain ⟨b, hb⟩ := hR.inv.some (i := i) (by rw [hZi]; exact hr) (by rw [hZi]; exact hfit)
      obtain ⟨b1, b2⟩ := leastG_some hb
      have HST := Lib.hid (hR.step hZ0 (by rw [hZi]; exact hr) hb)
      have hzb := HB.out b b1
      have hzt := t1 b b1 b2
      clear hR t1 hZ0
      generalize hs1 : s1.tk = tk at *
      go_wp2_with fail
      (refine region_under (by kernel_rfl) (by kernel_rfl) ?_; (repeat (first | go_big_quiet_step ((fail)) | quiet_step ((fail)))); refine wpQuiet_nil ?_; intro _ hw'; obtain ⟨x, hw''⟩ := hw'; subst hw''; go_wp2_with fail)
      have hL := HLW.out.below x.2
      refine (gds_least g hn x.w hL.sw.co).mono ?_
      rintro e w1 ⟨rfl, hb1⟩
      rw [hb, show leastI (some b) = (b : Int) from rfl]
      have hL1 := hL.below hb1
      have hb64 : (b : Int) < 64 := by omega
      have F := HL.out s1 _ hL1.sw
      have q2 := F.c2
      have q3 := F.gi b (by omega)
      have q4 := F.fz (4 + b)
      have HL2 := Lib.hid (hL1.set hg (4 + b) (.bool false) (inn_cells (by omega) false))
      clear p2 p3 p4 p5 p6 p7 hL HLW F hL1
      go_wp2_with fail
      refine forget (fun V => LW w g i (.slice (some ⟨sb, so, none⟩) n cs) (.slice ca n cc) most { s1 with inn := setB s1.inn b false } u6 l V) ?_ ?_
      · exact HL2.out
      clear HL2 q2 q3 q4 hb1 w1 x
      intro V hV
      have F := HL.out _ _ hV.sw
      have p2 := Under.cell F.c2
      have p3 := Under.cell F.g0
      have p4 := Under.cell F.g3
      have p5 := Under.cell (F.z b b1)
      have ck := F.g3
      have fk := F.fz 3
      dsimp only at p4 ck
      rw [hs1] at p4 ck
      have HV := Lib.hid hV
      have hzb' := hzb
      clear hV F
      generalize hZb : Z b = zb at *
      (refine region_tail 15 (by kernel_rfl) (by kernel_rfl) ?_; simp only [List.take_succ_cons, List.take_zero, List.drop_succ_cons, List.drop_zero]; (repeat (first | go_big_quiet_step (fail) | quiet_step (fail))); refine wpQuiet_nil ?_; intro _ hw'; obtain ⟨x, hw''⟩ := hw'; subst hw'')
      have d1 := Under.cell ck x
      have d2 : x.w.frozen? ⟨g, 3, none⟩ = false := keepBf x.2 ck fk
      have HV2 := Lib.hid ((HV.out.below x.2).set hg 3 (.int .i64 (tk - zb)) (tk_cells (tk - zb)))
      clear p2 p3 p4 p5 HV ck fk
      go_wp2_with fail
      refine forget (fun V => LW w g i (.slice (some ⟨sb, so, none⟩) n cs) (.slice ca n cc) most { s1 with inn := setB s1.inn b false, tk := tk - zb } u6 l V) ?_ ?_
      · exact HV2.out
      clear HV2 d1 d2 x V
      intro V hV
      have F := HL.out _ _ hV.sw
      have p2 := Under.cell F.c2
      have p3 := Under.cell (F.gr b (by omega))
      have ck := F.gl
      have fk := F.fz 132
      have HV := Lib.hid hV
      clear hV F
      dsimp only at p3 ck
      (refine region_tail 9 (by kernel_rfl) (by kernel_rfl) ?_; simp only [List.take_succ_cons, List.take_zero, List.drop_succ_cons, List.drop_zero]; (repeat (first | go_big_quiet_step (fail) | quiet_step (fail))); refine wpQuiet_nil ?_; intro _ hw'; obtain ⟨x, hw''⟩ := hw'; subst hw'')
      have d1 := Under.cell ck x
      have d2 : x.w.frozen? ⟨g, 132, none⟩ = false := keepBf x.2 ck fk
      have HV2 := Lib.hid ((HV.out.below x.2).set hg 132 (.int .u64 (s1.rk b)) (lv_cells (s1.rk b)))
      have hbase : w.heap.size + 3 ≤ x.w.heap.size := by have h := HV2.out.sw.sz; rw [World.size_setCell] at h; exact h
      have hA := (HV2.out.own).alloc (.cells #[.int .i64 b] 3)
      have hN : ∀ j u, [Value.int .i64 (b : Nat)][j]? = some u → ((x.w.setCell ⟨g, 132, none⟩ (.int .u64 (s1.rk b))).alloc (.cells #[.int .i64 (b : Nat)] 3)).cell? ((⟨x.w.heap.size, 0, none⟩ : Addr).add j) = some u := by
        intro j u hj
        have h0 : j = 0 := by
          rcases Nat.eq_zero_or_pos j with h | h
          · exact h
          · rw [List.getElem?_eq_none (by simp; omega)] at hj; cases hj
        subst h0
        cases hj
        have e := heap_alloc_new (x.w.setCell ⟨g, 132, none⟩ (.int .u64 (s1.rk b))) (.cells #[.int .i64 (b : Nat)] 3)
        rw [World.size_setCell] at e
        exact cell_of_row _ _ 0 _ _ _ e
      have hbd := ownB hA
      have hs2 : w.heap.size + 3 ≤ ((x.w.setCell ⟨g, 132, none⟩ (.int .u64 (s1.rk b))).alloc (.cells #[.int .i64 (b : Nat)] 3)).heap.size := by simp; omega
      have HS := Lib.hid (HV2.out.sw.below ((Below.refl _ _).alloc (Nat.le_refl _) (.cells #[.int .i64 (b : Nat)] 3)))
      have hl64 := HST.out.2
      obtain ⟨ti, ti1, ti2, ti3, ti4⟩ := info_parts int_info
      clear p2 p3 HV ck fk HV2
      have HA := Lib.hid hA
      have HN := Lib.hid hN
      clear hA hN
      go_wp2_with (refine wpList_append_at _ rfl _ _ _ rfl (w.heap.size + 3) 3 ti (.int .i64 0) 1 8 (by kernel_rfl) ti1 ti2 ti3 ti4 rfl (by decide) u6 l.length (intsL l) rfl HA.out ⟨x.w.heap.size, 0, none⟩ 1 1 [.int .i64 (b : Nat)] rfl rfl HN.out (by intro u hu; simp at hu; subst hu; rfl) (by unfold maxLen; omega) (by omega) hs2 ?_; intro v' w' ho' hg')
      have he : ({ s1 with inn := setB s1.inn b false, tk := tk - zb, lv := s1.rk b } : Gd) = outG Z s1 b := by rw [← hs1, ← hZb]; rfl
      have hSW := HS.out.grown hg hg' hbd
      rw [he] at hSW
      have h1 := ownsRow_len ho'
      refine ⟨⟨outG Z s1 b, l ++ [b], ⟨hSW, ?_⟩, HST.out.1⟩, by omega⟩
      rw [List.length_append, List.length_singleton, show intsL (l ++ [b]) = intsL l ++ [.int .i64 (b : Nat)] by unfold intsL; rw [List.map_append]; rfl]
      exact ho'
end Go.Proofs.Ytlhjacgocggbcaa
