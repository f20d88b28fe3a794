/- The walk of GdsHolds. -/
import Derived.Test.YtlhjacgocggbcaaGdsT
import Derived.Test.YtlhjacgocggbcaaGdsV
set_option linter.unusedVariables false
set_option maxRecDepth 100000
set_option maxHeartbeats 4000000
namespace Go.Proofs.Ytlhjacgocggbcaa
open Go.RowKit Go.Shelf
attribute [local go_sem ↓] lt_alloc

/-- The size of who went last of the first k. -/
def lastK (Z : Nat → Int) (l : List Nat) (k : Nat) : Int := if k = 0 then 0 else Z (l.getD (k - 1) 0)
/-- When the first k have gone. -/
def goneK (Z : Nat → Int) (s : Gd) (l : List Nat) (k : Nat) : Gd := outsG Z s (l.take k)
/-- One who goes, of a call. -/
structure StepK (Z : Nat → Int) (n : Nat) (most : Int) (c : Nat) (s : Gd) (hit : Bool) (l : List Nat) (k b : Nat) : Prop where
  hit : hit = false
  lt : b < n
  inn : (goneK Z s l k).inn b = true
  full : most < (goneK Z s l k).tk + Z c
  t0 : 0 ≤ (goneK Z s l k).tk
  t1 : (goneK Z s l k).tk ≤ most
  zb : Z b ≤ (goneK Z s l k).tk
  tk : (goneK Z s l (k + 1)).tk = (goneK Z s l k).tk - Z b
  inn' : (goneK Z s l (k + 1)).inn = setB (goneK Z s l k).inn b false
  last : lastK Z l (k + 1) = Z b
theorem TurnG.step {Z : Nat → Int} {n : Nat} {most : Int} {c : Nat} {s s' : Gd} {hit : Bool} {l : List Nat} (h : TurnG Z n most c s s' hit l) {k : Nat} (hk : k < l.length) : StepK Z n most c s hit l k (l.getD k 0) := by
  have e : l[k]? = some (l.getD k 0) := by rw [List.getD_eq_getElem?_getD, List.getElem?_eq_getElem hk]; rfl
  obtain ⟨h1, h2, h3, h4, h5, h6, h7⟩ := h.each k _ e
  have e2 : goneK Z s l (k + 1) = outG Z (goneK Z s l k) (l.getD k 0) := by
    unfold goneK
    rw [← outsG_snoc, List.take_add_one, e]; rfl
  exact ⟨h1, h2, h3, h4, h5, h6, h7, by rw [e2]; rfl, by rw [e2]; rfl, by unfold lastK; rw [if_neg (by omega), show k + 1 - 1 = k from by omega]⟩
structure DoneK (Z : Nat → Int) (most : Int) (c : Nat) (s s' : Gd) (hit : Bool) (l : List Nat) : Prop where
  inn : (goneK Z s l l.length).inn c = hit
  last0 : 0 ≤ lastK Z l l.length
  last : 0 < lastK Z l l.length → most < (goneK Z s l l.length).tk + lastK Z l l.length + Z c
  lm : lastK Z l l.length ≤ most
  fin : if hit = false ∧ Z c ≤ most then s'.inn = setB (goneK Z s l l.length).inn c true ∧ s'.tk = (goneK Z s l l.length).tk + Z c else s'.inn = (goneK Z s l l.length).inn ∧ s'.tk = (goneK Z s l l.length).tk
  tk : 0 ≤ s'.tk ∧ s'.tk ≤ most
  tk0 : 0 ≤ (goneK Z s l l.length).tk ∧ (goneK Z s l l.length).tk ≤ most
theorem TurnG.done {Z : Nat → Int} {n : Nat} {most : Int} {c : Nat} {s s' : Gd} {hit : Bool} {l : List Nat} (hm : 0 ≤ most) (hZ : ∀ j, j < n → 0 ≤ Z j) (h : TurnG Z n most c s s' hit l) : DoneK Z most c s s' hit l := by
  have e : goneK Z s l l.length = outsG Z s l := by unfold goneK; rw [List.take_length]
  have hl : 0 ≤ lastK Z l l.length ∧ lastK Z l l.length ≤ most ∧ (0 < lastK Z l l.length → most < (goneK Z s l l.length).tk + lastK Z l l.length + Z c) := by
    rcases Nat.eq_zero_or_pos l.length with h0 | h0
    · unfold lastK; rw [if_pos h0]; exact ⟨Int.le_refl _, by omega, fun h => by omega⟩
    · obtain ⟨k, hk⟩ : ∃ k, l.length = k + 1 := ⟨l.length - 1, by omega⟩
      have q := h.step (k := k) (by omega)
      have q1 := q.last; have q2 := q.tk; have q3 := q.full; have q4 := hZ _ q.lt; have q5 := q.zb; have q6 := q.t1
      rw [hk, q1, q2]
      exact ⟨q4, by omega, fun _ => by omega⟩
  refine ⟨by rw [e]; exact h.hitIs.symm, hl.1, hl.2.2, hl.2.1, by rw [e]; exact h.fin, h.tk, by rw [e]; exact h.tk0⟩
/-- A row of bools of the call's own. -/
def BoolsAt (w : World) (g n : Nat) (f : Nat → Bool) : Prop := ∃ cur : Array Value, w.heap[g]? = some (.cells cur 4 (0, 0)) ∧ cur.size = n ∧ ∀ j, j < n → cur[j]? = some (.bool (f j))
theorem BoolsAt.cell {w : World} {g n : Nat} {f : Nat → Bool} (h : BoolsAt w g n f) {j : Nat} (hj : j < n) : w.cell? ⟨g, j, none⟩ = some (.bool (f j)) ∧ w.frozen? ⟨g, j, none⟩ = false := by
  obtain ⟨cur, h1, h2, h3⟩ := h
  exact ⟨(cell_of_row w g j _ _ _ h1).trans (h3 j hj), frozen_of_row w g j _ _ h1⟩
theorem BoolsAt.set {w : World} {g n : Nat} {f : Nat → Bool} (h : BoolsAt w g n f) (b : Nat) (v : Bool) : BoolsAt (w.setCell ⟨g, b, none⟩ (.bool v)) g n (setB f b v) := by
  obtain ⟨cur, h1, h2, h3⟩ := h
  refine ⟨_, heap_setCell_same w g b _ _ _ h1, by simp [h2], fun j hj => ?_⟩
  rw [Array.getElem?_setIfInBounds]
  unfold setB
  by_cases hb : b = j
  · subst hb; rw [if_pos rfl, if_pos (by omega), if_pos rfl]
  · rw [if_neg hb, if_neg (fun h => hb h.symm)]; exact h3 j hj
theorem BoolsAt.below {w w' : World} {g n : Nat} {f : Nat → Bool} (h : BoolsAt w g n f) (hb : Below w.heap.size w w') : BoolsAt w' g n f := by
  obtain ⟨cur, h1, h2, h3⟩ := h
  exact ⟨cur, (hb.block g (Array.getElem?_eq_some_iff.1 h1).1).trans h1, h2, h3⟩
theorem bools_made {w : World} {base T m : Nat} (h : w.ownsRow base 4 1 (.slice (some ⟨T, 0, none⟩) m m) m (madeCells (Value.bool false).cells (m * 1)).toList) : BoolsAt w T m (fun _ => false) := by
  rcases h.2 with ⟨hh, _⟩ | ⟨g', cap, cur, hh, _, hgg, _, _, hc, ht⟩
  · cases hh
  · cases hh
    refine ⟨cur, hgg, by omega, fun j hj => ?_⟩
    have e : (cur.toList.take (m * 1))[j]? = some (.bool false) := by
      rw [ht]
      simp [madeCells, Value.cells, hj, Nat.mod_one]
    rw [List.getElem?_take, if_pos (by omega)] at e
    simpa using e
theorem bool_info : (Try.prog.info? 4).map (fun i => (i.zero, i.size, i.bytes)) = some (some (.bool false), 1, 1) := by kernel_rfl
theorem gdsHolds_ok {most : Int} {sa ca aa : Option Addr} {n m cs cc ac : Nat} {Z C : Nat → Int} {A : Nat → Nat} (hZ : InK .i64 Z) (hC : InK .i64 C) (hm0 : 1 ≤ most) (hm1 : most ≤ 65536) (hp : mayP Z C n n) (hA : ∀ j, j < m → A j < n) (hn : n ≤ 100) (hm : m ≤ 60)
    (w : World) (iZ : IsK .i64 w sa n Z) (iC : IsK .i64 w ca n C) (iA : IsK .i64 w aa m (fun j => (A j : Nat))) :
    Calls Try.prog 4 #[.int .i64 most, .slice sa n cs, .slice ca n cc, .slice aa m ac] w fun e w' => e = .returned (.bool true) ∧ Below w.heap.size w w' := by
  have kf := fun w => law18_few (sa := sa) (ca := ca) (aa := aa) (n := n) (nc := n) (m := m) (cs := cs) (cc := cc) (ac := ac) w
  rw [decide_eq_true (show fewP n n m from ⟨hn, hn, hm⟩)] at kf
  have kR := fun w iZ iC iA => gds_Run_ok (most := most) (sa := sa) (ca := ca) (aa := aa) (n := n) (m := m) (cs := cs) (cc := cc) (ac := ac) (Z := Z) (C := C) (A := A) hZ hC hm0 hm1 hp hA (by omega) w iZ iC iA
  obtain ⟨ti, ti1, ti2, ti3, ti4⟩ := info_parts bool_info
  have hZ0 : ∀ j, j < n → 0 ≤ Z j := fun j hj => by have := (hp.2.2 j hj).1; omega
  have HT := Lib.hid (fun j (hj : j < m) => stG_turn (C := C) (A := A) hZ0 hm0 j (fun k hk => hA k (by omega)))
  have HP := Lib.hid hp
  have HA := Lib.hid hA
  have HZ0 := Lib.hid hZ0
  have HZ := Lib.hid hZ
  have IZ := Lib.hid iZ
  have IC := Lib.hid iC
  have IA := Lib.hid iA
  clear iZ iC iA hp hA hZ hC hZ0
  go_enter Try.func4, Try.ntmps4
  go_wp2_with fail
  refine (law18_awake w).mono ?_
  rintro e w0 ⟨rfl, hB0⟩
  go_wp2_with fail
  refine (kf _).mono ?_
  rintro e _ ⟨rfl, rfl⟩
  go_wp2_with fail
  refine (kR _ (IZ.out.below hB0) (IC.out.below hB0) (IA.out.below hB0)).mono ?_
  rintro e w1 ⟨la, lc, rfl, _, hL, hb⟩
  have hB1 := hB0.trans (hb.mono hB0.size)
  have IZ1 := Lib.hid (IZ.out.below hB1)
  have IA1 := Lib.hid (IA.out.below hB1)
  have IL1 := Lib.hid hL
  have hmm : ((m : Int) != m) = false := by simp
  clear kf kR hB0 hb hL IZ IC IA
  go_wp2_with (refine wpList_make_full _ rfl _ _ _ rfl 0 4 ti _ 1 (by kernel_rfl) ti1 ti2 ti3 .i64 .i64 _ _ n rfl rfl rfl rfl (by rw [ti4]; omega) (by unfold maxLen; omega) (Nat.zero_le _) ?_; intro w' ho' hg')
  have hN : BoolsAt w' w1.heap.size n (fun _ => false) := bools_made ho'
  have hBw : Below w1.heap.size w1 w' := ⟨hg'.os, hg'.tape, hg'.output, hg'.size, fun k hk => hg'.block k hk (by simp)⟩
  clear ho' hg' ti1 ti2 ti3 ti4 ti hmm
  go_loopw [13, 14] (fun nv iv W => ∃ i : Nat, i ≤ m ∧ iv = .int .i64 i ∧ nv = .int .i64 (stG Z C n most A i).tk ∧ Below w1.heap.size w1 W ∧ BoolsAt W w1.heap.size n (stG Z C n most A i).inn) (fun _ iv _ => m - (intOf iv).toNat)
  case atStart => exact ⟨0, Nat.zero_le _, rfl, rfl, hBw, hN⟩
  case round =>
    clear hBw hN
    obtain ⟨i, hi, rfl, rfl, hB, hN⟩ := hrel
    by_cases hlt : i < m
    · have hT := HT.out i hlt
      have hA := HA.out i hlt
      have hZ1 : ∀ j, j < n → 1 ≤ Z j ∧ Z j ≤ 4096 := fun j hj => ⟨(HP.out.2.2 j hj).1, (HP.out.2.2 j hj).2.1⟩
      have HZ1 := Lib.hid hZ1
      have HStep := Lib.hid (fun k (hk : k < (goG Z C n most A i).length) => hT.step hk)
      have HDone := Lib.hid (hT.done (by omega) HZ0.out)
      obtain ⟨ab, ao, rfl, _, ha⟩ := IA1.out.row hlt
      obtain ⟨lb, lo, rfl, _, l1, oa, oc, l2, l3⟩ := IL1.out.row hlt
      have c1 := keepB hB ha
      have c2 := keepB hB l2
      have L1 := Lib.hid l1
      have L2 := Lib.hid l2
      have L3 := Lib.hid l3
      clear ha l1 l2 l3 hT hZ1
      generalize hs' : stG Z C n most A (i + 1) = s' at *
      have HS' := Lib.hid hs'
      clear hs'
      generalize stG Z C n most A i = s at *
      generalize hitG Z C n most A i = hit at *
      generalize goG Z C n most A i = l at *
      generalize A i = c at *
      generalize hlen : l.length = len at *
      have HLen := Lib.hid hlen
      clear hlen
      go_wp2_with fail
      go_loopw [13, 16, 17] (fun nv lv kv W => ∃ k : Nat, k ≤ len ∧ kv = .int .i64 k ∧ nv = .int .i64 (goneK Z s l k).tk ∧ lv = .int .i64 (lastK Z l k) ∧ Below w1.heap.size w1 W ∧ BoolsAt W w1.heap.size n (goneK Z s l k).inn) (fun _ _ kv _ => len - (intOf kv).toNat)
      case atStart => exact ⟨0, Nat.zero_le _, rfl, rfl, rfl, hB, hN⟩
      case round =>
        clear c1 c2 hB hN
        obtain ⟨k, hk, rfl, rfl, rfl, hB, hN⟩ := hrel
        have c2 := keepB hB L2.out
        by_cases hkl : k < len
        · obtain ⟨h1, h2, h3, h4, h5, h6, h7, h8, h9, h10⟩ := HStep.out k hkl
          obtain ⟨ob, oo, rfl, _, co⟩ := (L3.out.below hB).row hkl
          have c3 := keepB hB L1.out
          rw [h1] at c3
          have H8 := Lib.hid h8
          have H9 := Lib.hid h9
          have H10 := Lib.hid h10
          obtain ⟨sb, so, rfl, _, cz⟩ := (IZ1.out.below hB).row (i := l.getD k 0) h2
          have cb := hN.cell h2
          rw [h3] at cb
          obtain ⟨cb, fb⟩ := cb
          have hN' := Lib.hid (hN.set (l.getD k 0) false)
          have hzb := HZ1.out _ h2
          have hbn : ((l.getD k 0 : Nat) : Int) < n := by omega
          have hsb : sb < w1.heap.size := by
            obtain ⟨b', o', h1, _, h2⟩ := IZ1.out.row (i := l.getD k 0) h2
            cases h1
            exact block_lt_of_cell h2
          have hsb1 : sb ≠ w1.heap.size := by omega
          have hsb2 : w1.heap.size ≠ sb := by omega
          clear hN h1 h3 h8 h9 h10 h2
          generalize l.getD k 0 = b at *
          generalize hzz : Z b = zb at *
          generalize htt : (goneK Z s l k).tk = t at *
          clear hzz htt
          go_wp2_with fail
          exact ⟨⟨k + 1, by omega, by go_num, by rw [H8.out], by rw [H10.out], hB.setCell (Nat.le_refl _) _, by rw [H9.out]; exact hN'.out⟩, by simp [intOf]; omega⟩
        · obtain rfl : len = k := by omega
          obtain ⟨e1, e2, e3, e4, e5, e6, e7⟩ := HDone.out
          rw [HLen.out] at e1 e2 e3 e4 e5 e7
          have c3 := keepB hB L1.out
          obtain ⟨sb, so, rfl, _, cz⟩ := (IZ1.out.below hB).row (i := c) hA
          have cb := hN.cell hA
          rw [e1] at cb
          obtain ⟨cb, fb⟩ := cb
          have hzc := HZ1.out _ hA
          have hcn : (c : Int) < n := by omega
          have hsb : sb < w1.heap.size := by
            obtain ⟨b', o', h1, _, h2⟩ := IZ1.out.row (i := c) hA
            cases h1
            exact block_lt_of_cell h2
          have hsb1 : sb ≠ w1.heap.size := by omega
          have hsb2 : w1.heap.size ≠ sb := by omega
          have p1 := Under.cell c2
          have p2 := Under.cell c3
          have p3 := Under.cell cz
          have p4 := Under.cell cb
          have f4 : ∀ x : Under wr, x.w.frozen? ⟨w1.heap.size, c, none⟩ = false := fun x => keepBf x.2 cb fb
          have HN := Lib.hid hN
          have HB := Lib.hid hB
          have E5 := Lib.hid e5
          clear hN hB e1 e5 c3 cz cb fb hA
          generalize hzz : Z c = zc at *
          generalize htt : (goneK Z s l len).tk = t at *
          generalize hll : lastK Z l len = la at *
          clear hzz hll
          have HTT := Lib.hid htt
          clear htt
          have hl0 : la = 0 ∨ 0 < la := by omega
          cases hit with
          | true =>
            have HE := Lib.hid (show s'.inn = (goneK Z s l len).inn ∧ s'.tk = t by
              have h := E5.out
              rw [if_neg (fun h => by cases h.1)] at h
              exact h)
            rcases hl0 with rfl | hl0
            · go_wp2_with fail
              (refine region_under (by kernel_rfl) (by kernel_rfl) ?_; (repeat (first | go_big_quiet_step ((fail)) | quiet_step ((fail)))); refine wpQuiet_nil ?_; intro _ hw'; obtain ⟨x, hw''⟩ := hw'; subst hw''; go_wp2_with fail)
              exact ⟨⟨i + 1, by omega, by go_num, by rw [HS'.out, HE.out.2], HB.out.trans (x.2.mono HB.out.size), by rw [HS'.out, HE.out.1]; exact HN.out.below x.2⟩, by simp [intOf]; omega⟩
            · have hd1 : decide (0 < la) = true := decide_eq_true hl0
              have hd2 : decide (t + la + zc ≤ most) = false := decide_eq_false (by have := e3 hl0; omega)
              go_wp2_with fail
              (refine region_under (by kernel_rfl) (by kernel_rfl) ?_; (repeat (first | go_big_quiet_step ((fail)) | quiet_step ((fail)))); refine wpQuiet_nil ?_; intro _ hw'; obtain ⟨x, hw''⟩ := hw'; subst hw''; go_wp2_with fail)
              exact ⟨⟨i + 1, by omega, by go_num, by rw [HS'.out, HE.out.2], HB.out.trans (x.2.mono HB.out.size), by rw [HS'.out, HE.out.1]; exact HN.out.below x.2⟩, by simp [intOf]; omega⟩
          | false =>
            by_cases hfit : zc ≤ most
            · have HE := Lib.hid (show s'.inn = setB (goneK Z s l len).inn c true ∧ s'.tk = t + zc by
                have h := E5.out
                rw [if_pos ⟨rfl, hfit⟩] at h
                exact h)
              have htz : t + zc ≤ most := by have := HE.out.2; omega
              rcases hl0 with rfl | hl0
              · go_wp2_with fail
                (refine region_under (by kernel_rfl) (by kernel_rfl) ?_; (repeat (first | go_big_quiet_step ((fail)) | quiet_step ((fail)))); refine wpQuiet_nil ?_; intro _ hw'; obtain ⟨x, hw''⟩ := hw'; subst hw''; go_wp2_with fail)
                exact ⟨⟨i + 1, by omega, by go_num, by rw [HS'.out, HE.out.2], (HB.out.trans (x.2.mono HB.out.size)).setCell (Nat.le_refl _) _, by rw [HS'.out, HE.out.1]; exact (HN.out.below x.2).set c true⟩, by simp [intOf]; omega⟩
              · have hd1 : decide (0 < la) = true := decide_eq_true hl0
                have hd2 : decide (t + la + zc ≤ most) = false := decide_eq_false (by have := e3 hl0; omega)
                go_wp2_with fail
                (refine region_under (by kernel_rfl) (by kernel_rfl) ?_; (repeat (first | go_big_quiet_step ((fail)) | quiet_step ((fail)))); refine wpQuiet_nil ?_; intro _ hw'; obtain ⟨x, hw''⟩ := hw'; subst hw''; go_wp2_with fail)
                exact ⟨⟨i + 1, by omega, by go_num, by rw [HS'.out, HE.out.2], (HB.out.trans (x.2.mono HB.out.size)).setCell (Nat.le_refl _) _, by rw [HS'.out, HE.out.1]; exact (HN.out.below x.2).set c true⟩, by simp [intOf]; omega⟩
            · have HE := Lib.hid (show s'.inn = (goneK Z s l len).inn ∧ s'.tk = t by
                have h := E5.out
                rw [if_neg (fun h => hfit h.2)] at h
                exact h)
              have hfit' : decide (zc ≤ most) = false := decide_eq_false hfit
              rcases hl0 with rfl | hl0
              · go_wp2_with fail
                (refine region_under (by kernel_rfl) (by kernel_rfl) ?_; (repeat (first | go_big_quiet_step ((fail)) | quiet_step ((fail)))); refine wpQuiet_nil ?_; intro _ hw'; obtain ⟨x, hw''⟩ := hw'; subst hw''; go_wp2_with fail)
                exact ⟨⟨i + 1, by omega, by go_num, by rw [HS'.out, HE.out.2], HB.out.trans (x.2.mono HB.out.size), by rw [HS'.out, HE.out.1]; exact HN.out.below x.2⟩, by simp [intOf]; omega⟩
              · have hd1 : decide (0 < la) = true := decide_eq_true hl0
                have hd2 : decide (t + la + zc ≤ most) = false := decide_eq_false (by have := e3 hl0; omega)
                go_wp2_with fail
                (refine region_under (by kernel_rfl) (by kernel_rfl) ?_; (repeat (first | go_big_quiet_step ((fail)) | quiet_step ((fail)))); refine wpQuiet_nil ?_; intro _ hw'; obtain ⟨x, hw''⟩ := hw'; subst hw''; go_wp2_with fail)
                exact ⟨⟨i + 1, by omega, by go_num, by rw [HS'.out, HE.out.2], HB.out.trans (x.2.mono HB.out.size), by rw [HS'.out, HE.out.1]; exact HN.out.below x.2⟩, by simp [intOf]; omega⟩
    · obtain rfl : m = i := by omega
      go_wp2_with fail
      go_ret
      exact ⟨rfl, hB1.trans (hB.mono hB1.size)⟩
end Go.Proofs.Ytlhjacgocggbcaa
