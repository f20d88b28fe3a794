/- The walk of slices.Insert of one member ahead of others, into a row that is full. -/
import Derived.Test.YtejipmkbjmcnaaaDoorTuneF
set_option linter.unusedVariables false
set_option maxRecDepth 100000
set_option maxHeartbeats 2000000
namespace Go.Proofs.YtejipmkbjmcnaaaDoor
open Go.RowKit Go.Shelf
attribute [local go_sem ↓] lt_alloc

theorem insert_row {l : List Sn} {s : Sn} {p n G : Nat} {cur : List Value} (hn : l.length = n) (hp : p ≤ n) (hsz : cur.length = G * 3) (hG : n + 1 ≤ G) (hpre : ∀ j, j < p * 3 → cur[j]? = ((cellsW l).take (p * 3))[j]?) :
    ∀ (j : Nat) (v : Value), (cellsW (l.take p ++ s :: l.drop p))[j]? = some v →
      ((cur.take (p * 3) ++ cellsS s ++ cur.drop (p * 3 + (cellsS s).length)).take ((p + 1) * 3) ++ cellsW (l.drop p) ++ (cur.take (p * 3) ++ cellsS s ++ cur.drop (p * 3 + (cellsS s).length)).drop ((p + 1) * 3 + (cellsW (l.drop p)).length))[j]? = some v := by
  intro j v hj
  have hd : (cellsW (l.drop p)).length = (n - p) * 3 := by rw [cellsW_length, List.length_drop, hn]
  have ht : (cellsW (l.take p)).length = p * 3 := by rw [cellsW_length, List.length_take, hn]; omega
  have f1 : p * 3 + (cellsS s).length ≤ cur.length := by rw [cellsS_length]; omega
  have l1 := splice_length (cur := cur) (off := p * 3) (cs := cellsS s) f1
  have f2 : (p + 1) * 3 + (cellsW (l.drop p)).length ≤ (cur.take (p * 3) ++ cellsS s ++ cur.drop (p * 3 + (cellsS s).length)).length := by rw [l1, hd]; omega
  rw [splice_get f2, splice_get f1]
  have hs : cellsW (l.take p ++ s :: l.drop p) = cellsW (l.take p) ++ (cellsS s ++ cellsW (l.drop p)) := by rw [cellsW_append]; rfl
  rw [hs] at hj
  rw [cellsS_length]
  by_cases h1 : j < p * 3
  · rw [if_pos (by omega), if_pos h1, hpre j h1, ← cellsW_take]
    rwa [List.getElem?_append_left (by omega)] at hj
  · rw [List.getElem?_append_right (by omega), ht] at hj
    by_cases h2 : j < (p + 1) * 3
    · rw [if_pos h2, if_neg h1, if_pos (by omega)]
      rwa [List.getElem?_append_left (by rw [cellsS_length]; omega)] at hj
    · rw [List.getElem?_append_right (by rw [cellsS_length]; omega), cellsS_length] at hj
      have hlt := (List.getElem?_eq_some_iff.1 hj).1
      rw [if_neg h2, if_pos (by omega), ← hj]
      congr 1; omega
theorem Only.of_below {g : Nat} {a b : World} (h : Below a.heap.size a b) : Only g a b := ⟨h.os, h.tape, h.output, h.size, fun k hk _ => h.block k hk⟩
theorem cellsS_one (s : Sn) : ∀ u ∈ cellsS s, u.oneCell' = true := by
  intro u hu; simp [cellsS] at hu; rcases hu with rfl | rfl | rfl <;> rfl
attribute [local go_sem high] cut_l cut_h
theorem insert_mid {g n p vb : Nat} {l : List Sn} {s : Sn} (hn : l.length = n) (hm : n ≤ 1000000) (hp : p < n) (w : World) (hg : WBlk w g l) (hv : w.heap[vb]? = some (.cells (cellsS s).toArray 25 (0, 0))) :
    Calls Tryd.prog 33 #[.slice (some ⟨g, 0, none⟩) n n, .int .i64 p, .slice (some ⟨vb, 0, none⟩) 1 1] w fun e w' => ∃ a c, e = .returned (.slice a (n + 1) c) ∧ n + 1 ≤ c ∧ IsW w' a (l.take p ++ s :: l.drop p) ∧ Only g w w' := by
  obtain ⟨ti, ti1, ti2, ti3, ti4⟩ := info_parts seen_info
  have hcl := cellsW_length l
  rw [hn] at hcl
  have hgs : g < w.heap.size := (Array.getElem?_eq_some_iff.1 hg).1
  have hvs : vb < w.heap.size := (Array.getElem?_eq_some_iff.1 hv).1
  have HOL := Lib.hid (show ((cellsW l).take (p * 3)).length = p * 3 by rw [List.length_take]; omega)
  have HOLD := Lib.hid (show ∀ j v, ((cellsW l).take (p * 3))[j]? = some v → w.cell? ⟨g, 0 + j, none⟩ = some v from fun j v hj => hg.cells j v (by
    rw [List.getElem?_take] at hj
    split at hj
    · exact hj
    · cases hj))
  have HV := Lib.hid hv
  have HG := Lib.hid hg
  have HN := Lib.hid hn
  have HCL := Lib.hid hcl
  have hpn : p ≠ n := by omega
  have hple : p ≤ n := by omega
  have hd1 : decide ((n : Int) < (n : Int) + 1) = true := decide_eq_true (by omega)
  have hne : ((p : Int) == n) = false := by simp; omega
  clear hv hg hn hcl
  go_enter Tryd.func33, Tryd.ntmps33
  go_wp2_with (first
    | (refine wpList_append_zeros rfl _ _ _ _ rfl 25 ti _ 3 32 (by kernel_rfl) (by kernel_rfl) ti1 ti2 ti3 ti4 rfl (by decide) g p n (n + 1 - p) ((n : Int) + 1 - p) rfl rfl (by omega) ((cellsW l).take (p * 3)) HOL.out HOLD.out (by omega) (n + 1) (by omega) (by omega) (by omega) (by decide) ?_; intro G cur w1 hG0 hG1 hcur hsz hpre hb1; have HCUR := Lib.hid hcur; have HPRE := Lib.hid hpre; have HB1 := Lib.hid hb1; have hGp : p ≠ G := (by omega); have hGp1 : p + 1 ≠ G := (by omega); have hNs : w.heap.size < w1.heap.size := (Array.getElem?_eq_some_iff.1 hcur).1; clear hcur hpre hb1)
    | (refine wpList_copy_rowN rfl _ _ _ _ rfl 25 3 (by kernel_rfl) seen_size w.heap.size (p * 3) (n + 1 - p) (G - p) rfl (some ⟨vb, 0, none⟩) 1 1 rfl 1 (by simp only [Nat.min_def]; split <;> omega) cur 25 HCUR.out (cellsS s) rfl (fun _ => ⟨_, rfl, fun j v hj => by rw [Addr.add_lit, Nat.zero_add]; exact (cell_of_row w1 vb j _ _ _ ((HB1.out.block vb hvs).trans HV.out)).trans (by simpa using hj)⟩) (by rw [cellsS_length]; omega) (cellsS_one s) ?_; intro w2 hw2 hon2; have HW2 := Lib.hid hw2; have HB2 := Lib.hid (HB1.out.trans (hon2.below (Nat.le_refl _) HB1.out.size)); have hNs2 := (Array.getElem?_eq_some_iff.1 hw2).1; clear hw2 hon2))
  have hq : ((p : Int) + 1).toNat = p + 1 := by omega
  have hq2 : (p : Int) + 1 ≤ (n : Int) + 1 := by omega
  (refine region_tail 8 (by kernel_rfl) (by kernel_rfl) ?_; simp only [List.take_succ_cons, List.take_zero, List.drop_succ_cons, List.drop_zero]; (repeat (first | go_big_quiet_step (fail) | quiet_step (fail))); refine wpQuiet_nil ?_; intro _ hw'; obtain ⟨x, hw''⟩ := hw'; subst hw'')
  have HX := Lib.hid ((x.2.block w.heap.size hNs2).trans HW2.out)
  have HB3 := Lib.hid (HB2.out.trans (x.2.mono HB2.out.size))
  have HD := Lib.hid (show (cellsW (l.drop p)).length = (n - p) * 3 by rw [cellsW_length, List.length_drop, HN.out])
  have HSRC := Lib.hid (show 0 < (cellsW (l.drop p)).length → ∃ ad, (some ⟨g, p * 3, none⟩ : Option Addr) = some ad ∧ ∀ j v, (cellsW (l.drop p))[j]? = some v → x.w.cell? (ad.add j) = some v from fun _ => ⟨_, rfl, fun j v hj => by
    rw [Addr.add_lit]
    rw [cellsW_drop, List.getElem?_drop] at hj
    have h1 := HG.out.cells _ _ hj
    rw [Nat.zero_add] at h1
    exact keepB HB3.out h1⟩)
  have HFIT := Lib.hid (show (p + 1) * 3 + (cellsW (l.drop p)).length ≤ (cur.toList.take (p * 3) ++ cellsS s ++ cur.toList.drop (p * 3 + (cellsS s).length)).toArray.size by
    rw [List.size_toArray, splice_length (by rw [cellsS_length]; simp; omega), HD.out]; simp; omega)
  go_wp2_with (refine wpList_copy_rowN rfl _ _ _ _ rfl 25 3 (by kernel_rfl) seen_size w.heap.size ((p + 1) * 3) (n - p) (G - (p + 1)) rfl (some ⟨g, p * 3, none⟩) (n - p) (n - p) rfl (n - p) (by simp only [Nat.min_def]; split <;> omega) _ 25 HX.out (cellsW (l.drop p)) HD.out HSRC.out HFIT.out (cellsW_one _) ?_; intro w3 hw3 hon3; have HW3 := Lib.hid hw3; have HB4 := Lib.hid (HB3.out.trans (hon3.below (Nat.le_refl _) HB3.out.size)); clear hw3 hon3)
  go_ret
  refine ⟨_, _, rfl, hG0, isW_cells (by simp; have := HN.out; omega) fun j v hj => ?_, Only.of_below HB4.out⟩
  rw [Nat.zero_add]
  refine (cell_of_row w3 w.heap.size j _ _ _ HW3.out).trans ?_
  have h := insert_row (s := s) (G := G) (cur := cur.toList) HN.out hple (by simpa using hsz) hG0 (fun j hj => by rw [← HPRE.out j hj]; simp) j v hj
  simpa using h
end Go.Proofs.YtejipmkbjmcnaaaDoor
