/- The walk of Note. -/
import Derived.Test.YtejipmkbjmcnaaaDoorTuneG
import Derived.Test.YtejipmkbjmcnaaaDoorTuneE
set_option linter.unusedVariables false
set_option maxRecDepth 100000
set_option maxHeartbeats 2000000
namespace Go.Proofs.YtejipmkbjmcnaaaDoor
open Go.RowKit Go.Shelf
attribute [local go_sem ↓] lt_alloc

theorem insert_any {g n p vb : Nat} {l : List Sn} {s : Sn} (hn : l.length = n) (hm : n ≤ 1000000) (hp : p ≤ n) (w : World) (hg : WBlk w g l) (hv : w.heap[vb]? = some (.cells (cellsS s).toArray 25 (0, 0))) :
    Calls Tryd.prog 33 #[.slice (some ⟨g, 0, none⟩) n n, .int .i64 p, .slice (some ⟨vb, 0, none⟩) 1 1] w fun e w' => ∃ a c, e = .returned (.slice a (n + 1) c) ∧ n + 1 ≤ c ∧ IsW w' a (l.take p ++ s :: l.drop p) ∧ Only g w w' := by
  rcases Nat.lt_or_ge p n with h | h
  · exact insert_mid hn hm h w hg hv
  · obtain rfl : p = n := by omega
    rw [← hn, List.take_length, List.drop_length, hn]
    exact insert_end hn hm w hg hv
theorem wAt_set {l : List Sn} {p j : Nat} {s : Sn} (hp : p < l.length) : wAt (l.set p s) j = if j = p then s else wAt l j := by
  unfold wAt
  rw [List.getD_eq_getElem?_getD, List.getD_eq_getElem?_getD, List.getElem?_set]
  by_cases h : p = j
  · subst h; rw [if_pos rfl, if_pos rfl, if_pos hp]; rfl
  · rw [if_neg h, if_neg (fun hh => h hh.symm)]
theorem set_cells {w : World} {g p : Nat} {l : List Sn} {size m : Int} (hp : p < l.length) (h : WBlk w g l) :
    WBlk ((w.setCell ⟨g, p * 3 + 1, none⟩ (.int .i64 size)).setCell ⟨g, p * 3 + 2, none⟩ (.int .i64 m)) g (l.set p ⟨(wAt l p).key, size, m⟩) := by
  have h1 := heap_setCell_same w g (p * 3 + 1) _ _ (.int .i64 size) h
  have h2 := heap_setCell_same _ g (p * 3 + 2) _ _ (.int .i64 m) h1
  unfold WBlk
  rw [h2]
  congr 2
  apply Array.ext_getElem?
  intro j
  have hlen : (cellsW (l.set p ⟨(wAt l p).key, size, m⟩)).length = (cellsW l).length := by rw [cellsW_length, cellsW_length, List.length_set]
  rw [Array.getElem?_setIfInBounds, Array.getElem?_setIfInBounds]
  simp only [Array.size_setIfInBounds, List.size_toArray, List.getElem?_toArray]
  rcases Nat.lt_or_ge j (l.length * 3) with hj | hj
  · obtain ⟨hi, hc⟩ := idx3 hj
    obtain ⟨a1, a2, a3⟩ := cellsW_get l (j / 3) hi
    obtain ⟨b1, b2, b3⟩ := cellsW_get (l.set p ⟨(wAt l p).key, size, m⟩) (j / 3) (by rw [List.length_set]; exact hi)
    rw [wAt_set hp] at b1 b2 b3
    have hcl := cellsW_length l
    by_cases hjp : j / 3 = p
    · rw [if_pos hjp] at b1 b2 b3
      rcases hc with hc | hc | hc
      · rw [if_neg (by omega), if_neg (by omega), hc, a1, b1, hjp]
      · rw [if_neg (by omega), if_pos (by omega), if_pos (by omega), hc, b2]
      · rw [if_pos (by omega), if_pos (by omega), hc, b3]
    · rw [if_neg hjp] at b1 b2 b3
      rw [if_neg (by omega), if_neg (by omega)]
      rcases hc with hc | hc | hc
      · rw [hc, a1, b1]
      · rw [hc, a2, b2]
      · rw [hc, a3, b3]
  · have hcl := cellsW_length l
    rw [if_neg (by omega), if_neg (by omega), List.getElem?_eq_none (by omega), List.getElem?_eq_none (by omega)]
theorem rawW_hit {l : List Sn} {key : ByteArray} {size : Int} (h : hitW l key = true) : posW l key < l.length ∧ rawW l key size = l.set (posW l key) ⟨(wAt l (posW l key)).key, size, (wAt l (posW l key)).n + 1⟩ := by
  have hh := h
  unfold hitW at hh
  rw [Bool.and_eq_true, decide_eq_true_eq] at hh
  refine ⟨hh.1, ?_⟩
  unfold rawW
  rw [if_pos h, eqB_iff.1 hh.2]
theorem rawW_miss {l : List Sn} {key : ByteArray} {size : Int} (h : hitW l key = false) : rawW l key size = l.take (posW l key) ++ ⟨key, size, 1⟩ :: l.drop (posW l key) := by
  unfold rawW
  rw [if_neg (by rw [h]; decide)]
theorem rawW_len {l : List Sn} {key : ByteArray} {size : Int} : (rawW l key size).length ≤ l.length + 1 := by
  have := posW_le l key
  unfold rawW
  split
  · rw [List.length_set]; omega
  · rw [List.length_append, List.length_take, List.length_cons, List.length_drop]; omega
def NoteEnd (w : World) (l' : List Sn) (e : Ending) (w' : World) : Prop := ∃ a c, e = .returned (.slice a l'.length c) ∧ l'.length ≤ c ∧ IsW w' a l' ∧ Below w.heap.size w w'
theorem note_not {a : Option Addr} {n cap : Nat} {l : List Sn} {key : ByteArray} {size : Int} (hn : l.length = n) (hm : n ≤ 1000000) (hmay : ¬ mayW l) (w : World) (iW : IsW w a l) :
    Calls Tryd.prog 15 #[.slice a n cap, .string key, .int .i64 size] w (NoteEnd w l) := by
  have k1 := fun w iW => tune_Check (a := a) (cap := cap) hn w iW
  rw [decide_eq_false hmay] at k1
  have k2 := fun w iW => tune_copied (a := a) (cap := cap) hn hm w iW
  have HN := Lib.hid hn
  have IW := Lib.hid iW
  clear hn iW
  go_enter Tryd.func15, Tryd.ntmps15
  go_wp2_with fail
  refine (k1 _ IW.out).mono ?_
  rintro e w1 ⟨rfl, hb⟩
  have HB1 := Lib.hid hb
  clear k1 hb
  go_wp2_with fail
  refine (k2 _ (IW.out.below HB1.out)).mono ?_
  rintro e w2 ⟨rfl, hW, hb⟩
  have HB2 := Lib.hid (HB1.out.trans (hb.mono HB1.out.size))
  have HW := Lib.hid hW
  clear k2 hb hW
  go_wp2_with fail
  go_ret
  exact ⟨_, n, by rw [HN.out]; rfl, by rw [HN.out]; exact Nat.le_refl _, HW.out.isW (by rw [HN.out]; exact hm), HB2.out⟩
theorem note_miss {a : Option Addr} {n cap : Nat} {l : List Sn} {key : ByteArray} {size : Int} (hn : l.length = n) (hmay : mayW l) (hit : hitW l key = false) (w : World) (iW : IsW w a l) :
    Calls Tryd.prog 15 #[.slice a n cap, .string key, .int .i64 size] w (NoteEnd w (noteW l key size)) := by
  have hm : n ≤ 1000 := by rw [← hn]; exact hmay.1
  have k1 := fun w iW => tune_Check (a := a) (cap := cap) hn w iW
  rw [decide_eq_true hmay] at k1
  have k2 := fun w iW => tune_copied (a := a) (cap := cap) hn (by omega) w iW
  have hp : posW l key ≤ n := by rw [← hn]; exact posW_le l key
  have k3 := fun (g : Nat) w iW => slices_search (a := some ⟨g, 0, none⟩) (cap := n) (key := key) hn (by omega) hp (fun j hj => posW_lo hj) (fun j hj hl => posW_hi hmay hj (by rw [hn]; exact hl)) w iW
  have hh : (decide (posW l key < n) && eqB (wAt l (posW l key)).key key) = false := by rw [← hn]; exact hit
  rw [hh] at k3
  have hraw := rawW_miss (size := size) hit
  have hrl : (rawW l key size).length = n + 1 := by rw [hraw, List.length_append, List.length_take, List.length_cons, List.length_drop]; omega
  have k4 := fun (g vb : Nat) w hg hv => insert_any (g := g) (vb := vb) (s := ⟨key, size, 1⟩) hn (by omega) hp w hg hv
  rw [← hraw] at k4
  have k5 := fun (a' : Option Addr) (c : Nat) w iW => tune_Check (a := a') (cap := c) hrl w iW
  have hno : noteW l key size = if mayW (rawW l key size) then rawW l key size else l := by
    unfold noteW
    by_cases h : mayW (rawW l key size)
    · rw [if_pos ⟨hmay, h⟩, if_pos h]
    · rw [if_neg (fun hh => h hh.2), if_neg h]
  have HNO := Lib.hid hno
  have HN := Lib.hid hn
  have HRL := Lib.hid hrl
  have IW := Lib.hid iW
  have K3 := Lib.hid k3
  have K4 := Lib.hid k4
  have K5 := Lib.hid k5
  clear hn iW hmay hit hh hraw hrl k3 k4 k5 hno
  generalize posW l key = p at *
  go_enter Tryd.func15, Tryd.ntmps15
  go_wp2_with fail
  refine (k1 _ IW.out).mono ?_
  rintro e w1 ⟨rfl, hb⟩
  have HB1 := Lib.hid hb
  clear k1 hb
  go_wp2_with fail
  refine (k2 _ (IW.out.below HB1.out)).mono ?_
  rintro e w2 ⟨rfl, hW, hb⟩
  have HB2 := Lib.hid (HB1.out.trans (hb.mono HB1.out.size))
  have HW := Lib.hid hW
  have hgs : w1.heap.size < w2.heap.size := (Array.getElem?_eq_some_iff.1 hW).1
  have hg0 : w.heap.size ≤ w1.heap.size := HB1.out.size
  clear hb hW
  generalize w1.heap.size = g at *
  go_wp2_with fail
  refine (K3.out g _ (HW.out.isW (by rw [HN.out]; omega))).mono ?_
  rintro e w3 ⟨rfl, hb⟩
  have HB3 := Lib.hid (HB2.out.trans (hb.mono HB2.out.size))
  have HW3 := Lib.hid ((hb.block g hgs).trans HW.out)
  have hgs3 : g < w3.heap.size := Nat.lt_of_lt_of_le hgs hb.size
  clear hb HW K3
  go_wp2_with fail
  have hal := heap_alloc_new w3 (.cells #[.string key, .int .i64 size, .int .i64 1] 25)
  refine (K4.out g w3.heap.size _ ((heap_alloc_old w3 _ hgs3).trans HW3.out) hal).mono ?_
  rintro e w4 ⟨a', c, rfl, hc, hW4, hon⟩
  have b0 : Below w3.heap.size w3 (w3.alloc (.cells #[.string key, .int .i64 size, .int .i64 1] 25)) := (Below.refl _ _).alloc (Nat.le_refl _) _
  have HB4 := Lib.hid (HB3.out.trans (b0.mono HB3.out.size))
  have HB5 := Lib.hid (HB4.out.trans (hon.below hg0 (by have := HB4.out.size; omega)))
  have HW4 := Lib.hid hW4
  clear hal hW4 hon HB4 HW3 K4 b0
  go_wp2_with fail
  refine (K5.out a' c _ HW4.out).mono ?_
  rintro e w5 ⟨rfl, hb⟩
  have HB6 := Lib.hid (HB5.out.trans (hb.mono HB5.out.size))
  have HW5 := Lib.hid (HW4.out.below hb)
  clear hb HW4 K5
  by_cases hm2 : mayW (rawW l key size)
  · rw [decide_eq_true hm2]
    have HNO2 := Lib.hid (show noteW l key size = rawW l key size by rw [HNO.out, if_pos hm2])
    clear hm2 k2
    go_wp2_with fail
    go_ret
    exact ⟨a', c, by rw [HNO2.out, HRL.out]; rfl, by rw [HNO2.out, HRL.out]; exact hc, by rw [HNO2.out]; exact HW5.out, HB6.out⟩
  · rw [decide_eq_false hm2]
    have HNO2 := Lib.hid (show noteW l key size = l by rw [HNO.out, if_neg hm2])
    clear hm2
    go_wp2_with fail
    refine (k2 _ (IW.out.below HB6.out)).mono ?_
    rintro e w6 ⟨rfl, hW, hb⟩
    have HB7 := Lib.hid (HB6.out.trans (hb.mono HB6.out.size))
    have HW6 := Lib.hid hW
    clear k2 hb hW
    go_wp2_with fail
    go_ret
    exact ⟨_, n, by rw [HNO2.out, HN.out]; rfl, by rw [HNO2.out, HN.out]; exact Nat.le_refl _, by rw [HNO2.out]; exact HW6.out.isW (by rw [HN.out]; omega), HB7.out⟩
theorem note_hit {a : Option Addr} {n cap : Nat} {l : List Sn} {key : ByteArray} {size : Int} (hn : l.length = n) (hmay : mayW l) (hit : hitW l key = true) (w : World) (iW : IsW w a l) :
    Calls Tryd.prog 15 #[.slice a n cap, .string key, .int .i64 size] w (NoteEnd w (noteW l key size)) := by
  have hm : n ≤ 1000 := by rw [← hn]; exact hmay.1
  have k1 := fun w iW => tune_Check (a := a) (cap := cap) hn w iW
  rw [decide_eq_true hmay] at k1
  have k2 := fun w iW => tune_copied (a := a) (cap := cap) hn (by omega) w iW
  have hp : posW l key ≤ n := by rw [← hn]; exact posW_le l key
  have k3 := fun (g : Nat) w iW => slices_search (a := some ⟨g, 0, none⟩) (cap := n) (key := key) hn (by omega) hp (fun j hj => posW_lo hj) (fun j hj hl => posW_hi hmay hj (by rw [hn]; exact hl)) w iW
  have hh : (decide (posW l key < n) && eqB (wAt l (posW l key)).key key) = true := by rw [← hn]; exact hit
  rw [hh] at k3
  obtain ⟨hpl, hraw⟩ := rawW_hit (size := size) hit
  have hok := (hmay.2 _ hpl).1
  have hpn : posW l key < n := by omega
  have hrl : (rawW l key size).length = n := by rw [hraw, List.length_set, hn]
  have k4 := fun (g : Nat) w hg => set_cells (w := w) (g := g) (size := size) (m := (wAt l (posW l key)).n + 1) hpl hg
  rw [← hraw] at k4
  have k5 := fun (g : Nat) w iW => tune_Check (a := some ⟨g, 0, none⟩) (cap := n) hrl w iW
  have hno : noteW l key size = if mayW (rawW l key size) then rawW l key size else l := by
    unfold noteW
    by_cases h : mayW (rawW l key size)
    · rw [if_pos ⟨hmay, h⟩, if_pos h]
    · rw [if_neg (fun hh => h hh.2), if_neg h]
  have hm1 : -9223372036854775808 ≤ (wAt l (posW l key)).n ∧ (wAt l (posW l key)).n ≤ 1000 := by have := hok.2.2; omega
  have HNO := Lib.hid hno
  have HN := Lib.hid hn
  have HRL := Lib.hid hrl
  have IW := Lib.hid iW
  have K3 := Lib.hid k3
  have K4 := Lib.hid k4
  have K5 := Lib.hid k5
  have hrow := fun (g : Nat) (w : World) (hg : WBlk w g l) => (hg.isW (by omega)).row hpl
  have HROW := Lib.hid hrow
  clear hrow hn iW hmay hit hh hraw hrl k3 k4 k5 hno hpl hok
  generalize (wAt l (posW l key)).n = m at *
  generalize (wAt l (posW l key)).size = z at *
  generalize (wAt l (posW l key)).key = kk at *
  generalize posW l key = p at *
  go_enter Tryd.func15, Tryd.ntmps15
  go_wp2_with fail
  refine (k1 _ IW.out).mono ?_
  rintro e w1 ⟨rfl, hb⟩
  have HB1 := Lib.hid hb
  clear k1 hb
  go_wp2_with fail
  refine (k2 _ (IW.out.below HB1.out)).mono ?_
  rintro e w2 ⟨rfl, hW, hb⟩
  have HB2 := Lib.hid (HB1.out.trans (hb.mono HB1.out.size))
  have HW := Lib.hid hW
  have hgs : w1.heap.size < w2.heap.size := (Array.getElem?_eq_some_iff.1 hW).1
  have hg0 : w.heap.size ≤ w1.heap.size := HB1.out.size
  clear hb hW
  generalize w1.heap.size = g at *
  go_wp2_with fail
  refine (K3.out g _ (HW.out.isW (by rw [HN.out]; omega))).mono ?_
  rintro e w3 ⟨rfl, hb⟩
  have HB3 := Lib.hid (HB2.out.trans (hb.mono HB2.out.size))
  have hW3 : WBlk w3 g l := (hb.block g hgs).trans HW.out
  obtain ⟨b', o', hh, _, q0, q1, q2⟩ := HROW.out g w3 hW3
  cases hh
  rw [Nat.zero_add] at q0 q1 q2
  have f1 : w3.frozen? ⟨g, p * 3 + 1, none⟩ = false := frozen_of_row w3 g _ _ _ hW3
  have f2 : w3.frozen? ⟨g, p * 3 + 2, none⟩ = false := frozen_of_row w3 g _ _ _ hW3
  have HW4 := Lib.hid (K4.out g w3 hW3)
  clear hb HW K3 hW3 K4
  go_wp2_with fail
  have HB5 := Lib.hid ((HB3.out.setCell (p := ⟨g, p * 3 + 1, none⟩) hg0 (.int .i64 size)).setCell (p := ⟨g, p * 3 + 2, none⟩) hg0 (.int .i64 (m + 1)))
  refine (K5.out g _ (HW4.out.isW (by rw [HRL.out]; omega))).mono ?_
  rintro e w5 ⟨rfl, hb⟩
  have HB6 := Lib.hid (HB5.out.trans (hb.mono HB5.out.size))
  have HW5 := Lib.hid ((HW4.out.isW (by rw [HRL.out]; omega)).below hb)
  clear hb HW4 K5 q0 q1 q2 f1 f2 HB5
  by_cases hm2 : mayW (rawW l key size)
  · rw [decide_eq_true hm2]
    have HNO2 := Lib.hid (show noteW l key size = rawW l key size by rw [HNO.out, if_pos hm2])
    clear hm2 k2
    go_wp2_with fail
    go_ret
    exact ⟨_, n, by rw [HNO2.out, HRL.out]; rfl, by rw [HNO2.out, HRL.out]; exact Nat.le_refl _, by rw [HNO2.out]; exact HW5.out, HB6.out⟩
  · rw [decide_eq_false hm2]
    have HNO2 := Lib.hid (show noteW l key size = l by rw [HNO.out, if_neg hm2])
    clear hm2
    go_wp2_with fail
    refine (k2 _ (IW.out.below HB6.out)).mono ?_
    rintro e w6 ⟨rfl, hW, hb⟩
    have HB7 := Lib.hid (HB6.out.trans (hb.mono HB6.out.size))
    have HW6 := Lib.hid hW
    clear k2 hb hW
    go_wp2_with fail
    go_ret
    exact ⟨_, n, by rw [HNO2.out, HN.out]; rfl, by rw [HNO2.out, HN.out]; exact Nat.le_refl _, by rw [HNO2.out]; exact HW6.out.isW (by rw [HN.out]; omega), HB7.out⟩
theorem tune_Note {a : Option Addr} {n cap : Nat} {l : List Sn} {key : ByteArray} {size : Int} (hn : l.length = n) (hm : n ≤ 1000000) (w : World) (iW : IsW w a l) :
    Calls Tryd.prog 15 #[.slice a n cap, .string key, .int .i64 size] w (NoteEnd w (noteW l key size)) := by
  by_cases hmay : mayW l
  · cases hit : hitW l key with
    | true => exact note_hit hn hmay hit w iW
    | false => exact note_miss hn hmay hit w iW
  · have e : noteW l key size = l := by unfold noteW; rw [if_neg (fun h => hmay h.1)]
    rw [e]
    exact note_not hn hm hmay w iW
end Go.Proofs.YtejipmkbjmcnaaaDoor
