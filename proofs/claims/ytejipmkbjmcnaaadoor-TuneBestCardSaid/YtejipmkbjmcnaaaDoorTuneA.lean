/- The walk of Few; the windows of awake, reckoned. -/
import Derived.Test.YtejipmkbjmcnaaaDoorTuneR
import Derived.Test.YtejipmkbjmcnaaaDoorTuneQ
import Derived.Test.YtejipmkbjmcnaaaDoorTuneH
set_option linter.unusedVariables false
set_option maxRecDepth 100000
set_option maxHeartbeats 2000000
namespace Go.Proofs.YtejipmkbjmcnaaaDoor
open Go.RowKit Go.Shelf
attribute [local go_sem ↓] lt_alloc

def FewP (l : List Sn) (most : Int) : Prop := (∀ i, i < l.length → (wAt l i).key.size ≤ 100) ∧ (l.length : Int) ≤ most
instance (l : List Sn) (most : Int) : Decidable (FewP l most) := by unfold FewP; infer_instance
theorem ref21_Few {a : Option Addr} {n cap : Nat} {l : List Sn} {most : Int} (hn : l.length = n) (w : World) (iW : IsW w a l) :
    Calls Tryd.prog 11 #[.slice a n cap, .int .i64 most] w fun e w' => e = .returned (.bool (decide (FewP l most))) ∧ Below w.heap.size w w' := by
  obtain ⟨r, hr⟩ : ∃ r, decide (FewP l most) = r := ⟨_, rfl⟩
  rw [hr]
  have HR := Lib.hid hr
  have IW := Lib.hid iW
  have HN := Lib.hid hn
  clear hr iW hn
  go_enter Tryd.func11, Tryd.ntmps11
  go_wp2_with fail
  go_loopw [5] (fun iv wr => ∃ i : Nat, i ≤ n ∧ iv = .int .i64 i ∧ Below w.heap.size w wr ∧ Hid (∀ j, j < i → (wAt l j).key.size ≤ 100)) (fun iv _ => n - (intOf iv).toNat)
  case atStart => exact ⟨0, Nat.zero_le _, rfl, Below.refl _ _, Lib.hid fun j hj => absurd hj (Nat.not_lt_zero j)⟩
  case round =>
    obtain ⟨i, hi, rfl, hB, HALL⟩ := hrel
    by_cases hlt : i < n
    · obtain ⟨ab, ao, rfl, h63, a0, _, _⟩ := (IW.out.below hB).row (i := i) (by rw [HN.out]; exact hlt)
      rw [HN.out] at h63
      generalize hk : (wAt l i).key = k at *
      have HK := Lib.hid hk
      clear hk
      by_cases hs : k.size ≤ 100
      · have d1 : decide ((100 : Int) < k.size) = false := decide_eq_false (by omega)
        have d2 : decide (100 < k.size) = false := decide_eq_false (by omega)
        have HS := Lib.hid hs
        clear hs
        go_wp2_with fail
        refine ⟨⟨i + 1, by omega, by go_num, hB, Lib.hid fun j hj => ?_⟩, by simp [intOf]; omega⟩
        rcases Nat.lt_succ_iff_lt_or_eq.1 hj with h | rfl
        · exact HALL.out j h
        · rw [HK.out]; exact HS.out
      · have d1 : decide ((100 : Int) < k.size) = true := decide_eq_true (by omega)
        have d2 : decide (100 < k.size) = true := decide_eq_true (by omega)
        have HF := Lib.hid (show r = false by rw [← HR.out]; exact decide_eq_false fun h => hs (by have := h.1 i (by rw [HN.out]; exact hlt); rwa [HK.out] at this))
        clear hs
        go_wp2_with fail
        go_ret
        exact ⟨by rw [HF.out]; rfl, hB⟩
    · obtain rfl : n = i := by omega
      by_cases hm : (n : Int) ≤ most
      · have d1 : decide ((n : Int) ≤ most) = true := decide_eq_true hm
        have HT := Lib.hid (show r = true by rw [← HR.out]; exact decide_eq_true ⟨fun j hj => HALL.out j (by rw [← HN.out]; exact hj), by rw [HN.out]; exact hm⟩)
        clear hm
        go_wp2_with fail
        go_ret
        exact ⟨by rw [HT.out]; rfl, hB⟩
      · have d1 : decide ((n : Int) ≤ most) = false := decide_eq_false hm
        have HT := Lib.hid (show r = false by rw [← HR.out]; exact decide_eq_false fun h => hm (by rw [← HN.out]; exact h.2))
        clear hm
        go_wp2_with fail
        go_ret
        exact ⟨by rw [HT.out]; rfl, hB⟩
/-! The windows of awake. -/
def kA : ByteArray := ⟨#[97]⟩
def kB : ByteArray := ⟨#[98]⟩
def kC : ByteArray := ⟨#[99]⟩
theorem lt_data (a b : ByteArray) : ltB a b = Op.bytesLess a.data.toList b.data.toList := by unfold ltB; rw [ByteArray.toList_eq, ByteArray.toList_eq]
theorem eq_data (a b : ByteArray) : eqB a b = (a.data.toList == b.data.toList) := by unfold eqB; rw [ByteArray.toList_eq, ByteArray.toList_eq]
theorem ltAB : ltB kA kB = true := by rw [lt_data]; decide +kernel
theorem ltBA : ltB kB kA = false := by rw [lt_data]; decide +kernel
theorem ltBB : ltB kB kB = false := ltB_irrefl _
theorem ltAC : ltB kA kC = true := by rw [lt_data]; decide +kernel
theorem ltBC : ltB kB kC = true := by rw [lt_data]; decide +kernel
theorem eqAB : eqB kA kB = false := by rw [eq_data]; decide +kernel
theorem eqBA : eqB kB kA = false := by rw [eq_data]; decide +kernel
theorem eqBB : eqB kB kB = true := eqB_iff.2 rfl
def W1 : List Sn := [⟨kB, 10, 1⟩]
def W2 : List Sn := [⟨kA, 7, 1⟩, ⟨kB, 10, 1⟩]
def W3 : List Sn := [⟨kA, 7, 1⟩, ⟨kB, 12, 2⟩]
theorem mayNil : mayW [] := ⟨by decide, fun j hj => absurd hj (Nat.not_lt_zero j)⟩
theorem mayOne {s : Sn} (h : okNum s) : mayW [s] := ⟨by simp, fun j hj => by
  have hj : j < 1 := hj
  obtain rfl : j = 0 := by omega
  exact ⟨h, fun h0 => absurd h0 (by decide)⟩⟩
theorem mayTwo {s t : Sn} (h : okNum s) (k : okNum t) (hl : ltB s.key t.key = true) : mayW [s, t] := ⟨by simp, fun j hj => by
  have hj : j < 2 := hj
  rcases (show j = 0 ∨ j = 1 by omega) with rfl | rfl
  · exact ⟨h, fun h0 => absurd h0 (by decide)⟩
  · exact ⟨k, fun _ => hl⟩⟩
theorem may1 : mayW W1 := mayOne ⟨by decide, by decide, by decide, by decide⟩
theorem may2 : mayW W2 := mayTwo ⟨by decide, by decide, by decide, by decide⟩ ⟨by decide, by decide, by decide, by decide⟩ ltAB
theorem may3 : mayW W3 := mayTwo ⟨by decide, by decide, by decide, by decide⟩ ⟨by decide, by decide, by decide, by decide⟩ ltAB
theorem raw1 : rawW [] kB 10 = W1 := by unfold rawW; rw [if_neg (by decide)]; rfl
theorem note1 : noteW [] kB 10 = W1 := by
  unfold noteW
  rw [raw1, if_pos ⟨mayNil, may1⟩]
theorem pos2 : posW W1 kA = 0 := by unfold posW W1; rw [List.takeWhile_cons, if_neg (by rw [ltBA]; decide)]; rfl
theorem raw2 : rawW W1 kA 7 = W2 := by
  have h : hitW W1 kA = false := by unfold hitW; rw [pos2]; show (true && eqB kB kA) = false; rw [eqBA]; rfl
  rw [rawW_miss h, pos2]; rfl
theorem note2 : noteW W1 kA 7 = W2 := by unfold noteW; rw [raw2, if_pos ⟨may1, may2⟩]
theorem pos3 : posW W2 kB = 1 := by
  unfold posW W2
  rw [List.takeWhile_cons, if_pos ltAB, List.takeWhile_cons, if_neg (by rw [ltBB]; decide)]; rfl
theorem raw3 : rawW W2 kB 12 = W3 := by
  have h : hitW W2 kB = true := by unfold hitW; rw [pos3]; show (true && eqB kB kB) = true; rw [eqBB]; rfl
  rw [(rawW_hit h).2, pos3]; rfl
theorem note3 : noteW W2 kB 12 = W3 := by unfold noteW; rw [raw3, if_pos ⟨may2, may3⟩]
theorem pos4 : posW W3 kC = 2 := by
  unfold posW W3
  rw [List.takeWhile_cons, if_pos ltAC, List.takeWhile_cons, if_pos ltBC]; rfl
theorem note4 : noteW W3 kC 0 = W3 := by
  have h : hitW W3 kC = false := by unfold hitW; rw [pos4]; rfl
  have hr : rawW W3 kC 0 = W3 ++ [⟨kC, 0, 1⟩] := by rw [rawW_miss h, pos4]; rfl
  unfold noteW
  rw [if_neg]
  rintro ⟨_, hm⟩
  rw [hr] at hm
  have := (hm.2 2 (by decide)).1.1
  exact absurd this (by decide)
def X1 : List Sn := [⟨⟨#[]⟩, 10, 5⟩]
def X2 : List Sn := [⟨⟨#[]⟩, 1, 1⟩]
def X3 : List Sn := [⟨⟨#[]⟩, 0, 0⟩]
def gA (i : Nat) : Int := ([1, 1000, 0] : List Int).getD i 0
theorem mayX1 : mayW X1 := mayOne ⟨by decide, by decide, by decide, by decide⟩
theorem mayX2 : mayW X2 := mayOne ⟨by decide, by decide, by decide, by decide⟩
theorem mayX3 : ¬ mayW X3 := fun h => absurd (h.2 0 (by decide)).1.1 (by decide)
def scoreQ (l : List Sn) (limit most : Int) : Int := sumW (scoreF l limit (2 ^ timeW l limit most)) l.length
theorem bestX : bestR X1 100 gA 3 = bestG gA (fun limit => scoreQ X1 limit 100) 3 := by
  have e : (fun limit => scoreW X1 limit 100) = fun limit => scoreQ X1 limit 100 := by
    funext limit
    unfold scoreW scoreQ
    rw [if_pos mayX1]
  unfold bestR
  rw [if_pos mayX1, e]
theorem bestX' : (bestR X1 100 gA 3).1 = 1000 ∧ (bestR X1 100 gA 3).2.2 = true := by rw [bestX]; decide +kernel
theorem bestY : bestR W3 100 (fun _ => 0) 1 = (0, 0, false) := by unfold bestR; rw [if_pos may3]; rfl
theorem partX : partO (oddsW ⟨⟨#[]⟩, 1, 1⟩ 4611686018427387904) 1 = 2147483648 := by decide +kernel
theorem partY : partO (oddsW ⟨⟨#[]⟩, 0, 0⟩ 1) 1 = 0 := by decide +kernel
theorem fillX : (if mayW X2 then fillW X2 4611686018427387904 1 else 0) = 2147483648 := by rw [if_pos mayX2]; decide +kernel
theorem timeX : (if mayW W3 then timeW W3 1000 19 else 0) = 32 := by rw [if_pos may3]; decide +kernel
theorem timeY : (if mayW W3 then timeW W3 1000 0 else 0) = 0 := by rw [if_pos may3]; decide +kernel
end Go.Proofs.YtejipmkbjmcnaaaDoor
