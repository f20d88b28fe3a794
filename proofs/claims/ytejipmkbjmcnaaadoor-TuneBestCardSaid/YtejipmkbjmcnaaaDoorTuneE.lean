/- The walk of BinarySearchFunc. -/
import Derived.Test.YtejipmkbjmcnaaaDoorTuneD
set_option linter.unusedVariables false
set_option maxRecDepth 100000
set_option maxHeartbeats 2000000
namespace Go.Proofs.YtejipmkbjmcnaaaDoor
open Go.RowKit Go.Shelf
attribute [local go_sem ↓] lt_alloc

theorem slices_search {a : Option Addr} {n cap p : Nat} {l : List Sn} {key : ByteArray} (hn : l.length = n) (hm : n ≤ 1000000) (hp : p ≤ n) (hlo : ∀ j, j < p → ltB (wAt l j).key key = true) (hhi : ∀ j, p ≤ j → j < n → ltB (wAt l j).key key = false)
    (w : World) (iW : IsW w a l) :
    Calls Tryd.prog 30 #[.slice a n cap, .string key, .func (.func 31) #[] #[]] w fun e w' => e = .returned (.tuple #[.int .i64 p, .bool (decide (p < n) && eqB (wAt l p).key key)]) ∧ Below w.heap.size w w' := by
  obtain ⟨r, hr⟩ : ∃ r, (decide (p < n) && eqB (wAt l p).key key) = r := ⟨_, rfl⟩
  rw [hr]
  have HR := Lib.hid hr
  clear hr
  have IW := Lib.hid iW
  have HN := Lib.hid hn
  have HLO := Lib.hid hlo
  have HHI := Lib.hid hhi
  have kc := fun (k : ByteArray) (z m : Int) w => tune_note1 k z m key w
  clear iW hn hlo hhi
  go_enter Tryd.func30, Tryd.ntmps30
  go_wp2_with fail
  go_loopw [9, 10] (fun iv jv wr => ∃ i j : Nat, i ≤ p ∧ p ≤ j ∧ j ≤ n ∧ iv = .int .i64 i ∧ jv = .int .i64 j ∧ Below w.heap.size w wr) (fun iv jv _ => (intOf jv).toNat - (intOf iv).toNat)
  case atStart => exact ⟨0, n, Nat.zero_le _, hp, Nat.le_refl _, rfl, rfl, Below.refl _ _⟩
  case round =>
    obtain ⟨i, j, hi, hj, hjn, rfl, rfl, hB⟩ := hrel
    by_cases hlt : i < j
    · obtain ⟨h, hh⟩ : ∃ h : Nat, ((i : Int) + j) / 2 = h := ⟨(i + j) / 2, by omega⟩
      have hih : i ≤ h := by omega
      have hhj : h < j := by omega
      have hhn : (h : Int) < n := by omega
      obtain ⟨ab, ao, rfl, _, q0, q1, q2⟩ := (IW.out.below hB).row (i := h) (by rw [HN.out]; omega)
      by_cases hhp : h < p
      · have hd : decide (cmpB (wAt l h).key key < 0) = true := by rw [cmpB_lt]; exact HLO.out h hhp
        generalize (wAt l h).key = k at *
        generalize (wAt l h).size = z at *
        generalize (wAt l h).n = m at *
        generalize hcm : cmpB k key = c at *
        have kc' := kc k z m
        rw [hcm] at kc'
        clear hcm kc
        go_wp2_with fail
        refine (kc' _).mono ?_
        rintro e w2 ⟨rfl, hb⟩
        have hB2 := Lib.hid (hB.trans (hb.mono hB.size))
        clear hb kc' q0 q1 q2
        go_wp2_with fail
        exact ⟨⟨h + 1, j, by omega, hj, hjn, by go_num, rfl, hB2.out⟩, by simp [intOf]; omega⟩
      · have hd : decide (cmpB (wAt l h).key key < 0) = false := by rw [cmpB_lt]; exact HHI.out h (by omega) (by omega)
        generalize (wAt l h).key = k at *
        generalize (wAt l h).size = z at *
        generalize (wAt l h).n = m at *
        generalize hcm : cmpB k key = c at *
        have kc' := kc k z m
        rw [hcm] at kc'
        clear hcm kc
        go_wp2_with fail
        refine (kc' _).mono ?_
        rintro e w2 ⟨rfl, hb⟩
        have hB2 := Lib.hid (hB.trans (hb.mono hB.size))
        clear hb kc' q0 q1 q2
        go_wp2_with fail
        exact ⟨⟨i, h, hi, by omega, by omega, rfl, rfl, hB2.out⟩, by simp [intOf]; omega⟩
    · obtain rfl : p = i := by omega
      obtain rfl : p = j := by omega
      by_cases hpn : p < n
      · obtain ⟨ab, ao, rfl, _, q0, q1, q2⟩ := (IW.out.below hB).row (i := p) (by rw [HN.out]; omega)
        have hd : (cmpB (wAt l p).key key == 0) = eqB (wAt l p).key key := cmpB_eq (HHI.out p (Nat.le_refl _) hpn)
        obtain rfl : eqB (wAt l p).key key = r := by rw [← HR.out, decide_eq_true hpn, Bool.true_and]
        have d2 : decide ((p : Int) < n) = true := decide_eq_true (by omega)
        clear HR
        generalize hbb : eqB (wAt l p).key key = b at *
        have HBB := Lib.hid hbb
        clear hbb
        generalize hkk : (wAt l p).key = k at *
        have HKK := Lib.hid hkk
        clear hkk
        generalize (wAt l p).size = z at *
        generalize (wAt l p).n = m at *
        generalize hcm : cmpB k key = c at *
        have kc' := kc k z m
        rw [hcm] at kc'
        clear hcm kc
        go_wp2_with fail
        refine (kc' _).mono ?_
        rintro e w2 ⟨rfl, hb⟩
        have hB2 := Lib.hid (hB.trans (hb.mono hB.size))
        clear hb kc' q0 q1 q2
        go_wp2_with fail
        go_ret2
        exact ⟨by first | rfl | (rw [HKK.out, HBB.out]; rfl) | (rw [HBB.out]; rfl), hB2.out⟩
      · obtain rfl : false = r := by rw [← HR.out, decide_eq_false hpn, Bool.false_and]
        have d2 : decide ((p : Int) < n) = false := decide_eq_false (by omega)
        clear HR
        go_wp2_with fail
        go_ret2
        exact ⟨rfl, hB⟩
end Go.Proofs.YtejipmkbjmcnaaaDoor
