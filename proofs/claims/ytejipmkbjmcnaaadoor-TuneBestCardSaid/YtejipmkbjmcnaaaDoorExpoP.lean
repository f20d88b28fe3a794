/- The table that is laid reads as the table of ExpoS. -/
import Derived.Test.YtejipmkbjmcnaaaDoorExpoC
import Derived.OpenShut
import Derived.ChangeVars
import Derived.ChangeArms
import Derived.FnData
set_option linter.unusedVariables false
namespace Go.Proofs.YtejipmkbjmcnaaaDoor
open Go.RowKit

theorem laid_list : (Rows.laid_linhay_expo_powers : DataW Unit) = .agg (pwTab.map fun z => .lit (.int .u64 z)) := rfl
theorem tab_at {k : Nat} (hk : k < 37) : (pwTab.map fun z => (DataW.lit (Lit.int .u64 z) : DataW Unit))[k]? = some (.lit (.int .u64 (pw k))) := by
  have hl : k < pwTab.length := hk
  rw [List.getElem?_map, List.getElem?_eq_getElem hl]
  unfold pw
  rw [List.getD_eq_getElem?_getD, List.getElem?_eq_getElem hl]
  rfl
theorem g_powers : Tryd.prog.globalNamed "linhay/expo.powers" = some 0 := by kernel_rfl
theorem g_type : (Tryd.prog.globals[0]?).map (·.type) = some 85 := by kernel_rfl
theorem c_one : Tryd.prog.cellsOf 23 = 1 := by kernel_rfl
theorem c_all : Tryd.prog.cellsOf 85 = 37 := by kernel_rfl
theorem powers_of_laid {W : World} (h : laidMet Tryd.prog [("linhay/expo.powers", Rows.laid_linhay_expo_powers)] W) : PW W := by
  obtain ⟨ps, ⟨g, t, cs, fuel, p, q, hg, ht, hvar, hd, _, _⟩, _⟩ := h
  obtain rfl := Option.some.inj (g_powers.symm.trans hg)
  obtain rfl := Option.some.inj (g_type.symm.trans ht)
  obtain ⟨xs, m, rfl, hx, hl, hn, he⟩ := DataW.trod_array Tryd.underlying85 hd
  rw [c_all] at hl
  intro k hk
  have hk' := he k hk
  rw [c_one, Nat.mul_one] at hk'
  have hdrop : (cs.toList.drop k).take 1 = [cs.toList[k]] := by
    rw [List.drop_eq_getElem_cons (by omega)]; rfl
  rw [hdrop, List.getElem?_eq_getElem (by omega)] at hk'
  obtain ⟨v, ev, ex, wv⟩ := DataW.trod_int Tryd.underlying23 hk'
  have hagg : (Rows.laid_linhay_expo_powers : DataW Unit) = .agg (xs.map (·.1)) := congrArg Prod.fst hx
  rw [laid_list] at hagg
  injection hagg with hagg
  have h1 := tab_at hk
  rw [hagg, List.getElem?_map, List.getElem?_eq_getElem (by omega), ex] at h1
  simp at h1
  rw [World.var?_cell hg hvar k]
  have h2 : cs[k]? = some cs.toList[k] := by rw [← Array.getElem?_toList, List.getElem?_eq_getElem (by omega)]
  rw [h2]
  have h3 : cs.toList[k] = Value.int .u64 v := by simpa using ev
  rw [h3, h1]
end Go.Proofs.YtejipmkbjmcnaaaDoor
