/- The walks of the document's answer for the layer expo: powers, bits, Of, Ratio. -/
import Derived.Test.YtejipmkbjmcnaaaDoorExpoC
import Derived.Test.YtejipmkbjmcnaaaDoorRatioR
import Derived.Test.YtejipmkbjmcnaaaDoorFixedR
import Derived.LoopTactic
set_option linter.unusedVariables false
namespace Go.Proofs.YtejipmkbjmcnaaaDoor
open Go.RowKit Go.Shelf
attribute [local go_sem ↓] lt_alloc

theorem div_pow (x : Int) (k : Nat) : x / 2 ^ k / 2 = x / 2 ^ (k + 1) := by rw [Int.ediv_ediv_of_nonneg (Int.pow_nonneg (by decide)), Int.pow_succ]
set_option maxRecDepth 100000 in
theorem ref5_bit (X : Int) (n : Nat) (X0 : 0 ≤ X) (X1 : X < 18446744073709551616) (hn : n ≤ 36) (w : World) :
    Calls Tryd.prog 66 #[.int .u64 X, .int .i64 n] w fun e w' => e = .returned (.int .u64 (X / 2 ^ n % 2)) ∧ w = w' := by
  go_enter Tryd.func66, Tryd.ntmps66
  go_wp2_with fail
  go_loop [0, 5] (fun xv iv => ∃ k : Nat, k ≤ n ∧ iv = .int .i64 k ∧ xv = .int .u64 (X / 2 ^ k)) (fun _ iv => n - (intOf iv).toNat)
  case atStart => exact ⟨0, Nat.zero_le _, rfl, by simp⟩
  case round =>
    obtain ⟨k, hk, rfl, rfl⟩ := hrel
    have q0 : 0 ≤ X / 2 ^ k := Int.ediv_nonneg X0 (Int.pow_nonneg (by decide))
    have q1 : X / 2 ^ k ≤ X := Int.ediv_le_self _ X0
    have HD := Lib.hid (div_pow X k)
    by_cases hlt : k < n
    · generalize X / 2 ^ k = Y at *
      go_wp2_with fail
      exact ⟨⟨k + 1, by omega, by go_num, by rw [HD.out]⟩, by simp [intOf]; omega⟩
    · obtain rfl : k = n := by omega
      go_wp2_with fail
      go_ret
      exact ⟨rfl, rfl⟩
theorem tab_get {n : Nat} (h : n < 37) : (pwTab.map fun z => Value.int .u64 z).toArray[n]? = some (.int .u64 (pw n)) := by
  have hl : n < pwTab.length := h
  rw [List.getElem?_toArray, List.getElem?_map, List.getElem?_eq_getElem hl]
  unfold pw
  rw [List.getD_eq_getElem?_getD, List.getElem?_eq_getElem hl]
  rfl
theorem wpList_build_to {P : Program} {ops : Array Oper} {rest : List Oper} {o : Oper} {a : Act} {w : World} {Q : Exit → Act → World → Prop} (hg : o.guard = none) (t : TypeId) (parts : Array (Nat × Operand)) (ho : o.op = .build t parts)
    (cells : Array Value) (hc : P.built t (parts.map fun (i, x) => (i, a.eval x)).toList = some cells)
    (h : wpList P ops Q rest (a.put o.dst (.agg cells)) w) : wpList P ops Q (o :: rest) a w :=
  wpList_build hg t parts ho (by rw [hc]; rfl) (by rw [hc]; exact h)
def tabC : Array Value := (pwTab.map fun z => Value.int .u64 z).toArray
set_option maxRecDepth 100000 in
set_option maxHeartbeats 400000 in
theorem ref5_power (n : Nat) (hn : n < 37) (w : World) :
    Calls Tryd.prog 69 #[.int .i64 n] w fun e w' => e = .returned (.int .u64 (pw n)) ∧ Below w.heap.size w w' := by
  have hc : ∀ old, ((w.alloc (.cells old 85)).setRow w.heap.size tabC).cell? ⟨w.heap.size, n, none⟩ = some (.int .u64 (pw n)) :=
    fun old => (cell_setRow_same _ _ _ old tabC 85 (0, 0) (heap_alloc_new w _)).trans (tab_get hn)
  have hb : ∀ old, Below w.heap.size w ((w.alloc (.cells old 85)).setRow w.heap.size tabC) :=
    fun old => ⟨rfl, rfl, rfl, by simp, fun k hk => (setRow_other _ _ _ _ (by omega)).trans (heap_alloc_old w _ hk)⟩
  go_enter Tryd.func69, Tryd.ntmps69
  go_wp2_with (first
    | (refine wpList_build_to rfl _ _ rfl tabC (by kernel_rfl) ?_)
    | (refine wpList_store_row rfl _ _ _ rfl w.heap.size tabC rfl rfl 85 _ (heap_alloc_new w _) (by kernel_rfl) (by kernel_rfl) (by kernel_rfl) ?_))
  go_ret
  exact ⟨rfl, hb _⟩
set_option maxRecDepth 100000 in
set_option maxHeartbeats 1000000 in
theorem ref5_Of (X : Int) (X0 : 0 ≤ X) (X1 : X < 18446744073709551616) (w : World) :
    Calls Tryd.prog 55 #[.int .u64 X] w fun e w' => e = .returned (.int .u64 (exV X)) ∧ Below w.heap.size w w' := by
  rcases Int.lt_or_le X 137438953472 with hX | hX
  · have hV : exH X 37 / 1073741824 = exV X := by rw [exH_fin]; unfold exV; rw [if_neg (by omega)]
    have HV := Lib.hid hV
    clear hV
    go_enter Tryd.func55, Tryd.ntmps55
    go_wp2_with fail
    go_loopw [3, 4] (fun lv iv wr => ∃ i : Nat, i ≤ 37 ∧ iv = .int .i64 (36 - (i : Int)) ∧ lv = .int .u64 (exH X i) ∧ Below w.heap.size w wr) (fun _ iv _ => (intOf iv + 1).toNat)
    case atStart => exact ⟨0, by omega, rfl, rfl, Below.refl _ _⟩
    case round =>
      obtain ⟨i, hi, rfl, rfl, hB⟩ := hrel
      have hS := hB.size
      by_cases hlt : i < 37
      · obtain ⟨l0, l1⟩ := exH_bd X i (by omega)
        have hcast : ((36 - i : Nat) : Int) = 36 - (i : Int) := by omega
        have k1 := fun w => ref5_bit X (36 - i) X0 X1 (by omega) w
        rcases (show X / 2 ^ (36 - i) % 2 = 0 ∨ X / 2 ^ (36 - i) % 2 = 1 by omega) with hb | hb
        · have hs : exH X (i + 1) = exH X i := by rw [exH]; unfold exStep; rw [hb, if_neg (by decide)]
          have HS := Lib.hid hs
          rw [hb, hcast] at k1
          clear hs hb
          generalize exH X i = l at *
          go_wp2_with fail
          refine (k1 _).mono ?_
          rintro r _ ⟨rfl, rfl⟩
          go_wp2_with fail
          exact ⟨⟨i + 1, by omega, by first | rfl | (congr 1; omega) | (simp; omega), by rw [HS.out], hB⟩, by simp [intOf]; omega⟩
        · have hs : exH X (i + 1) = exH X i * pw (36 - i) / 4611686018427387904 := by rw [exH]; unfold exStep; rw [hb, if_pos rfl]
          have HS := Lib.hid hs
          obtain ⟨p0, p1⟩ := pw_bd' (36 - i)
          have k2 := fun w => ref5_power (36 - i) (by omega) w
          have k3 := fun w => ref2_Mul (exH X i) (pw (36 - i)) l0 (by omega) p0 (by omega) w
          have k4 := fun w => ref2_Shr (wHi (exH X i * pw (36 - i))) (wLo (exH X i * pw (36 - i))) 62 (wHi_bd _).1 (wHi_bd _).2 (wLo_bd _).1 (wLo_bd _).2 (by decide) (by decide) w
          rw [shr62 l0 l1 p0 p1] at k4
          rw [hb, hcast] at k1
          rw [hcast] at k2
          clear hs hb
          generalize exH X i * pw (36 - i) / 4611686018427387904 = nl at *
          generalize wHi (wShr (wN (wHi (exH X i * pw (36 - i))) (wLo (exH X i * pw (36 - i)))) 62) = nh at *
          generalize wHi (exH X i * pw (36 - i)) = mh at *
          generalize wLo (exH X i * pw (36 - i)) = ml at *
          generalize exH X i = l at *
          generalize pw (36 - i) = p at *
          have hfd : ∀ (x y : Int) (w : World), (Instr.field 77 (.agg #[.int .u64 x, .int .u64 y]) 1).run Tryd.prog w = .ok (.int .u64 y) w := fun _ _ _ => by first | kernel_rfl | rfl
          go_wp2_with fail
          refine (k1 _).mono ?_
          rintro r _ ⟨rfl, rfl⟩
          go_wp2_with fail
          refine (k2 _).mono ?_
          rintro r w2 ⟨rfl, hb2⟩
          have hB2 : Below w.heap.size w w2 := by repeat' (first | (with_reducible exact Below.refl _ _) | (with_reducible assumption) | (with_reducible refine Below.trans ?_ (Below.mono hb2 ?_)) | (with_reducible refine Below.alloc ?_ ?_ _) | (with_reducible refine below_drewN ?_ _) | (with_reducible refine Below.drew ?_) | (with_reducible refine Below.setCell ?_ ?_ _) | go_size | omega | (simp; omega))
          have hS2 := hB2.size
          clear hb2
          go_wp2_with fail
          refine (k3 _).mono ?_
          rintro r w3 ⟨rfl, hb3⟩
          have hB3 : Below w.heap.size w w3 := by repeat' (first | (with_reducible exact Below.refl _ _) | (with_reducible assumption) | (with_reducible refine Below.trans ?_ (Below.mono hb3 ?_)) | (with_reducible refine Below.alloc ?_ ?_ _) | (with_reducible refine below_drewN ?_ _) | (with_reducible refine Below.drew ?_) | (with_reducible refine Below.setCell ?_ ?_ _) | go_size | omega | (simp; omega))
          have hS3 := hB3.size
          clear hb3
          go_wp2_with fail
          refine (k4 _).mono ?_
          rintro r w4 ⟨rfl, hb4⟩
          have hB4 : Below w.heap.size w w4 := by repeat' (first | (with_reducible exact Below.refl _ _) | (with_reducible assumption) | (with_reducible refine Below.trans ?_ (Below.mono hb4 ?_)) | (with_reducible refine Below.alloc ?_ ?_ _) | (with_reducible refine below_drewN ?_ _) | (with_reducible refine Below.drew ?_) | (with_reducible refine Below.setCell ?_ ?_ _) | go_size | omega | (simp; omega))
          have hS4 := hB4.size
          clear hb4
          go_wp2_with fail
          exact ⟨⟨i + 1, by omega, by first | rfl | (congr 1; omega) | (simp; omega), by rw [HS.out], hB4⟩, by simp [intOf]; omega⟩
      · obtain rfl : i = 37 := by omega
        obtain ⟨l0, l1⟩ := exH_bd X 37 (by decide)
        go_wp2_with fail
        go_ret
        exact ⟨ret_u HV.out, hB⟩
  · have e : exV X = 0 := by unfold exV; rw [if_pos hX]
    rw [e]
    go_enter Tryd.func55, Tryd.ntmps55
    go_wp2_with fail
    go_ret
    exact ⟨rfl, Below.refl _ _⟩
theorem ref5_Ratio (a b : Int) (a0 : 0 ≤ a) (a1 : a < 18446744073709551616) (b0 : 0 ≤ b) (b1 : b < 18446744073709551616) (w : World) :
    Calls Tryd.prog 37 #[.int .u64 a, .int .u64 b] w fun e w' => e = .returned (.int .u64 (exR a b)) ∧ Below w.heap.size w w' := by
  have k1 := fun w => ref4_Of a b a0 a1 b0 b1 w
  obtain ⟨v0, v1⟩ := fx_bd a b a0 b0
  have hr : exR a b = if fxE a b = 0 then exV (fxV a b) else 0 := rfl
  generalize exR a b = r at *
  generalize fxV a b = v at *
  generalize fxE a b = e at *
  by_cases he : e = 0
  · rw [if_pos he] at hr
    subst he hr
    go_enter Tryd.func37, Tryd.ntmps37
    go_wp2_with fail
    refine (k1 _).mono ?_
    rintro r w1 ⟨rfl, hb1⟩
    have hB1 : Below w.heap.size w w1 := by repeat' (first | (with_reducible exact Below.refl _ _) | (with_reducible assumption) | (with_reducible refine Below.trans ?_ (Below.mono hb1 ?_)) | (with_reducible refine Below.alloc ?_ ?_ _) | (with_reducible refine below_drewN ?_ _) | (with_reducible refine Below.drew ?_) | (with_reducible refine Below.setCell ?_ ?_ _) | go_size | omega | (simp; omega))
    have hS1 := hB1.size
    clear hb1
    go_wp2_with fail
    refine (ref5_Of v v0 v1 _).mono ?_
    rintro r w2 ⟨rfl, hb2⟩
    have hB2 : Below w.heap.size w w2 := by repeat' (first | (with_reducible exact Below.refl _ _) | (with_reducible assumption) | (with_reducible refine Below.trans ?_ (Below.mono hb2 ?_)) | (with_reducible refine Below.alloc ?_ ?_ _) | (with_reducible refine below_drewN ?_ _) | (with_reducible refine Below.drew ?_) | (with_reducible refine Below.setCell ?_ ?_ _) | go_size | omega | (simp; omega))
    have hS2 := hB2.size
    clear hb2
    go_wp2_with fail
    go_ret
    exact ⟨rfl, hB2⟩
  · rw [if_neg he] at hr
    subst hr
    have he1 : (e != 0) = true := by simpa using he
    clear he
    go_enter Tryd.func37, Tryd.ntmps37
    go_wp2_with fail
    refine (k1 _).mono ?_
    rintro r w1 ⟨rfl, hb1⟩
    have hB1 : Below w.heap.size w w1 := by repeat' (first | (with_reducible exact Below.refl _ _) | (with_reducible assumption) | (with_reducible refine Below.trans ?_ (Below.mono hb1 ?_)) | (with_reducible refine Below.alloc ?_ ?_ _) | (with_reducible refine below_drewN ?_ _) | (with_reducible refine Below.drew ?_) | (with_reducible refine Below.setCell ?_ ?_ _) | go_size | omega | (simp; omega))
    have hS1 := hB1.size
    clear hb1
    go_wp2_with fail
    go_ret
    exact ⟨rfl, hB1⟩
end Go.Proofs.YtejipmkbjmcnaaaDoor
