/- The laws' awake. -/
import Derived.Test.YtlhjacgocggbcaaGdsR
set_option linter.unusedVariables false
set_option maxRecDepth 100000
set_option maxHeartbeats 4000000
namespace Go.Proofs.Ytlhjacgocggbcaa
open Go.RowKit Go.Shelf
attribute [local go_sem ↓] lt_alloc

def zW (i : Nat) : Int := ([1, 2, 1] : List Int).getD i 0
def cW (i : Nat) : Int := ([1, 4, 9] : List Int).getD i 0
def aW (i : Nat) : Nat := ([0, 1, 2, 1, 0] : List Nat).getD i 0
def hW (i : Nat) : Bool := ([false, false, false, true, false] : List Bool).getD i false
def oW (i : Nat) : List Nat := ([[], [], [0], [], [1]] : List (List Nat)).getD i []
theorem inK_list (k : IntKind) (l : List Int) (h0 : (Lit.int k 0).wf = true) (h : ∀ x ∈ l, (Lit.int k x).wf = true) : InK k (fun i => l.getD i 0) := fun i => by
  show (Lit.int k (l.getD i 0)).wf = true
  rw [List.getD_eq_getElem?_getD]
  by_cases hi : i < l.length
  · rw [List.getElem?_eq_getElem hi]; exact h _ (List.getElem_mem hi)
  · rw [List.getElem?_eq_none (by omega)]; exact h0
theorem zW_in : InK .i64 zW := inK_list .i64 [1, 2, 1] (by decide) (by decide)
theorem cW_in : InK .i64 cW := inK_list .i64 [1, 4, 9] (by decide) (by decide)
theorem runW : ∀ i, i < 5 → hitG zW cW 3 3 aW i = hW i ∧ goG zW cW 3 3 aW i = oW i := by decide +kernel
theorem mayW : mayP zW cW 3 3 := by decide +kernel
theorem paidW : ∀ H : Nat → Bool, (∀ i, i < 5 → H i = hW i) → paidS zW cW 3 3 5 (fun j => (aW j : Nat)) H 5 = 15728640 := fun H h => by
  have e : paidS zW cW 3 3 5 (fun j => (aW j : Nat)) hW 5 = 15728640 := by decide +kernel
  rw [← e]
  have h0 := h 0 (by decide); have h1 := h 1 (by decide); have h2 := h 2 (by decide); have h3 := h 3 (by decide); have h4 := h 4 (by decide)
  have hb : ∀ i, i < 5 → paidB 3 3 5 (fun j => (aW j : Nat)) H i = paidB 3 3 5 (fun j => (aW j : Nat)) hW i := fun i hi => by unfold paidB; rw [h i hi]
  simp only [paidS, hb 0 (by decide), hb 1 (by decide), hb 2 (by decide), hb 3 (by decide), hb 4 (by decide)]
theorem isK_lit {k : IntKind} {W : World} {g n : Nat} {c : Array Value} {t : TypeId} {Z : Nat → Int} (h : W.heap[g]? = some (.cells c t (0, 0))) (hc : ∀ i, i < n → c[i]? = some (.int k (Z i))) (hn : n ≤ 100) : IsK k W (some ⟨g, 0, none⟩) n Z :=
  Or.inr ⟨g, 0, rfl, by omega, fun i hi => by rw [Nat.zero_add]; exact (cell_of_row W g i c t (0, 0) h).trans (hc i hi)⟩
theorem zW_row : ∀ i, i < 3 → (#[Value.int .i64 1, .int .i64 2, .int .i64 1] : Array Value)[i]? = some (.int .i64 (zW i)) := fun i hi => by
  match i, hi with
  | 0, _ => rfl
  | 1, _ => rfl
  | 2, _ => rfl
theorem cW_row : ∀ i, i < 3 → (#[Value.int .i64 1, .int .i64 4, .int .i64 9] : Array Value)[i]? = some (.int .i64 (cW i)) := fun i hi => by
  match i, hi with
  | 0, _ => rfl
  | 1, _ => rfl
  | 2, _ => rfl
theorem aW_row : ∀ i, i < 5 → (#[Value.int .i64 0, .int .i64 1, .int .i64 2, .int .i64 1, .int .i64 0] : Array Value)[i]? = some (.int .i64 (aW i : Nat)) := fun i hi => by
  match i, hi with
  | 0, _ => rfl
  | 1, _ => rfl
  | 2, _ => rfl
  | 3, _ => rfl
  | 4, _ => rfl
theorem three_new (W : World) (o1 o2 o3 : Obj) : (((W.alloc o1).alloc o2).alloc o3).heap[W.heap.size]? = some o1 ∧ (((W.alloc o1).alloc o2).alloc o3).heap[W.heap.size + 1]? = some o2 ∧ (((W.alloc o1).alloc o2).alloc o3).heap[W.heap.size + 1 + 1]? = some o3 := by
  refine ⟨?_, ?_, ?_⟩
  · rw [heap_alloc_old _ _ (by simp; omega), heap_alloc_old _ _ (by simp)]; exact heap_alloc_new W o1
  · rw [heap_alloc_old _ _ (by simp)]
    have h := heap_alloc_new (W.alloc o1) o2
    rw [World.size_alloc] at h; exact h
  · have h := heap_alloc_new ((W.alloc o1).alloc o2) o3
    rw [World.size_alloc, World.size_alloc] at h; exact h
theorem one_row (k : IntKind) (v : Int) : ∀ i, i < 1 → (#[Value.int k v] : Array Value)[i]? = some (.int k v) := fun i hi => by
  match i, hi with
  | 0, _ => rfl
theorem rW_row : ∀ i, i < 2 → (#[Value.int .u64 7, .int .u64 3] : Array Value)[i]? = some (.int .u64 (([7, 3] : List Int).getD i 0)) := fun i hi => by
  match i, hi with
  | 0, _ => rfl
  | 1, _ => rfl
theorem nW_row : ∀ i, i < 2 → (#[Value.int .u64 2, .int .u64 0] : Array Value)[i]? = some (.int .u64 (([2, 0] : List Int).getD i 0)) := fun i hi => by
  match i, hi with
  | 0, _ => rfl
  | 1, _ => rfl
theorem rW_sub : SameK 2 2 (fun i => subS (([7, 3] : List Int).getD i 0) 5) (fun i => ([2, 0] : List Int).getD i 0) := by decide +kernel
theorem fiveW {W : World} {g y1 y2 : Nat} {t : TypeId} (h : W.heap[g]? = some (.cells #[.bool false, .slice none 0 0, .bool false, .slice none 0 0, .bool false, .slice (some ⟨y1, 0, none⟩) 1 1, .bool true, .slice none 0 0, .bool false, .slice (some ⟨y2, 0, none⟩) 1 1] t (0, 0)))
    (h1 : IsK .i64 W (some ⟨y1, 0, none⟩) 1 (fun _ => 0)) (h2 : IsK .i64 W (some ⟨y2, 0, none⟩) 1 (fun _ => 1)) : IsS W (some ⟨g, 0, none⟩) 5 hW oW := by
  refine Or.inr ⟨g, 0, rfl, by decide, fun j hj => ?_⟩
  have nil : OutsAt 0 W (.slice none 0 0) [] := OutsAt.nil 0 W
  have one : ∀ (y v : Nat), IsK .i64 W (some ⟨y, 0, none⟩) 1 (fun _ => (v : Int)) → OutsAt 0 W (.slice (some ⟨y, 0, none⟩) 1 1) [v] := fun y v h => by
    refine ⟨some ⟨y, 0, none⟩, 1, rfl, ?_, fun _ _ _ => Nat.zero_le _⟩
    rcases h with h | ⟨b, off, hh, h3, h4⟩
    · exact absurd h (by decide)
    · refine Or.inr ⟨b, off, hh, h3, fun i hi => ?_⟩
      have hi : i < 1 := hi
      obtain rfl : i = 0 := by omega
      exact h4 0 hi
  match j, hj with
  | 0, _ => exact ⟨cell_of_row W g _ _ _ _ h, _, cell_of_row W g _ _ _ _ h, nil⟩
  | 1, _ => exact ⟨cell_of_row W g _ _ _ _ h, _, cell_of_row W g _ _ _ _ h, nil⟩
  | 2, _ => exact ⟨cell_of_row W g _ _ _ _ h, _, cell_of_row W g _ _ _ _ h, one y1 0 h1⟩
  | 3, _ => exact ⟨cell_of_row W g _ _ _ _ h, _, cell_of_row W g _ _ _ _ h, nil⟩
  | 4, _ => exact ⟨cell_of_row W g _ _ _ _ h, _, cell_of_row W g _ _ _ _ h, one y2 1 h2⟩
theorem law18_awake (w : World) : Calls Try.prog 8 #[] w fun e w' => e = .returned (.bool true) ∧ Below w.heap.size w w' := by
  have k1 := fun (sa ca aa : Option Addr) w iZ iC iA => gds_Run_ok (most := 3) (sa := sa) (ca := ca) (aa := aa) (n := 3) (m := 5) (cs := 3) (cc := 3) (ac := 5) (Z := zW) (C := cW) (A := aW) zW_in cW_in (by decide) (by decide) mayW (by decide) (by decide) w iZ iC iA
  have k2 := fun (sa ca : Option Addr) w iZ iC => gds_Run_cfg (most := 0) (sa := sa) (ca := ca) (aa := none) (n := 3) (nc := 3) (m := 0) (cs := 3) (cc := 3) (ac := 0) (Z := zW) (C := cW) zW_in cW_in (fun h => absurd h.1 (by decide)) w iZ iC
  have k3 := fun (sa ca aa : Option Addr) w iZ iC iA => gds_Run_call (most := 3) (sa := sa) (ca := ca) (aa := aa) (n := 3) (m := 1) (cs := 3) (cc := 3) (ac := 1) (Z := zW) (C := cW) (A := fun _ => 3) zW_in cW_in (by decide) (by decide) mayW ⟨0, by decide, by decide⟩ (by decide) w iZ iC iA
  have k4 := fun (aa : Option Addr) w iA => gds_Renew (aa := aa) (m := 2) (ac := 2) (low := 5) (R := fun i => ([7, 3] : List Int).getD i 0) (by decide) (inK_list .u64 [7, 3] (by decide) (by decide)) w iA (by decide)
  have k5 := fun (sa ta : Option Addr) (sc : Nat) w iZ iY => ref18_Same (sa := sa) (ta := ta) (n := 5) (m := 5) (sc := sc) (tc := 5) (H := hitG zW cW 3 3 aW) (O := goG zW cW 3 3 aW) (H' := hW) (O' := oW) w iZ iY
  rw [decide_eq_true (show SameS 5 5 (hitG zW cW 3 3 aW) (goG zW cW 3 3 aW) hW oW from ⟨rfl, fun i hi => ⟨(runW i hi).2, (runW i hi).1⟩⟩)] at k5
  have k6 := fun (sa ca aa la : Option Addr) (lc : Nat) w iZ iC iA iL => gds_Paid (sa := sa) (ca := ca) (aa := aa) (la := la) (n := 3) (nc := 3) (m := 5) (ml := 5) (cs := 3) (cc := 3) (ac := 5) (lc := lc) (Z := zW) (C := cW) (A := fun j => (aW j : Nat)) (H := hitG zW cW 3 3 aW) (O := goG zW cW 3 3 aW) zW_in cW_in w iZ iC iA iL (by decide) (by decide)
  rw [paidW _ (fun i hi => (runW i hi).1)] at k6
  have k7 := fun w => gds_Weight 1 3 2 9 (by decide) (by decide) (by decide) (by decide) (by decide) (by decide) w
  have k8 := fun w => gds_Weight 2 3 2 2 (by decide) (by decide) (by decide) (by decide) (by decide) (by decide) w
  have k9 := fun w => gds_Weight 0 3 2 2 (by decide) (by decide) (by decide) (by decide) (by decide) (by decide) w
  have k10 := fun w => gds_Weight 1 3 0 2 (by decide) (by decide) (by decide) (by decide) (by decide) (by decide) w
  have k11 := fun w => gds_Weight 2 9223372036854775808 1 2 (by decide) (by decide) (by decide) (by decide) (by decide) (by decide) w
  rw [show weightS 1 3 2 9 = 1572864 by decide +kernel] at k7
  rw [show weightS 2 3 2 2 = 3145728 by decide +kernel] at k8
  rw [show weightS 0 3 2 2 = 0 by decide +kernel] at k9
  rw [show weightS 1 3 0 2 = 0 by decide +kernel] at k10
  rw [show weightS 2 9223372036854775808 1 2 = 18446744073709551615 by decide +kernel] at k11
  have k12 := fun (sa ta : Option Addr) (sc : Nat) w iZ iY => ref18_Numbers (sa := sa) (ta := ta) (n := 2) (m := 2) (sc := sc) (tc := 2) (Z := fun i => subS (([7, 3] : List Int).getD i 0) 5) (Y := fun i => ([2, 0] : List Int).getD i 0) w iZ iY
  rw [decide_eq_true rW_sub] at k12
  go_enter Try.func8, Try.ntmps8
  go_wp2_with fail
  have b1 : Below w.heap.size w (((w.alloc (.cells #[.int .i64 1, .int .i64 2, .int .i64 1] 3)).alloc (.cells #[.int .i64 1, .int .i64 4, .int .i64 9] 3)).alloc (.cells #[.int .i64 0, .int .i64 1, .int .i64 2, .int .i64 1, .int .i64 0] 3)) := (((Below.refl _ _).alloc (Nat.le_refl _) _).alloc (by simp) _).alloc (by simp; omega) _
  have z1 := isK_lit (three_new w (.cells #[.int .i64 1, .int .i64 2, .int .i64 1] 3) (.cells #[.int .i64 1, .int .i64 4, .int .i64 9] 3) (.cells #[.int .i64 0, .int .i64 1, .int .i64 2, .int .i64 1, .int .i64 0] 3)).1 zW_row (by decide)
  have c1 := isK_lit (three_new w (.cells #[.int .i64 1, .int .i64 2, .int .i64 1] 3) (.cells #[.int .i64 1, .int .i64 4, .int .i64 9] 3) (.cells #[.int .i64 0, .int .i64 1, .int .i64 2, .int .i64 1, .int .i64 0] 3)).2.1 cW_row (by decide)
  have a1 := isK_lit (three_new w (.cells #[.int .i64 1, .int .i64 2, .int .i64 1] 3) (.cells #[.int .i64 1, .int .i64 4, .int .i64 9] 3) (.cells #[.int .i64 0, .int .i64 1, .int .i64 2, .int .i64 1, .int .i64 0] 3)).2.2 aW_row (by decide)
  refine (k1 _ _ _ _ z1 c1 a1).mono ?_
  rintro e w1 ⟨la, lc, rfl, _, hL, hb⟩
  have B1 := b1.trans (hb.mono (by simp; omega))
  have z2 := z1.below hb
  have c2 := c1.below hb
  clear k1 z1 c1 a1 b1 hb
  go_wp2_with fail
  refine (k2 _ _ _ z2 c2).mono ?_
  rintro e w2 ⟨rfl, hb⟩
  have B2 := B1.trans (hb.mono B1.size)
  have z1 := z2.below hb
  have c1 := c2.below hb
  have hL := hL.below hb
  clear k2 z2 c2 hb B1
  go_wp2_with fail
  have bA : Below w2.heap.size w2 (w2.alloc (.cells #[.int .i64 3] 3)) := (Below.refl _ _).alloc (Nat.le_refl _) _
  refine (k3 _ _ _ _ (z1.below bA) (c1.below bA) (isK_lit (heap_alloc_new w2 _) (one_row .i64 3) (by decide))).mono ?_
  rintro e w3 ⟨rfl, hb⟩
  have bA := bA.trans (hb.mono bA.size)
  have B3 := B2.trans (bA.mono B2.size)
  have z2 := z1.below bA
  have c2 := c1.below bA
  have hL := hL.below bA
  clear k3 z1 c1 hb bA B2
  go_wp2_with fail
  have bA : Below w3.heap.size w3 (w3.alloc (.cells #[.int .u64 7, .int .u64 3] 23)) := (Below.refl _ _).alloc (Nat.le_refl _) _
  refine (k4 _ _ (isK_lit (heap_alloc_new w3 _) rW_row (by decide))).mono ?_
  rintro e w4 ⟨ra, rc, rfl, hR, hb⟩
  have bA := bA.trans (hb.mono bA.size)
  have B4 := B3.trans (bA.mono B3.size)
  have z1 := z2.below bA
  have c1 := c2.below bA
  have hL := hL.below bA
  clear k4 z2 c2 hb bA B3
  go_wp2_with fail
  have bA : Below w4.heap.size w4 (((w4.alloc (.cells #[.int .i64 0] 3)).alloc (.cells #[.int .i64 1] 3)).alloc (.cells #[.bool false, .slice none 0 0, .bool false, .slice none 0 0, .bool false, .slice (some ⟨w4.heap.size, 0, none⟩) 1 1, .bool true, .slice none 0 0, .bool false, .slice (some ⟨w4.heap.size + 1, 0, none⟩) 1 1] 40)) := (((Below.refl _ _).alloc (Nat.le_refl _) _).alloc (by simp) _).alloc (by simp; omega) _
  have t3 := three_new w4 (.cells #[.int .i64 0] 3) (.cells #[.int .i64 1] 3) (.cells #[.bool false, .slice none 0 0, .bool false, .slice none 0 0, .bool false, .slice (some ⟨w4.heap.size, 0, none⟩) 1 1, .bool true, .slice none 0 0, .bool false, .slice (some ⟨w4.heap.size + 1, 0, none⟩) 1 1] 40)
  refine (k5 _ _ _ _ (hL.below bA) (fiveW t3.2.2 (isK_lit t3.1 (one_row .i64 0) (by decide)) (isK_lit t3.2.1 (one_row .i64 1) (by decide)))).mono ?_
  rintro e w5 ⟨rfl, hb⟩
  have bA := bA.trans (hb.mono bA.size)
  have B5 := B4.trans (bA.mono B4.size)
  have z2 := z1.below bA
  have c2 := c1.below bA
  have hL := hL.below bA
  have hR := hR.below bA
  clear k5 z1 c1 hb bA B4 t3
  go_wp2_with fail
  have bA : Below w5.heap.size w5 (w5.alloc (.cells #[.int .i64 0, .int .i64 1, .int .i64 2, .int .i64 1, .int .i64 0] 3)) := (Below.refl _ _).alloc (Nat.le_refl _) _
  refine (k6 _ _ _ _ _ _ (z2.below bA) (c2.below bA) (isK_lit (heap_alloc_new w5 _) aW_row (by decide)) (hL.below bA)).mono ?_
  rintro e w6 ⟨rfl, hb⟩
  have bA := bA.trans (hb.mono bA.size)
  have B6 := B5.trans (bA.mono B5.size)
  have hR := hR.below bA
  clear k6 z2 c2 hb bA B5 hL
  go_wp2_with fail
  refine (k7 _).mono ?_
  rintro e w7 ⟨rfl, hb⟩
  have B7 := B6.trans (hb.mono B6.size)
  have hR := hR.below hb
  clear k7 hb B6
  go_wp2_with fail
  refine (k8 _).mono ?_
  rintro e w8 ⟨rfl, hb⟩
  have B8 := B7.trans (hb.mono B7.size)
  have hR := hR.below hb
  clear k8 hb B7
  go_wp2_with fail
  refine (k9 _).mono ?_
  rintro e w9 ⟨rfl, hb⟩
  have B9 := B8.trans (hb.mono B8.size)
  have hR := hR.below hb
  clear k9 hb B8
  go_wp2_with fail
  refine (k10 _).mono ?_
  rintro e w10 ⟨rfl, hb⟩
  have B10 := B9.trans (hb.mono B9.size)
  have hR := hR.below hb
  clear k10 hb B9
  go_wp2_with fail
  refine (k11 _).mono ?_
  rintro e w11 ⟨rfl, hb⟩
  have B11 := B10.trans (hb.mono B10.size)
  have hR := hR.below hb
  clear k11 hb B10
  go_wp2_with fail
  have bA : Below w11.heap.size w11 (w11.alloc (.cells #[.int .u64 2, .int .u64 0] 23)) := (Below.refl _ _).alloc (Nat.le_refl _) _
  refine (k12 _ _ _ _ (hR.below bA) (isK_lit (heap_alloc_new w11 _) nW_row (by decide))).mono ?_
  rintro e w12 ⟨rfl, hb⟩
  have bA := bA.trans (hb.mono bA.size)
  have B12 := B11.trans (bA.mono B11.size)
  clear k12 hb bA B11 hR
  go_wp2_with fail
  go_ret
  exact ⟨rfl, B12⟩
end Go.Proofs.Ytlhjacgocggbcaa
