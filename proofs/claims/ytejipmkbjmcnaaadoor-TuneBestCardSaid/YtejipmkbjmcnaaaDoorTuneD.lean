/- The walks of copied, cmp.Compare, the closure of Note, BinarySearchFunc. -/
import Derived.Test.YtejipmkbjmcnaaaDoorTuneC
set_option linter.unusedVariables false
set_option maxRecDepth 100000
set_option maxHeartbeats 2000000
namespace Go.Proofs.YtejipmkbjmcnaaaDoor
open Go.RowKit Go.Shelf
attribute [local go_sem ↓] lt_alloc

theorem seen_info : (Tryd.prog.info? 25).map (fun i => (i.zero, i.size, i.bytes)) = some (some (.agg #[.string ByteArray.empty, .int .i64 0, .int .i64 0]), 3, 32) := by kernel_rfl
theorem seen_size : (Tryd.prog.info? 25).map (·.size) = some 3 := by kernel_rfl
/-- A window that lies in a block of its own, whole. -/
def WBlk (w : World) (g : Nat) (l : List Sn) : Prop := w.heap[g]? = some (.cells (cellsW l).toArray 25 (0, 0))
theorem WBlk.cells {w : World} {g : Nat} {l : List Sn} (h : WBlk w g l) : ∀ j v, (cellsW l)[j]? = some v → w.cell? ⟨g, 0 + j, none⟩ = some v := by
  intro j v hj
  rw [Nat.zero_add]
  exact (cell_of_row w g j _ _ _ h).trans (by simpa using hj)
theorem WBlk.isW {w : World} {g : Nat} {l : List Sn} (h : WBlk w g l) (hl : l.length ≤ 1000000) : IsW w (some ⟨g, 0, none⟩) l := isW_cells (by omega) h.cells
theorem copied_facts {a : Option Addr} {n : Nat} {l : List Sn} {w w1 : World} {xs : List Value} (iW : IsW w a l) (ho : w1.ownsRow 0 25 3 (.slice (some ⟨w.heap.size, 0, none⟩) n n) n xs) (hg : w.grownBy w1 none) :
    ∃ cur : Array Value, Hid (w1.heap[w.heap.size]? = some (.cells cur 25 (0, 0))) ∧ cur.size = n * 3 ∧ Hid (Below w.heap.size w w1) ∧ Hid (0 < (cellsW l).length → ∃ ad, a = some ad ∧ ∀ j v, (cellsW l)[j]? = some v → w1.cell? (ad.add j) = some v) := by
  have hB1 : Below w.heap.size w w1 := ⟨hg.os, hg.tape, hg.output, hg.size, fun k hk => hg.block k hk (by simp)⟩
  have iW1 := iW.below hB1
  rcases ho.2 with ⟨hh, _⟩ | ⟨g', cap, cur, hh, _, hgg, _, _, hc, _⟩
  · cases hh
  · cases hh
    refine ⟨cur, Lib.hid hgg, hc, Lib.hid hB1, Lib.hid fun h0 => ?_⟩
    have hl0 : 0 < l.length := by rw [cellsW_length] at h0; omega
    obtain ⟨b, off, rfl, _, _⟩ := iW1.row hl0
    exact ⟨_, rfl, fun j v hj => by rw [Addr.add_lit]; exact iW1.cells j v hj⟩
theorem tune_copied {a : Option Addr} {n cap : Nat} {l : List Sn} (hn : l.length = n) (hm : n ≤ 1000000) (w : World) (iW : IsW w a l) :
    Calls Tryd.prog 29 #[.slice a n cap] w fun e w' => e = .returned (.slice (some ⟨w.heap.size, 0, none⟩) n n) ∧ WBlk w' w.heap.size l ∧ Below w.heap.size w w' := by
  obtain ⟨ti, ti1, ti2, ti3, ti4⟩ := info_parts seen_info
  have hcl := cellsW_length l
  rw [hn] at hcl
  have IW := Lib.hid iW
  have HC := Lib.hid hcl
  clear iW hn hcl
  go_enter Tryd.func29, Tryd.ntmps29
  go_wp2_with (first
    | (refine wpList_make_full _ rfl _ _ _ rfl 0 25 ti _ 3 (by kernel_rfl) ti1 ti2 ti3 .i64 .i64 _ _ n rfl rfl rfl rfl (by rw [ti4]; omega) (by unfold maxLen; omega) (Nat.zero_le _) ?_; intro w1 ho1 hg1; obtain ⟨cur, HCUR, hcs, HB1, HSRC⟩ := copied_facts IW.out ho1 hg1; clear ho1 hg1)
    | (refine wpList_copy_rowN rfl _ _ _ _ rfl 25 3 (by kernel_rfl) seen_size w.heap.size 0 n n rfl a n cap rfl n (Nat.min_self n) cur 25 HCUR.out (cellsW l) HC.out HSRC.out (by have := HC.out; omega) (cellsW_one l) ?_; intro w2 hw2 hon; have HW2 := Lib.hid hw2; have HON := Lib.hid hon; clear hw2 hon))
  go_ret
  refine ⟨rfl, ?_, HB1.out.trans (HON.out.below (Nat.le_refl _) HB1.out.size)⟩
  unfold WBlk
  rw [HW2.out, List.take_zero, List.nil_append, HC.out, Nat.zero_add, List.drop_of_length_le (by rw [Array.length_toList]; omega), List.append_nil]
theorem cmp_isNaN (x : ByteArray) (w : World) : Calls Tryd.prog 49 #[.string x] w fun e w' => e = .returned (.bool false) ∧ w = w' := by
  go_enter Tryd.func49, Tryd.ntmps49
  go_wp2_with fail
  go_ret
  exact ⟨by simp, rfl⟩
theorem cmp_Compare (x y : ByteArray) (w : World) : Calls Tryd.prog 32 #[.string x, .string y] w fun e w' => e = .returned (.int .i64 (cmpB x y)) ∧ w = w' := by
  cases h1 : Op.bytesLess x.toList y.toList with
  | true =>
    have e : cmpB x y = -1 := by unfold cmpB ltB; rw [h1]; rfl
    rw [e]
    go_enter Tryd.func32, Tryd.ntmps32
    go_wp2_with (go_at_call 49; refine (cmp_isNaN _ _).mono ?_; rintro e w' ⟨rfl, rfl⟩)
    go_ret
    exact ⟨rfl, rfl⟩
  | false =>
    cases h2 : (x.toList == y.toList) with
    | true =>
      have e : cmpB x y = 0 := by unfold cmpB ltB eqB; rw [h1, h2]; rfl
      rw [e]
      go_enter Tryd.func32, Tryd.ntmps32
      go_wp2_with (go_at_call 49; refine (cmp_isNaN _ _).mono ?_; rintro e w' ⟨rfl, rfl⟩)
      go_ret
      exact ⟨rfl, rfl⟩
    | false =>
      have e : cmpB x y = 1 := by unfold cmpB ltB eqB; rw [h1, h2]; rfl
      rw [e]
      go_enter Tryd.func32, Tryd.ntmps32
      go_wp2_with (go_at_call 49; refine (cmp_isNaN _ _).mono ?_; rintro e w' ⟨rfl, rfl⟩)
      go_ret
      exact ⟨rfl, rfl⟩
theorem tune_note1 (k : ByteArray) (z m : Int) (y : ByteArray) (w : World) : Calls Tryd.prog 31 #[.agg #[.string k, .int .i64 z, .int .i64 m], .string y] w fun e w' => e = .returned (.int .i64 (cmpB k y)) ∧ Below w.heap.size w w' := by
  go_enter Tryd.func31, Tryd.ntmps31
  go_wp2_with (go_at_call 32; refine (cmp_Compare _ _ _).mono ?_; rintro e w' ⟨rfl, rfl⟩)
  go_ret
  exact ⟨rfl, (Below.refl _ _).alloc (Nat.le_refl _) _⟩
end Go.Proofs.YtejipmkbjmcnaaaDoor
