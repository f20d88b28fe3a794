/- The walks of the layer lhd: each function comes to the plain number of LhdS. -/
import Derived.Test.YtmehejdgdjaipaaWordC
import Derived.Test.YtmehejdgdjaipaaBitsC
import Derived.Test.YtmehejdgdjaipaaLhdS
import Derived.LoopTactic
set_option linter.unusedVariables false
namespace Go.Proofs.Ytmehejdgdjaipaa
open Go.RowKit Go.Shelf
attribute [local go_sem ↓] lt_alloc

/-- A row of numbers. -/
def rowC (R : Nat → Int) (n : Nat) : Array Value := ((List.range n).map fun i => Value.int .u64 (R i)).toArray
theorem rowC_size (R : Nat → Int) (n : Nat) : (rowC R n).size = n := by simp [rowC]
theorem rowC_get {R : Nat → Int} {n i : Nat} (h : i < n) : (rowC R n)[i]? = some (.int .u64 (R i)) := by simp [rowC, h]
theorem rowC_upd {R : Nat → Int} {n k : Nat} {v : Int} : (rowC R n).setIfInBounds k (.int .u64 v) = rowC (upd R k v) n := by
  apply Array.ext_getElem?
  intro i
  rw [Array.getElem?_setIfInBounds, rowC_size]
  by_cases hi : i < n
  · rw [rowC_get hi]
    unfold upd
    by_cases hk : k = i
    · subst hk; rw [if_pos rfl, if_pos hi, rowC_get hi, if_pos rfl]
    · rw [if_neg hk, rowC_get hi, if_neg (fun h => hk h.symm)]
  · have e : ∀ R : Nat → Int, (rowC R n)[i]? = none := fun R => Array.getElem?_eq_none (by rw [rowC_size]; omega)
    rw [e, e]
    split
    · rw [if_neg (by omega)]
    · rfl
theorem rowC_congr {R S : Nat → Int} {n : Nat} (h : ∀ i, i < n → R i = S i) : rowC R n = rowC S n := by
  unfold rowC
  congr 1
  exact List.map_congr_left fun i hi => by rw [h i (List.mem_range.1 hi)]
theorem rowC_one (R : Nat → Int) (n : Nat) : (rowC R n).all (·.oneCell') = true := by
  rw [Array.all_eq_true_iff_forall_mem]
  intro x hx
  simp [rowC] at hx
  obtain ⟨i, _, rfl⟩ := hx
  rfl
/-- A rank: the hits at 0 to 7, the evictions at 8 to 15. -/
def rankC (R : Nat → Int) : Array Value := rowC R 16
def rankV (R : Nat → Int) : Value := .agg (rankC R)
theorem lhd_known (a : Int) (w : World) :
    Calls Try.prog 26 #[.int .i64 a] w fun e w' => e = .returned (.bool (knownB a)) ∧ w = w' := by
  rcases Int.lt_or_le a 0 with h | h
  · have e : knownB a = false := by simp [knownB]; omega
    rw [e]
    go_enter Try.func26, Try.ntmps26
    go_wp2_with fail
    go_ret
    exact ⟨rfl, rfl⟩
  · have e : knownB a = decide (a < 8) := by simp [knownB, h]
    rw [e]
    go_enter Try.func26, Try.ntmps26
    go_wp2_with fail
    go_ret
    exact ⟨rfl, rfl⟩
def ageV (t : Int) : Int := min ((Lib.bitLen t.toNat : Nat) : Int) 7
theorem lhd_Age (t : Int) (h0 : 0 ≤ t) (h1 : t < 18446744073709551616) (w : World) :
    Calls Try.prog 13 #[.int .u64 t] w fun e w' => e = .returned (.int .i64 (ageV t)) ∧ w = w' := by
  have hr : ageV t = min ((Lib.bitLen t.toNat : Nat) : Int) 7 := rfl
  have k := fun w => len64 t h0 h1 w
  generalize Lib.bitLen t.toNat = n at *
  go_enter Try.func13, Try.ntmps13
  go_wp2_with fail
  refine (k _).mono ?_
  rintro e _ ⟨rfl, rfl⟩
  go_wp2_with fail
  go_ret
  exact ⟨by rw [hr]; rfl, rfl⟩
theorem rank_size : (Try.prog.info? 25).map (·.size) = some 16 := by kernel_rfl
theorem rank_some : (Try.prog.underlying 25).isSome = true := by kernel_rfl
/-- A rank that is a named result lies in a block of its own. -/
theorem ret_rank {fn : Func} {p : Tmp} (h : fn.results = #[.cell p 25]) {tmps : Array Value} {w : World} {g : Nat} {cs : Array Value}
    (hp : tmps.getD p undef = .pointer (some ⟨g, 0, none⟩)) (hg : w.heap[g]? = some (.cells cs 25)) (hs : cs.size = 16) : (results fn tmps).run Try.prog w = .ok (.agg cs) w := by
  exact results_cell_row h tmps w g 25 cs (0, 0) ((Try.prog.underlying 25).get rank_some) hp hg (Option.some_get _).symm (by kernel_rfl) (by rw [rank_size, hs])
theorem below_setRow {B g : Nat} {w w1 : World} {cs : Array Value} (h : Below B w w1) (hg : B ≤ g) : Below B w (w1.setRow g cs) :=
  ⟨h.os, h.tape, h.output, by simp; exact h.size, fun k hk => (setRow_other _ _ _ _ (by omega)).trans (h.block k hk)⟩
theorem two_new (w : World) (x y : Obj) : ((w.alloc x).alloc y).heap[w.heap.size + 1]? = some y := by
  have := heap_alloc_new (w.alloc x) y
  simpa using this
end Go.Proofs.Ytmehejdgdjaipaa
