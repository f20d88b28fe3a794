/- A course in memory; the walks of least and of rank. -/
import Derived.Test.YtlhjacgocggbcaaGdsE
set_option linter.unusedVariables false
set_option maxRecDepth 100000
set_option maxHeartbeats 1000000
namespace Go.Proofs.Ytlhjacgocggbcaa
open Go.RowKit Go.Shelf
attribute [local go_sem ↓] lt_alloc

/-- A row of any values. -/
def rowV (f : Nat → Value) (n : Nat) : Array Value := ((List.range n).map f).toArray
def updV (f : Nat → Value) (k : Nat) (v : Value) (i : Nat) : Value := if i = k then v else f i
theorem rowV_size (f : Nat → Value) (n : Nat) : (rowV f n).size = n := by simp [rowV]
theorem rowV_get {f : Nat → Value} {n i : Nat} (h : i < n) : (rowV f n)[i]? = some (f i) := by simp [rowV, h]
theorem rowV_upd {f : Nat → Value} {n k : Nat} {v : Value} : (rowV f n).setIfInBounds k v = rowV (updV f k v) n := by
  apply Array.ext_getElem?
  intro i
  rw [Array.getElem?_setIfInBounds, rowV_size]
  by_cases hi : i < n
  · rw [rowV_get hi]
    unfold updV
    by_cases hk : k = i
    · subst hk; rw [if_pos rfl, if_pos hi, rowV_get hi, if_pos rfl]
    · rw [if_neg hk, rowV_get hi, if_neg (fun h => hk h.symm)]
  · have e : ∀ f : Nat → Value, (rowV f n)[i]? = none := fun f => Array.getElem?_eq_none (by rw [rowV_size]; omega)
    rw [e, e]
    split
    · rw [if_neg (by omega)]
    · rfl
theorem rowV_congr {f g : Nat → Value} {n : Nat} (h : ∀ i, i < n → f i = g i) : rowV f n = rowV g n := by
  unfold rowV
  congr 1
  exact List.map_congr_left fun i hi => h i (List.mem_range.1 hi)
/-- The cells of a course: sizes, costs, most, taken, who is in, the ranks, the level. -/
def courseF (sv cv : Value) (most : Int) (s : Gd) (i : Nat) : Value :=
  if i = 0 then sv else if i = 1 then cv else if i = 2 then .int .i64 most else if i = 3 then .int .i64 s.tk
  else if i < 68 then .bool (s.inn (i - 4)) else if i < 132 then .int .u64 (s.rk (i - 68)) else .int .u64 s.lv
def CourseAt (w : World) (g : Nat) (sv cv : Value) (most : Int) (s : Gd) : Prop := w.heap[g]? = some (.cells (rowV (courseF sv cv most s) 133) 53 (0, 0))
theorem CourseAt.cell {w : World} {g : Nat} {sv cv : Value} {most : Int} {s : Gd} (h : CourseAt w g sv cv most s) {i : Nat} (hi : i < 133) : w.cell? ⟨g, i, none⟩ = some (courseF sv cv most s i) :=
  (cell_of_row w g i _ _ _ h).trans (rowV_get hi)
theorem CourseAt.inn {w : World} {g : Nat} {sv cv : Value} {most : Int} {s : Gd} (h : CourseAt w g sv cv most s) {i : Nat} (hi : i < 64) : w.cell? ⟨g, 4 + i, none⟩ = some (.bool (s.inn i)) := by
  rw [h.cell (by omega)]; unfold courseF
  rw [if_neg (by omega), if_neg (by omega), if_neg (by omega), if_neg (by omega), if_pos (by omega), show 4 + i - 4 = i from by omega]
theorem CourseAt.rk {w : World} {g : Nat} {sv cv : Value} {most : Int} {s : Gd} (h : CourseAt w g sv cv most s) {i : Nat} (hi : i < 64) : w.cell? ⟨g, 68 + i, none⟩ = some (.int .u64 (s.rk i)) := by
  rw [h.cell (by omega)]; unfold courseF
  rw [if_neg (by omega), if_neg (by omega), if_neg (by omega), if_neg (by omega), if_neg (by omega), if_pos (by omega), show 68 + i - 68 = i from by omega]
theorem CourseAt.frozen {w : World} {g : Nat} {sv cv : Value} {most : Int} {s : Gd} (h : CourseAt w g sv cv most s) (i : Nat) : w.frozen? ⟨g, i, none⟩ = false := frozen_of_row w _ _ _ _ h
/-- A cell of a course is written. -/
theorem CourseAt.set {w : World} {g : Nat} {sv cv : Value} {most : Int} {s s' : Gd} (h : CourseAt w g sv cv most s) (k : Nat) (v : Value) (hs : ∀ i, i < 133 → updV (courseF sv cv most s) k v i = courseF sv cv most s' i) :
    CourseAt (w.setCell ⟨g, k, none⟩ v) g sv cv most s' := by
  have e := heap_setCell_same w g k _ _ v h
  rw [rowV_upd, rowV_congr hs] at e
  exact e
/-- All but one block is as it was. -/
structure Only (g : Nat) (w w' : World) : Prop where
  os : w'.os = w.os
  tape : w'.tape = w.tape
  output : w'.output = w.output
  size : w.heap.size ≤ w'.heap.size
  block : ∀ k, k < w.heap.size → k ≠ g → w'.heap[k]? = w.heap[k]?
theorem Only.trans {g : Nat} {a b c : World} (h : Only g a b) (k : Only g b c) : Only g a c :=
  ⟨k.os.trans h.os, k.tape.trans h.tape, k.output.trans h.output, Nat.le_trans h.size k.size, fun i hi hg => (k.block i (Nat.lt_of_lt_of_le hi h.size) hg).trans (h.block i hi hg)⟩
theorem Only.of_below {g : Nat} {a b : World} (h : Below a.heap.size a b) : Only g a b := ⟨h.os, h.tape, h.output, h.size, fun k hk _ => h.block k hk⟩
theorem Only.below {g B : Nat} {a b : World} (h : Only g a b) (hg : B ≤ g) (hB : B ≤ a.heap.size) : Below B a b := ⟨h.os, h.tape, h.output, h.size, fun k hk => h.block k (by omega) (by omega)⟩
theorem Only.setCell {g k : Nat} {a b : World} {v : Value} (h : Only g a b) : Only g a (b.setCell ⟨g, k, none⟩ v) :=
  ⟨h.os, h.tape, h.output, by simp; exact h.size, fun i hi hg => (heap_setCell_other b ⟨g, k, none⟩ i v hg).trans (h.block i hi hg)⟩
theorem Only.cell {g : Nat} {a b : World} (h : Only g a b) {p : Addr} {v : Value} (hp : p.block ≠ g) (hc : a.cell? p = some v) : b.cell? p = some v := by
  have hb := block_lt_of_cell hc
  unfold World.cell? at *
  rw [h.block p.block hb hp]; exact hc
theorem leastG_some {s : Gd} : ∀ {n b : Nat}, leastG s n = some b → b < n ∧ s.inn b = true
  | n + 1, b, h => by
    rw [leastG] at h
    cases hl : leastG s n with
    | none =>
      rw [hl] at h
      dsimp only at h
      by_cases hi : s.inn n = true
      · rw [if_pos hi] at h; cases h; exact ⟨by omega, hi⟩
      · rw [if_neg hi] at h; cases h
    | some c =>
      rw [hl] at h
      obtain ⟨c1, c2⟩ := leastG_some hl
      dsimp only at h
      by_cases hi : s.inn n = true ∧ s.rk n < s.rk c
      · rw [if_pos hi] at h; cases h; exact ⟨by omega, hi.1⟩
      · rw [if_neg hi] at h; cases h; exact ⟨by omega, c2⟩
def leastI (o : Option Nat) : Int := match o with | none => -1 | some b => b
theorem gds_least (g : Nat) {sa : Option Addr} {n cs : Nat} {cv : Value} {most : Int} {s : Gd} (hn : n ≤ 64) (w : World) (hc : CourseAt w g (.slice sa n cs) cv most s) :
    Calls Try.prog 40 #[.pointer (some ⟨g, 0, none⟩)] w fun e w' => e = .returned (.int .i64 (leastI (leastG s n))) ∧ Below w.heap.size w w' := by
  have HC := Lib.hid hc
  have q0 : w.cell? ⟨g, 0, none⟩ = some (.slice sa n cs) := hc.cell (i := 0) (by decide)
  obtain ⟨r, hr⟩ : ∃ r, leastI (leastG s n) = r := ⟨_, rfl⟩
  rw [hr]
  have HR := Lib.hid hr
  clear hc hr
  go_enter Try.func40, Try.ntmps40
  go_wp2_with fail
  clear q0
  go_loopw [3, 11] (fun bv iv wr => ∃ i : Nat, i ≤ n ∧ iv = .int .i64 i ∧ bv = .int .i64 (leastI (leastG s i)) ∧ Below w.heap.size w wr) (fun _ iv _ => n - (intOf iv).toNat)
  case atStart => exact ⟨0, Nat.zero_le _, rfl, rfl, Below.refl _ _⟩
  case round =>
    obtain ⟨i, hi, rfl, rfl, hB⟩ := hrel
    have hS := hB.size
    have hgl : g < w.heap.size := by
      have := HC.out
      exact block_lt_of_cell (a := ⟨g, 0, none⟩) (this.cell (i := 0) (by decide))
    have hc' : CourseAt wr g (.slice sa n cs) cv most s := (hB.block g hgl).trans HC.out
    by_cases hlt : i < n
    · have p1 := Under.cell (hc'.inn (i := i) (by omega))
      have p2 := Under.cell (hc'.rk (i := i) (by omega))
      have hi64 : (i : Int) < 64 := by omega
      have st : leastG s (i + 1) = match leastG s i with
        | none => if s.inn i then some i else none
        | some b => if s.inn i ∧ s.rk i < s.rk b then some i else some b := rfl
      have ST := Lib.hid st
      clear st
      cases hl : leastG s i with
      | none =>
        rw [show leastI none = -1 from rfl]
        cases hin : s.inn i with
        | false =>
          rw [hin] at p1
          have E := Lib.hid (show leastI (leastG s (i + 1)) = -1 by rw [ST.out, hl]; simp [hin, leastI])
          clear hl hin
          go_wp2_with fail
          (refine region_under (by kernel_rfl) (by kernel_rfl) ?_; (repeat (first | go_big_quiet_step ((fail)) | quiet_step ((fail)))); refine wpQuiet_nil ?_; intro _ hw'; obtain ⟨x, hw''⟩ := hw'; subst hw''; go_wp2_with fail)
          exact ⟨⟨i + 1, by omega, by go_num, by rw [E.out], hB.trans (x.2.mono hB.size)⟩, by simp [intOf]; omega⟩
        | true =>
          rw [hin] at p1
          have E := Lib.hid (show leastI (leastG s (i + 1)) = i by rw [ST.out, hl]; simp [hin, leastI])
          clear hl hin
          go_wp2_with fail
          (refine region_under (by kernel_rfl) (by kernel_rfl) ?_; (repeat (first | go_big_quiet_step ((fail)) | quiet_step ((fail)))); refine wpQuiet_nil ?_; intro _ hw'; obtain ⟨x, hw''⟩ := hw'; subst hw''; go_wp2_with fail)
          exact ⟨⟨i + 1, by omega, by go_num, by rw [E.out], hB.trans (x.2.mono hB.size)⟩, by simp [intOf]; omega⟩
      | some b =>
        rw [show leastI (some b) = (b : Int) from rfl]
        obtain ⟨b1, b2⟩ := leastG_some hl
        have p3 := Under.cell (hc'.rk (i := b) (by omega))
        have hb64 : (b : Int) < 64 := by omega
        have hb0 : ¬ (b : Int) < 0 := by omega
        have hb0' : decide ((b : Int) < 0) = false := by simp
        cases hin : s.inn i with
        | false =>
          rw [hin] at p1
          have E := Lib.hid (show leastI (leastG s (i + 1)) = b by rw [ST.out, hl]; simp [hin, leastI])
          clear hl hin
          go_wp2_with fail
          (refine region_under (by kernel_rfl) (by kernel_rfl) ?_; (repeat (first | go_big_quiet_step ((fail)) | quiet_step ((fail)))); refine wpQuiet_nil ?_; intro _ hw'; obtain ⟨x, hw''⟩ := hw'; subst hw''; go_wp2_with fail)
          exact ⟨⟨i + 1, by omega, by go_num, by rw [E.out], hB.trans (x.2.mono hB.size)⟩, by simp [intOf]; omega⟩
        | true =>
          rw [hin] at p1
          by_cases hk : s.rk i < s.rk b
          · have E := Lib.hid (show leastI (leastG s (i + 1)) = i by rw [ST.out, hl]; simp [hin, hk, leastI])
            have hk' : decide (s.rk i < s.rk b) = true := decide_eq_true hk
            clear hl hin
            generalize s.rk i = ri at *
            generalize s.rk b = rb at *
            go_wp2_with fail
            (refine region_under (by kernel_rfl) (by kernel_rfl) ?_; (repeat (first | go_big_quiet_step ((fail)) | quiet_step ((fail)))); refine wpQuiet_nil ?_; intro _ hw'; obtain ⟨x, hw''⟩ := hw'; subst hw''; go_wp2_with fail)
            exact ⟨⟨i + 1, by omega, by go_num, by rw [E.out], hB.trans (x.2.mono hB.size)⟩, by simp [intOf]; omega⟩
          · have E := Lib.hid (show leastI (leastG s (i + 1)) = b by rw [ST.out, hl]; simp [hin, hk, leastI])
            have hk' : decide (s.rk i < s.rk b) = false := decide_eq_false hk
            clear hl hin
            generalize s.rk i = ri at *
            generalize s.rk b = rb at *
            go_wp2_with fail
            (refine region_under (by kernel_rfl) (by kernel_rfl) ?_; (repeat (first | go_big_quiet_step ((fail)) | quiet_step ((fail)))); refine wpQuiet_nil ?_; intro _ hw'; obtain ⟨x, hw''⟩ := hw'; subst hw''; go_wp2_with fail)
            exact ⟨⟨i + 1, by omega, by go_num, by rw [E.out], hB.trans (x.2.mono hB.size)⟩, by simp [intOf]; omega⟩
    · obtain rfl : i = n := by omega
      rw [HR.out]
      go_wp2_with fail
      go_ret
      exact ⟨rfl, hB⟩
end Go.Proofs.Ytlhjacgocggbcaa
