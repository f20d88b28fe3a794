/- The walk of rank, the closure of serve. -/
import Derived.Test.YtlhjacgocggbcaaGdsF
set_option linter.unusedVariables false
set_option maxRecDepth 100000
set_option maxHeartbeats 1000000
namespace Go.Proofs.Ytlhjacgocggbcaa
open Go.RowKit Go.Shelf
attribute [local go_sem ↓] lt_alloc

theorem rank_cells {sv cv : Value} {most : Int} {s : Gd} {i : Nat} (hi : i < 64) (Z C : Nat → Int) : ∀ j, j < 133 → updV (courseF sv cv most s) (68 + i) (.int .u64 ((s.lv + wgtO Z C i) % 18446744073709551616)) j = courseF sv cv most (rankG Z C s i) j := fun j hj => by
  unfold updV courseF
  by_cases h : j = 68 + i
  · subst h
    rw [if_pos rfl, if_neg (by omega), if_neg (by omega), if_neg (by omega), if_neg (by omega), if_neg (by omega), if_pos (by omega)]
    show _ = Value.int .u64 (if 68 + i - 68 = i then _ else _)
    rw [if_pos (by omega)]
  · rw [if_neg h]
    by_cases h0 : j = 0
    · rw [if_pos h0, if_pos h0]
      try rfl
    · rw [if_neg h0, if_neg h0]
      by_cases h1 : j = 1
      · rw [if_pos h1, if_pos h1]
        try rfl
      · rw [if_neg h1, if_neg h1]
        by_cases h2 : j = 2
        · rw [if_pos h2, if_pos h2]
          try rfl
        · rw [if_neg h2, if_neg h2]
          by_cases h3 : j = 3
          · rw [if_pos h3, if_pos h3]
            try rfl
          · rw [if_neg h3, if_neg h3]
            by_cases h4 : j < 68
            · rw [if_pos h4, if_pos h4]
              try rfl
            · rw [if_neg h4, if_neg h4]
              by_cases h5 : j < 132
              · rw [if_pos h5, if_pos h5]
                try rfl
                show Value.int .u64 (s.rk (j - 68)) = Value.int .u64 (if j - 68 = i then _ else s.rk (j - 68))
                rw [if_neg (by omega)]
              · rw [if_neg h5, if_neg h5]
                try rfl
theorem inn_cells {sv cv : Value} {most : Int} {s : Gd} {i : Nat} (hi : i < 64) (v : Bool) : ∀ j, j < 133 → updV (courseF sv cv most s) (4 + i) (.bool v) j = courseF sv cv most ({ s with inn := setB s.inn i v }) j := fun j hj => by
  unfold updV courseF
  by_cases h : j = 4 + i
  · subst h
    rw [if_pos rfl, if_neg (by omega), if_neg (by omega), if_neg (by omega), if_neg (by omega), if_pos (by omega)]
    show _ = Value.bool (if 4 + i - 4 = i then _ else _)
    rw [if_pos (by omega)]
  · rw [if_neg h]
    by_cases h0 : j = 0
    · rw [if_pos h0, if_pos h0]
      try rfl
    · rw [if_neg h0, if_neg h0]
      by_cases h1 : j = 1
      · rw [if_pos h1, if_pos h1]
        try rfl
      · rw [if_neg h1, if_neg h1]
        by_cases h2 : j = 2
        · rw [if_pos h2, if_pos h2]
          try rfl
        · rw [if_neg h2, if_neg h2]
          by_cases h3 : j = 3
          · rw [if_pos h3, if_pos h3]
            try rfl
          · rw [if_neg h3, if_neg h3]
            by_cases h4 : j < 68
            · rw [if_pos h4, if_pos h4]
              try rfl
              show Value.bool (s.inn (j - 4)) = Value.bool (if j - 4 = i then _ else s.inn (j - 4))
              rw [if_neg (by omega)]
            · rw [if_neg h4, if_neg h4]
theorem tk_cells {sv cv : Value} {most : Int} {s : Gd} (v : Int) : ∀ j, j < 133 → updV (courseF sv cv most s) (3) (.int .i64 v) j = courseF sv cv most ({ s with tk := v }) j := fun j hj => by
  unfold updV courseF
  by_cases h : j = 3
  · subst h
    rw [if_pos rfl, if_neg (by omega), if_neg (by omega), if_neg (by omega), if_pos (by omega)]
  · rw [if_neg h]
    by_cases h0 : j = 0
    · rw [if_pos h0, if_pos h0]
      try rfl
    · rw [if_neg h0, if_neg h0]
      by_cases h1 : j = 1
      · rw [if_pos h1, if_pos h1]
        try rfl
      · rw [if_neg h1, if_neg h1]
        by_cases h2 : j = 2
        · rw [if_pos h2, if_pos h2]
          try rfl
        · rw [if_neg h2, if_neg h2]
          by_cases h3 : j = 3
          · exact absurd h3 h
          · rw [if_neg h3, if_neg h3]
theorem lv_cells {sv cv : Value} {most : Int} {s : Gd} (v : Int) : ∀ j, j < 133 → updV (courseF sv cv most s) (132) (.int .u64 v) j = courseF sv cv most ({ s with lv := v }) j := fun j hj => by
  unfold updV courseF
  by_cases h : j = 132
  · subst h
    rw [if_pos rfl, if_neg (by omega), if_neg (by omega), if_neg (by omega), if_neg (by omega), if_neg (by omega), if_neg (by omega)]
  · rw [if_neg h]
    by_cases h0 : j = 0
    · rw [if_pos h0, if_pos h0]
      try rfl
    · rw [if_neg h0, if_neg h0]
      by_cases h1 : j = 1
      · rw [if_pos h1, if_pos h1]
        try rfl
      · rw [if_neg h1, if_neg h1]
        by_cases h2 : j = 2
        · rw [if_pos h2, if_pos h2]
          try rfl
        · rw [if_neg h2, if_neg h2]
          by_cases h3 : j = 3
          · rw [if_pos h3, if_pos h3]
            try rfl
          · rw [if_neg h3, if_neg h3]
            by_cases h4 : j < 68
            · rw [if_pos h4, if_pos h4]
              try rfl
            · rw [if_neg h4, if_neg h4]
              by_cases h5 : j < 132
              · rw [if_pos h5, if_pos h5]
                try rfl
              · rw [if_neg h5, if_neg h5]
                try rfl
                exact absurd (show j = 132 by omega) h
theorem gds_rank (g p2 p3 : Nat) {sa ca : Option Addr} {n nc cs cc i : Nat} {Z C : Nat → Int} {most : Int} {s : Gd} (hZ : InK .i64 Z) (hC : InK .i64 C) (hi : i < n) (hic : i < nc) (h64 : i < 64) (hl0 : 0 ≤ s.lv) (hl1 : s.lv < 18446744073709551616) (w : World)
    (iZ : IsK .i64 w sa n Z) (iC : IsK .i64 w ca nc C) (hc : CourseAt w g (.slice sa n cs) (.slice ca nc cc) most s) (h2 : w.cell? ⟨p2, 0, none⟩ = some (.pointer (some ⟨g, 0, none⟩))) (h3 : w.cell? ⟨p3, 0, none⟩ = some (.int .i64 i)) :
    Calls Try.prog 39 #[.pointer (some ⟨p2, 0, none⟩), .pointer (some ⟨p3, 0, none⟩)] w fun e w' => e = .returned (.tuple #[]) ∧ CourseAt w' g (.slice sa n cs) (.slice ca nc cc) most (rankG Z C s i) ∧ Only g w w' := by
  have kw := fun x : Under w => gds_weight (cs := cs) (cc := cc) hZ hC hi hic x.w (iZ.below x.2) (iC.below x.2)
  have hgl : g < w.heap.size := block_lt_of_cell (a := ⟨g, 0, none⟩) (hc.cell (i := 0) (by decide))
  have c0 : w.cell? ⟨g, 0, none⟩ = some (.slice sa n cs) := hc.cell (i := 0) (by decide)
  have c1 : w.cell? ⟨g, 1, none⟩ = some (.slice ca nc cc) := hc.cell (i := 1) (by decide)
  have c132 : w.cell? ⟨g, 132, none⟩ = some (.int .u64 s.lv) := hc.cell (i := 132) (by decide)
  have ck := hc.rk h64
  have fk := hc.frozen (68 + i)
  have P0 := Under.cell c0; have P1 := Under.cell c1; have P2 := Under.cell c132; have P3 := Under.cell h2; have P4 := Under.cell h3
  have hi64 : (i : Int) < 64 := by omega
  have wb := weightS_bd 1 (ofS (C i)) (ofS (Z i)) 1 (ofS_bd _ (hC.i64 i).2).1 (ofS_bd _ (hZ.i64 i).2).1 (by decide)
  have RC := Lib.hid (rank_cells (sv := .slice sa n cs) (cv := .slice ca nc cc) (most := most) (s := s) h64 Z C)
  have hv : wgtO Z C i = weightS 1 (ofS (C i)) (ofS (Z i)) 1 := rfl
  rw [← hv] at wb
  obtain ⟨wb0, wb1⟩ := wb
  have HCo := Lib.hid hc
  clear hv hZ hC iZ iC c0 c1 c132 hc
  generalize wgtO Z C i = v at *
  generalize hlv : s.lv = lv at *
  go_enter Try.func39, Try.ntmps39
  go_wp2_with fail
  (refine region_tail 16 (by kernel_rfl) (by kernel_rfl) ?_; simp only [List.take_succ_cons, List.take_zero, List.drop_succ_cons, List.drop_zero]; (repeat (first | go_big_quiet_step ((go_at_call 28; exact quietU (kw _))) | quiet_step ((go_at_call 28; exact quietU (kw _))))); refine wpQuiet_nil ?_; intro _ hw'; obtain ⟨x, hw''⟩ := hw'; subst hw'')
  have hx : CourseAt x.w g (.slice sa n cs) (.slice ca nc cc) most s := (x.2.block g hgl).trans HCo.out
  have d1 := Under.cell ck x
  have d2 : x.w.frozen? ⟨g, 68 + i, none⟩ = false := keepBf x.2 ck fk
  have K1 := hx.set (68 + i) _ RC.out
  have K2 : Only g w (x.w.setCell ⟨g, 68 + i, none⟩ (.int .u64 ((lv + v) % 18446744073709551616))) := (Only.of_below x.2).setCell
  have HK1 := Lib.hid K1
  clear hx K1 ck fk P0 P1 P2 P3 P4 kw
  go_wp2_with fail
  go_end0
  exact ⟨rfl, HK1.out, K2⟩
end Go.Proofs.Ytlhjacgocggbcaa
