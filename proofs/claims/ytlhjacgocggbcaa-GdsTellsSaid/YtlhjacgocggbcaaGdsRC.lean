/- The walk of the reference's least. -/
import Derived.Test.YtlhjacgocggbcaaGdsRB
set_option linter.unusedVariables false
set_option maxRecDepth 100000
set_option maxHeartbeats 2000000
namespace Go.Proofs.Ytlhjacgocggbcaa
open Go.RowKit Go.Shelf
attribute [local go_sem ↓] lt_alloc

def befP (R : Nat → Int) (b k : Nat) : Prop := R b < R k ∨ (R b = R k ∧ b ≤ k)
theorem befP_trans {R : Nat → Int} {a b c : Nat} (h : befP R a b) (k : befP R b c) : befP R a c := by unfold befP at *; omega
theorem befP_tot {R : Nat → Int} {a b : Nat} (h : ¬ befP R a b) : befP R b a := by unfold befP at *; omega
/-- Who goes out first. -/
def LeastP (L : List Nat) (R : Nat → Int) (b : Nat) : Prop := b ∈ L ∧ ∀ k ∈ L, befP R b k
theorem getD_mem {L : List Nat} {i : Nat} (h : i < L.length) : L.getD i 0 ∈ L := by
  rw [List.getD_eq_getElem?_getD, List.getElem?_eq_getElem h]; exact List.getElem_mem h
theorem ref18_least {ia ra : Option Addr} {m n ic rc : Nat} {lv : Int} {L : List Nat} {R : Nat → Int} (hL : L.length = m) (hm0 : 0 < m) (hn : ∀ x ∈ L, x < n) (w : World) (iL : IsL w ia L) (iR : IsK .u64 w ra n R) :
    Calls Try.prog 44 #[.agg #[.slice ia m ic, .slice ra n rc, .int .u64 lv]] w fun e w' => ∃ b : Nat, e = .returned (.int .i64 b) ∧ LeastP L R b ∧ Below w.heap.size w w' := by
  have IL := Lib.hid (show IsK .i64 w ia m (nthI L) by rw [← hL]; exact iL)
  have IR := Lib.hid iR
  have HD := Lib.hid (show ∀ i, nthI L i = ((L.getD i 0 : Nat) : Int) from fun i => rfl)
  have HX := Lib.hid (show ∀ i, i < m → L.getD i 0 < n ∧ L.getD i 0 ∈ L from fun i h => ⟨hn _ (getD_mem (by omega)), getD_mem (by omega)⟩)
  have HN := Lib.hid hn
  have HLL := Lib.hid hL
  clear iL iR hL hn
  have b0 : Below w.heap.size w (w.alloc (.cells #[.slice ia m ic, .slice ra n rc, .int .u64 lv] 56)) := (Below.refl _ _).alloc (Nat.le_refl _) _
  have t0 := heap_alloc_new w (.cells #[.slice ia m ic, .slice ra n rc, .int .u64 lv] 56)
  have c0 : (w.alloc (.cells #[.slice ia m ic, .slice ra n rc, .int .u64 lv] 56)).cell? ⟨w.heap.size, 0, none⟩ = some (.slice ia m ic) := cell_of_row _ _ 0 _ _ _ t0
  have c1 : (w.alloc (.cells #[.slice ia m ic, .slice ra n rc, .int .u64 lv] 56)).cell? ⟨w.heap.size, 1, none⟩ = some (.slice ra n rc) := cell_of_row _ _ 1 _ _ _ t0
  have B0 := Lib.hid b0
  clear b0 t0
  obtain ⟨gb, go, rfl, h63, q0⟩ := (IL.out.below B0.out).row hm0
  have hx0 := HX.out 0 hm0
  rw [HD.out 0] at q0
  have q0' : (w.alloc (.cells #[.slice (some ⟨gb, go, none⟩) m ic, .slice ra n rc, .int .u64 lv] 56)).cell? ⟨gb, go, none⟩ = some (.int .i64 ((L.getD 0 0 : Nat) : Int)) := q0
  clear q0
  generalize L.getD 0 0 = x0 at *
  have START := Lib.hid (show (∀ j, j < 0 → befP R x0 (L.getD j 0)) from fun j hj => absurd hj (Nat.not_lt_zero j))
  have C0 := Lib.hid c0
  have C1 := Lib.hid c1
  go_enter Try.func44, Try.ntmps44
  go_wp2_with fail
  clear q0' c0 c1
  go_loopw [3, 4] (fun bv iv W => ∃ i b : Nat, i ≤ m ∧ iv = .int .i64 i ∧ bv = .int .i64 b ∧ b < n ∧ b ∈ L ∧ Hid (∀ j, j < i → befP R b (L.getD j 0)) ∧ W.cell? ⟨w.heap.size, 0, none⟩ = some (.slice (some ⟨gb, go, none⟩) m ic) ∧ W.cell? ⟨w.heap.size, 1, none⟩ = some (.slice ra n rc) ∧ Below w.heap.size w W) (fun _ iv _ => m - (intOf iv).toNat)
  case atStart => exact ⟨0, x0, Nat.zero_le _, rfl, rfl, hx0.1, hx0.2, START, C0.out, C1.out, B0.out⟩
  case round =>
    clear hx0 START
    obtain ⟨i, b, hi, rfl, rfl, hbn, hbL, hall, hC0, hC1, hB⟩ := hrel
    by_cases hlt : i < m
    · obtain ⟨gb', go', hga, _, q0⟩ := (IL.out.below hB).row hlt
      cases hga
      rw [HD.out i] at q0
      obtain ⟨xn, xL⟩ := HX.out i hlt
      generalize hx : L.getD i 0 = k at *
      obtain ⟨rb, ro, rfl, hr63, s1⟩ := (IR.out.below hB).row xn
      obtain ⟨rb', ro', hra, _, s2⟩ := (IR.out.below hB).row hbn
      cases hra
      have TAKE := Lib.hid (show ¬ befP R b k → ∀ j, j < i + 1 → befP R k (L.getD j 0) from fun hnb j hj => by
        rcases Nat.lt_succ_iff_lt_or_eq.1 hj with h | rfl
        · exact befP_trans (befP_tot hnb) (hall.out j h)
        · rw [hx]; exact Or.inr ⟨rfl, Nat.le_refl _⟩)
      have KEEP := Lib.hid (show befP R b k → ∀ j, j < i + 1 → befP R b (L.getD j 0) from fun hb j hj => by
        rcases Nat.lt_succ_iff_lt_or_eq.1 hj with h | rfl
        · exact hall.out j h
        · rw [hx]; exact hb)
      have BEF := Lib.hid (show befP R b k ↔ (R b < R k ∨ (R b = R k ∧ b ≤ k)) from Iff.rfl)
      have HXI := Lib.hid hx
      clear hx hall
      generalize R b = tb at *
      generalize R k = tk at *
      have p0 := Under.cell q0
      have p1 := Under.cell s1
      have p2 := Under.cell s2
      have p3 := Under.cell hC0
      have p4 := Under.cell hC1
      by_cases h1 : tk < tb
      · have d1 : decide (tk < tb) = true := decide_eq_true h1
        have NX := Lib.hid (TAKE.out (fun h => by rcases BEF.out.1 h with h | h <;> omega))
        have HH := Lib.hid h1
        clear h1
        go_wp2_with fail
        (refine region_under (by kernel_rfl) (by kernel_rfl) ?_; (repeat (first | go_big_quiet_step ((fail)) | quiet_step ((fail)))); refine wpQuiet_nil ?_; intro _ hw'; obtain ⟨x, hw''⟩ := hw'; subst hw''; go_wp2_with fail)
        go_wp2_with fail
        exact ⟨⟨i + 1, k, by omega, by go_num, rfl, xn, xL, NX, p3 x, p4 x, hB.trans (x.2.mono hB.size)⟩, by simp [intOf]; omega⟩
      · have d1 : decide (tk < tb) = false := decide_eq_false h1
        by_cases h2 : tk = tb
        · have d2 : (tk == tb) = true := by simpa using h2
          by_cases h3 : k < b
          · have d3 : decide ((k : Int) < b) = true := decide_eq_true (by omega)
            have d4 : decide (k < b) = true := decide_eq_true h3
            have NX := Lib.hid (TAKE.out (fun h => by rcases BEF.out.1 h with h | h <;> omega))
            clear h1 h2 h3
            go_wp2_with fail
            (refine region_under (by kernel_rfl) (by kernel_rfl) ?_; (repeat (first | go_big_quiet_step ((fail)) | quiet_step ((fail)))); refine wpQuiet_nil ?_; intro _ hw'; obtain ⟨x, hw''⟩ := hw'; subst hw''; go_wp2_with fail)
            go_wp2_with fail
            exact ⟨⟨i + 1, k, by omega, by go_num, rfl, xn, xL, NX, p3 x, p4 x, hB.trans (x.2.mono hB.size)⟩, by simp [intOf]; omega⟩
          · have d3 : decide ((k : Int) < b) = false := decide_eq_false (by omega)
            have d4 : decide (k < b) = false := decide_eq_false h3
            have NX := Lib.hid (KEEP.out (BEF.out.2 (Or.inr ⟨h2.symm, by omega⟩)))
            clear h1 h2 h3
            go_wp2_with fail
            (refine region_under (by kernel_rfl) (by kernel_rfl) ?_; (repeat (first | go_big_quiet_step ((fail)) | quiet_step ((fail)))); refine wpQuiet_nil ?_; intro _ hw'; obtain ⟨x, hw''⟩ := hw'; subst hw''; go_wp2_with fail)
            go_wp2_with fail
            exact ⟨⟨i + 1, b, by omega, by go_num, rfl, hbn, hbL, NX, p3 x, p4 x, hB.trans (x.2.mono hB.size)⟩, by simp [intOf]; omega⟩
        · have d2 : (tk == tb) = false := by simpa using h2
          have NX := Lib.hid (KEEP.out (BEF.out.2 (Or.inl (by omega))))
          clear h1 h2
          go_wp2_with fail
          (refine region_under (by kernel_rfl) (by kernel_rfl) ?_; (repeat (first | go_big_quiet_step ((fail)) | quiet_step ((fail)))); refine wpQuiet_nil ?_; intro _ hw'; obtain ⟨x, hw''⟩ := hw'; subst hw''; go_wp2_with fail)
          go_wp2_with fail
          exact ⟨⟨i + 1, b, by omega, by go_num, rfl, hbn, hbL, NX, p3 x, p4 x, hB.trans (x.2.mono hB.size)⟩, by simp [intOf]; omega⟩
    · obtain rfl : m = i := by omega
      have HE := Lib.hid (show LeastP L R b from ⟨hbL, fun k hk => by
        obtain ⟨j, hj, e⟩ := List.getElem_of_mem hk
        have := hall.out j (by rw [← HLL.out]; exact hj)
        rw [List.getD_eq_getElem?_getD, List.getElem?_eq_getElem hj] at this
        rw [← e]; exact this⟩)
      go_wp2_with fail
      go_ret
      exact ⟨b, rfl, HE.out, hB⟩
end Go.Proofs.Ytlhjacgocggbcaa
