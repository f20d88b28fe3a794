/- The walks of the least of several ratios, the program's and the document's. -/
import Derived.Test.YtmehejdgdjaipaaRatioR
import Derived.LoopTactic
import Derived.Deep.LoopGhost
set_option linter.unusedVariables false
namespace Go.Proofs.Ytmehejdgdjaipaa
open Go.RowKit Go.Shelf
attribute [local go_sem ↓] lt_alloc

/-- Memory holds the ratios N i / D i, one behind the other. -/
def RowR (w : World) (b off len : Nat) (N D : Nat → Int) : Prop := ∀ i, i < len → w.cell? ⟨b, off + i * 2, none⟩ = some (.int .u64 (N i)) ∧ w.cell? ⟨b, off + i * 2 + 1, none⟩ = some (.int .u64 (D i))
theorem RowR.below {w w' : World} {b off len : Nat} {N D : Nat → Int} (h : RowR w b off len N D) (hb : Below w.heap.size w w') : RowR w' b off len N D :=
  fun i hi => ⟨keepB hb (h i hi).1, keepB hb (h i hi).2⟩
def InU (N : Nat → Int) : Prop := ∀ i, 0 ≤ N i ∧ N i < 18446744073709551616

theorem least1 (n d : Int) (w : World) : Calls Try.prog 38 #[.agg #[.int .u64 n, .int .u64 d]] w fun e w' => e = .returned (.bool (d != 0)) ∧ w.alloc (.cells #[.int .u64 n, .int .u64 d] 45) = w' := by
  go_enter Try.func38, Try.ntmps38
  go_wp2_with fail
  go_ret
  exact ⟨rfl, rfl⟩
theorem least2 (a b c d : Int) (a0 : 0 ≤ a) (a1 : a < 18446744073709551616) (b0 : 0 < b) (b1 : b < 18446744073709551616) (c0 : 0 ≤ c) (c1 : c < 18446744073709551616) (d0 : 0 < d) (d1 : d < 18446744073709551616) (t : Bool) (ht : decide (a * d < c * b) = t) (w : World) :
    Calls Try.prog 39 #[.agg #[.int .u64 a, .int .u64 b], .agg #[.int .u64 c, .int .u64 d]] w fun e w' => e = .returned (.bool t) ∧ Below w.heap.size w w' := by
  have e : decide (cmpS (a * d) (c * b) < 0) = t := by
    rw [← ht, decide_eq_decide]
    generalize a * d = x
    generalize c * b = y
    unfold cmpS
    split
    · omega
    · split <;> omega
  have E := Lib.hid e
  clear e ht
  go_enter Try.func39, Try.ntmps39
  go_wp2_with (go_at_call 40; refine (ratio_CmpP a b c d a0 a1 b0 b1 c0 c1 d0 d1 _).mono ?_; rintro r w1 ⟨rfl, hb1⟩)
  have hB1 : Below w.heap.size w w1 := by repeat' (first | (with_reducible exact Below.refl _ _) | (with_reducible assumption) | (with_reducible refine Below.trans ?_ (Below.mono hb1 ?_)) | (with_reducible refine Below.alloc ?_ ?_ _) | (with_reducible refine below_drewN ?_ _) | (with_reducible refine Below.drew ?_) | (with_reducible refine Below.setCell ?_ ?_ _) | go_size | omega | (simp; omega))
  go_ret
  exact ⟨ret_b E.out, hB1⟩

theorem lst_skip {N D : Nat → Int} {k p : Nat} {f : Bool} (h : lst N D k = (p, f)) (hz : D k = 0) : lst N D (k + 1) = (p, f) := by
  rw [lst, if_pos hz, h]
theorem lst_first {N D : Nat → Int} {k p : Nat} (h : lst N D k = (p, false)) (hz : ¬ D k = 0) : lst N D (k + 1) = (k, true) := by
  rw [lst, if_neg hz, if_pos (Or.inl (by rw [h]))]
theorem lst_less {N D : Nat → Int} {k p : Nat} {f : Bool} (h : lst N D k = (p, f)) (hz : ¬ D k = 0) (hl : N k * D p < N p * D k) : lst N D (k + 1) = (k, true) := by
  rw [lst, if_neg hz, if_pos (Or.inr (by rw [h]; exact hl))]
theorem lst_keep {N D : Nat → Int} {k p : Nat} (h : lst N D k = (p, true)) (hz : ¬ D k = 0) (hl : ¬ N k * D p < N p * D k) : lst N D (k + 1) = (p, true) := by
  rw [lst, if_neg hz, if_neg (by rw [h]; simpa using hl), h]
theorem lst_found {N D : Nat → Int} {k p : Nat} (hD : ∀ i, 0 ≤ D i) (h : lst N D k = (p, true)) : p < k ∧ 0 < D p := by
  have := (lst_spec N D hD k).2 (by rw [h])
  rw [h] at this
  exact ⟨this.1, this.2.1⟩
set_option maxHeartbeats 2000000 in
theorem least_some (b off len cap : Nat) (N D : Nat → Int) (hN : InU N) (hD : InU D) (hl : len ≤ 9223372036854775807) (w : World) (hrow : RowR w b off len N D) :
    Calls Try.prog 41 #[.slice (some ⟨b, off, none⟩) len cap, .func (.func 38) #[] #[], .func (.func 39) #[] #[]] w fun e w' =>
      e = .returned (.tuple #[.int .i64 (lst N D len).1, .bool (lst N D len).2]) ∧ Below w.heap.size w w' := by
  have HR := Lib.hid hrow
  have HN := Lib.hid hN
  have HD := Lib.hid hD
  clear hrow hN hD
  go_enter Try.func41, Try.ntmps41
  go_wp2_with fail
  go_step3
  go_wp2_with fail
  go_step3
  go_wp2_with fail
  go_loopw [8, 9, 14] (fun p f i wr => ∃ (k p' : Nat) (f' : Bool), k ≤ len ∧ Hid (lst N D k = (p', f')) ∧ i = .int .i64 k ∧ p = .int .i64 p' ∧ f = .bool f' ∧ Below w.heap.size w wr) (fun _ _ i _ => len - (intOf i).toNat)
  case atStart => exact ⟨0, 0, false, Nat.zero_le _, Lib.hid rfl, rfl, rfl, rfl, Below.refl _ _⟩
  case round =>
    obtain ⟨k, p, f, hk, hpf, rfl, rfl, rfl, hB⟩ := hrel
    have hS := hB.size
    by_cases hlt : k < len
    · obtain ⟨hcN, hcD⟩ := (HR.out.below hB) k hlt
      obtain ⟨n0, n1⟩ := HN.out k
      obtain ⟨d0, d1⟩ := HD.out k
      by_cases hz : D k = 0
      · have HZ := Lib.hid hz
        have hd : (D k != 0) = false := by simp [hz]
        clear hz
        go_wp2_with (go_at_call 38; refine (least1 _ _ _).mono ?_; rintro e w' ⟨rfl, rfl⟩)
        exact ⟨⟨k + 1, p, f, by omega, Lib.hid (lst_skip hpf.out HZ.out), by go_num, rfl, rfl, by repeat' (first | (with_reducible exact Below.refl _ _) | (with_reducible assumption) | (with_reducible refine Below.alloc ?_ ?_ _) | (with_reducible refine below_drewN ?_ _) | (with_reducible refine Below.drew ?_) | (with_reducible refine Below.setCell ?_ ?_ _) | go_size | omega | (simp; omega))⟩, by simp [intOf]; omega⟩
      · have dp : 0 < D k := by omega
        have hd : (D k != 0) = true := by simp [hz]
        have HZ := Lib.hid hz
        clear hz
        cases f
        · go_wp2_with (go_at_call 38; refine (least1 _ _ _).mono ?_; rintro e w' ⟨rfl, rfl⟩)
          go_quiet (fail)
          go_wp2_with fail
          exact ⟨⟨k + 1, k, true, by omega, Lib.hid (lst_first hpf.out HZ.out), by go_num, rfl, rfl, by repeat' (first | (with_reducible exact Below.refl _ _) | (with_reducible assumption) | (with_reducible refine Below.alloc ?_ ?_ _) | (with_reducible refine below_drewN ?_ _) | (with_reducible refine Below.drew ?_) | (with_reducible refine Below.setCell ?_ ?_ _) | go_size | omega | (simp; omega))⟩, by simp [intOf]; omega⟩
        · obtain ⟨hp, hp0⟩ := lst_found (fun i => (HD.out i).1) hpf.out
          have hpl : p < len := by omega
          obtain ⟨hpN, hpD⟩ := (HR.out.below hB) p hpl
          obtain ⟨m0, m1⟩ := HN.out p
          obtain ⟨e0, e1⟩ := HD.out p
          go_wp2_with (go_at_call 38; refine (least1 _ _ _).mono ?_; rintro e w' ⟨rfl, rfl⟩)
          refine forget (fun W => W.cell? ⟨wr.heap.size, 0, none⟩ = some (.int .u64 (N k)) ∧ W.cell? ⟨wr.heap.size, 1, none⟩ = some (.int .u64 (D k)) ∧ W.cell? ⟨b, off + p * 2, none⟩ = some (.int .u64 (N p)) ∧ W.cell? ⟨b, off + p * 2 + 1, none⟩ = some (.int .u64 (D p)) ∧ Below w.heap.size w W) ⟨?_, ?_, ?_, ?_, ?_⟩ ?_
          · repeat (first | (with_reducible assumption) | (simp (maxDischargeDepth := 9) [go_sem]; done) | refine keepA _ ?_ | refine keepD _ ?_)
          · repeat (first | (with_reducible assumption) | (simp (maxDischargeDepth := 9) [go_sem]; done) | refine keepA _ ?_ | refine keepD _ ?_)
          · repeat (first | (with_reducible assumption) | (simp (maxDischargeDepth := 9) [go_sem]; done) | refine keepA _ ?_ | refine keepD _ ?_)
          · repeat (first | (with_reducible assumption) | (simp (maxDischargeDepth := 9) [go_sem]; done) | refine keepA _ ?_ | refine keepD _ ?_)
          · repeat' (first | (with_reducible exact Below.refl _ _) | (with_reducible assumption) | (with_reducible refine Below.alloc ?_ ?_ _) | (with_reducible refine below_drewN ?_ _) | (with_reducible refine Below.drew ?_) | (with_reducible refine Below.setCell ?_ ?_ _) | go_size | omega | (simp; omega))
          rintro W ⟨q1, q2, q3, q4, hB'⟩
          have u1 := Under.cell q1; have u2 := Under.cell q2; have u3 := Under.cell q3; have u4 := Under.cell q4
          clear q1 q2 q3 q4 hcN hcD hpN hpD
          by_cases hc : N k * D p < N p * D k
          · have HC := Lib.hid hc
            have ht := Lib.hid (show decide (N k * D p < N p * D k) = true from decide_eq_true hc)
            clear hc
            (refine region_under (by kernel_rfl) (by kernel_rfl) ?_; (repeat (first | go_big_quiet_step ((go_at_call 39; exact quietU (least2 _ _ _ _ n0 n1 dp d1 m0 m1 hp0 e1 true ht.out _))) | quiet_step ((go_at_call 39; exact quietU (least2 _ _ _ _ n0 n1 dp d1 m0 m1 hp0 e1 true ht.out _))))); refine wpQuiet_nil ?_; intro _ hw'; obtain ⟨x, hw''⟩ := hw'; subst hw''; go_wp2_with fail)
            exact ⟨⟨k + 1, k, true, by omega, Lib.hid (lst_less hpf.out HZ.out HC.out), by go_num, rfl, rfl, hB'.trans (x.2.mono hB'.size)⟩, by simp [intOf]; omega⟩
          · have HC := Lib.hid hc
            have ht := Lib.hid (show decide (N k * D p < N p * D k) = false from decide_eq_false hc)
            clear hc
            (refine region_under (by kernel_rfl) (by kernel_rfl) ?_; (repeat (first | go_big_quiet_step ((go_at_call 39; exact quietU (least2 _ _ _ _ n0 n1 dp d1 m0 m1 hp0 e1 false ht.out _))) | quiet_step ((go_at_call 39; exact quietU (least2 _ _ _ _ n0 n1 dp d1 m0 m1 hp0 e1 false ht.out _))))); refine wpQuiet_nil ?_; intro _ hw'; obtain ⟨x, hw''⟩ := hw'; subst hw''; go_wp2_with fail)
            exact ⟨⟨k + 1, p, true, by omega, Lib.hid (lst_keep hpf.out HZ.out HC.out), by go_num, rfl, rfl, hB'.trans (x.2.mono hB'.size)⟩, by simp [intOf]; omega⟩
    · obtain rfl : k = len := by omega
      go_wp2_with fail
      rw [Exit.noGoto_ret]; show bodyPost _ _ _ _ _ _
      go_ret2
      exact ⟨by rw [hpf.out]; rfl, hB⟩
theorem ratio_Least (b off len cap : Nat) (N D : Nat → Int) (hN : InU N) (hD : InU D) (hl : len ≤ 9223372036854775807) (w : World) (hrow : RowR w b off len N D) :
    Calls Try.prog 24 #[.slice (some ⟨b, off, none⟩) len cap] w fun e w' => e = .returned (.tuple #[.int .i64 (lst N D len).1, .bool (lst N D len).2]) ∧ Below w.heap.size w w' := by
  have HR := Lib.hid hrow
  clear hrow
  go_enter Try.func24, Try.ntmps24
  go_wp2_with (go_at_call 41; refine (least_some b off len cap N D hN hD hl _ HR.out).mono ?_; rintro e w' ⟨rfl, hb⟩)
  go_ret2
  exact ⟨rfl, hb⟩
/-- Nil, or a row. -/
def IsRats (w : World) (a : Option Addr) (len cap : Nat) (N D : Nat → Int) : Prop := len = 0 ∨ ∃ b off, a = some ⟨b, off, none⟩ ∧ len ≤ 9223372036854775807 ∧ RowR w b off len N D
theorem IsRats.below {w w' : World} {a : Option Addr} {len cap : Nat} {N D : Nat → Int} (h : IsRats w a len cap N D) (hb : Below w.heap.size w w') : IsRats w' a len cap N D := by
  rcases h with h | ⟨b, off, h1, h2, h3⟩
  · exact Or.inl h
  · exact Or.inr ⟨b, off, h1, h2, h3.below hb⟩
theorem least_nil (a : Option Addr) (cap : Nat) (w : World) :
    Calls Try.prog 41 #[.slice a 0 cap, .func (.func 38) #[] #[], .func (.func 39) #[] #[]] w fun e w' => e = .returned (.tuple #[.int .i64 0, .bool false]) ∧ w = w' := by
  go_enter Try.func41, Try.ntmps41
  go_wp2_with fail
  go_step3
  go_wp2_with fail
  go_step3
  go_wp2_with fail
  refine wp_loop_rounds 2 ?_
  rw [rounds_succ]
  go_wp2_with fail
  rw [Exit.noGoto_ret]; show bodyPost _ _ _ _ _ _
  go_ret2
  exact ⟨rfl, rfl⟩
theorem ratio_Least_any {a : Option Addr} {len cap : Nat} {N D : Nat → Int} (hN : InU N) (hD : InU D) (w : World) (h : IsRats w a len cap N D) :
    Calls Try.prog 24 #[.slice a len cap] w fun e w' => e = .returned (.tuple #[.int .i64 (lst N D len).1, .bool (lst N D len).2]) ∧ Below w.heap.size w w' := by
  rcases h with rfl | ⟨b, off, rfl, hl, hr⟩
  · go_enter Try.func24, Try.ntmps24
    go_wp2_with (go_at_call 41; refine (least_nil _ _ _).mono ?_; rintro e w' ⟨rfl, rfl⟩)
    go_ret2
    exact ⟨rfl, Below.refl _ _⟩
  · exact ratio_Least b off len cap N D hN hD hl w hr
end Go.Proofs.Ytmehejdgdjaipaa
