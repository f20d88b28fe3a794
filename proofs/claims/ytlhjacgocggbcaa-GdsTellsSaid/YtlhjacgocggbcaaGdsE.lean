/- The walks of objects.has, objects.may, and the document's weight. -/
import Derived.Test.YtlhjacgocggbcaaGdsD
set_option linter.unusedVariables false
set_option maxRecDepth 100000
set_option maxHeartbeats 1000000
namespace Go.Proofs.Ytlhjacgocggbcaa
open Go.RowKit Go.Shelf
attribute [local go_sem ↓] lt_alloc

def hasB (n nc : Nat) (a : Int) : Bool := decide (0 ≤ a) && decide (a < n) && decide (a < nc)
theorem gds_has {sv cv : Option Addr} {n nc cs cc : Nat} (a : Int) (w : World) :
    Calls Try.prog 21 #[.agg #[.slice sv n cs, .slice cv nc cc], .int .i64 a] w fun e w' => e = .returned (.bool (hasB n nc a)) ∧ Below w.heap.size w w' := by
  have e : hasB n nc a = (decide (0 ≤ a) && decide (a < n) && decide (a < nc)) := rfl
  by_cases h0 : 0 ≤ a
  · by_cases h1 : a < n
    · have e1 : hasB n nc a = decide (a < nc) := by rw [e]; simp [h0, h1]
      rw [e1]
      go_enter Try.func21, Try.ntmps21
      go_wp2_with fail
      go_ret
      exact ⟨rfl, (Below.refl _ _).alloc (Nat.le_refl _) _⟩
    · have e1 : hasB n nc a = false := by rw [e]; simp [h1]
      rw [e1]
      go_enter Try.func21, Try.ntmps21
      go_wp2_with fail
      go_ret
      exact ⟨rfl, (Below.refl _ _).alloc (Nat.le_refl _) _⟩
  · have e1 : hasB n nc a = false := by rw [e]; simp [h0]
    rw [e1]
    go_enter Try.func21, Try.ntmps21
    go_wp2_with fail
    go_ret
    exact ⟨rfl, (Below.refl _ _).alloc (Nat.le_refl _) _⟩
def oneOk (Z C : Nat → Int) (i : Nat) : Prop := 1 ≤ Z i ∧ Z i ≤ 4096 ∧ 0 ≤ C i ∧ C i ≤ 1048576
instance (Z C : Nat → Int) (i : Nat) : Decidable (oneOk Z C i) := by unfold oneOk; infer_instance
def mayP (Z C : Nat → Int) (n nc : Nat) : Prop := n ≤ 64 ∧ n = nc ∧ ∀ i, i < n → oneOk Z C i
instance (Z C : Nat → Int) (n nc : Nat) : Decidable (mayP Z C n nc) := by unfold mayP; infer_instance
theorem gds_may {sa ca : Option Addr} {n nc cs cc : Nat} {Z C : Nat → Int} (hZ : InK .i64 Z) (hC : InK .i64 C) (w : World) (iZ : IsK .i64 w sa n Z) (iC : IsK .i64 w ca nc C) :
    Calls Try.prog 20 #[.agg #[.slice sa n cs, .slice ca nc cc]] w fun e w' => e = .returned (.bool (decide (mayP Z C n nc))) ∧ Below w.heap.size w w' := by
  have HZ := Lib.hid hZ
  have HC := Lib.hid hC
  have IZ := Lib.hid iZ
  have IC := Lib.hid iC
  clear hZ hC iZ iC
  by_cases h64 : n ≤ 64
  · by_cases hn : n = nc
    · subst hn
      have HM := Lib.hid (show mayP Z C n n ↔ ∀ i, i < n → oneOk Z C i from ⟨fun h => h.2.2, fun h => ⟨h64, rfl, h⟩⟩)
      obtain ⟨b, hb⟩ : ∃ b, decide (mayP Z C n n) = b := ⟨_, rfl⟩
      rw [hb]
      have HB := Lib.hid hb
      clear hb
      have h64' : ¬ (64 : Int) < n := by omega
      have h64'' : decide ((64 : Int) < n) = false := by simp; omega
      go_enter Try.func20, Try.ntmps20
      go_wp2_with fail
      refine forget (fun W => W.cell? ⟨w.heap.size, 0, none⟩ = some (.slice sa n cs) ∧ W.cell? ⟨w.heap.size, 1, none⟩ = some (.slice ca n cc) ∧ Below w.heap.size w W ∧ w.heap.size < W.heap.size) ⟨?_, ?_, ?_, ?_⟩ ?_
      · repeat (first | (with_reducible assumption) | (simp (maxDischargeDepth := 9) [go_sem]; done) | refine keepA _ ?_ | refine keepD _ ?_)
      · repeat (first | (with_reducible assumption) | (simp (maxDischargeDepth := 9) [go_sem]; done) | refine keepA _ ?_ | refine keepD _ ?_)
      · repeat' (first | (with_reducible exact Below.refl _ _) | (with_reducible assumption) | (with_reducible refine Below.alloc ?_ ?_ _) | (with_reducible refine below_drewN ?_ _) | (with_reducible refine Below.drew ?_) | (with_reducible refine Below.setCell ?_ ?_ _) | go_size | omega | (simp; omega))
      · simp
      rintro W ⟨r1, r2, hB, hS⟩
      have R2 := Lib.hid r2
      clear r1 r2
      go_loopw [21] (fun iv wr => ∃ i : Nat, i ≤ n ∧ iv = .int .i64 i ∧ Hid (∀ j, j < i → oneOk Z C j) ∧ Below W.heap.size W wr) (fun iv _ => n - (intOf iv).toNat)
      case atStart => exact ⟨0, Nat.zero_le _, rfl, Lib.hid (fun j hj => absurd hj (Nat.not_lt_zero j)), Below.refl _ _⟩
      case round =>
        obtain ⟨i, hi, rfl, hall, hBW⟩ := hrel
        have hSW := hBW.size
        have hB' := hB.trans (hBW.mono hB.size)
        have p2 : wr.cell? ⟨w.heap.size, 1, none⟩ = some (.slice ca n cc) := keepB hBW R2.out
        by_cases hlt : i < n
        · obtain ⟨b1, o1, e1, l1, q1⟩ := IZ.out.row hlt
          obtain ⟨b2, o2, e2, l2, q2⟩ := IC.out.row hlt
          subst e1 e2
          have q1' := keepB hB' q1
          have q2' := keepB hB' q2
          have hin : (i : Int) < n := by omega
          clear q1 q2
          have bad : ¬ oneOk Z C i → b = false := fun h => HB.out.symm.trans (decide_eq_false fun hm => h (HM.out.1 hm i hlt))
          by_cases h1 : Z i < 1
          · have e := bad (by unfold oneOk; omega)
            subst e
            clear bad hall
            generalize hz : Z i = z at *
            clear hz
            have d1 : decide (z < 1) = true := by simpa using h1
            go_wp2_with fail
            go_ret
            exact ⟨rfl, hB'⟩
          · by_cases h2 : 4096 < Z i
            · have e := bad (by unfold oneOk; omega)
              subst e
              clear bad hall
              generalize hz : Z i = z at *
              clear hz
              have d1 : decide (z < 1) = false := by simpa using h1
              have d2 : decide (4096 < z) = true := by simpa using h2
              go_wp2_with fail
              go_ret
              exact ⟨rfl, hB'⟩
            · by_cases h3 : C i < 0
              · have e := bad (by unfold oneOk; omega)
                subst e
                clear bad hall
                generalize hz : Z i = z at *
                generalize hc : C i = c at *
                clear hz hc
                have d1 : decide (z < 1) = false := by simpa using h1
                have d2 : decide (4096 < z) = false := by simpa using h2
                have d3 : decide (c < 0) = true := by simpa using h3
                go_wp2_with fail
                go_ret
                exact ⟨rfl, hB'⟩
              · by_cases h4 : 1048576 < C i
                · have e := bad (by unfold oneOk; omega)
                  subst e
                  clear bad hall
                  generalize hz : Z i = z at *
                  generalize hc : C i = c at *
                  clear hz hc
                  have d1 : decide (z < 1) = false := by simpa using h1
                  have d2 : decide (4096 < z) = false := by simpa using h2
                  have d3 : decide (c < 0) = false := by simpa using h3
                  have d4 : decide (1048576 < c) = true := by simpa using h4
                  go_wp2_with fail
                  go_ret
                  exact ⟨rfl, hB'⟩
                · have hall' := Lib.hid (fun j (hj : j < i + 1) => show oneOk Z C j from by
                    rcases Nat.lt_succ_iff_lt_or_eq.1 hj with h | rfl
                    · exact hall.out j h
                    · unfold oneOk; omega)
                  clear bad hall
                  generalize hz : Z i = z at *
                  generalize hc : C i = c at *
                  clear hz hc
                  have d1 : decide (z < 1) = false := by simpa using h1
                  have d2 : decide (4096 < z) = false := by simpa using h2
                  have d3 : decide (c < 0) = false := by simpa using h3
                  have d4 : decide (1048576 < c) = false := by simpa using h4
                  go_wp2_with fail
                  exact ⟨⟨i + 1, by omega, by go_num, hall', hBW⟩, by simp [intOf]; omega⟩
        · obtain rfl : i = n := by omega
          obtain rfl : b = true := HB.out.symm.trans (decide_eq_true (HM.out.2 (fun j hj => hall.out j hj)))
          clear hall
          go_wp2_with fail
          go_ret
          exact ⟨rfl, hB'⟩
    · have e : decide (mayP Z C n nc) = false := decide_eq_false fun h => hn h.2.1
      rw [e]
      have h64' : decide ((64 : Int) < n) = false := by simp; omega
      have hne : ((n : Int) != nc) = true := by simp; omega
      go_enter Try.func20, Try.ntmps20
      go_wp2_with fail
      go_ret
      exact ⟨rfl, (Below.refl _ _).alloc (Nat.le_refl _) _⟩
  · have e : decide (mayP Z C n nc) = false := decide_eq_false fun h => h64 h.1
    rw [e]
    have h64' : decide ((64 : Int) < n) = true := by simp; omega
    go_enter Try.func20, Try.ntmps20
    go_wp2_with fail
    go_ret
    exact ⟨rfl, (Below.refl _ _).alloc (Nat.le_refl _) _⟩
end Go.Proofs.Ytlhjacgocggbcaa
