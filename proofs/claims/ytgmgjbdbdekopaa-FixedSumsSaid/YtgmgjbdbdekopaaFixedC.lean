/- The walks of the layer fixed: each function comes to the plain number of FixedS. -/
import Derived.Test.YtgmgjbdbdekopaaRatioC
import Derived.Test.YtgmgjbdbdekopaaWordC
import Derived.Test.YtgmgjbdbdekopaaFixedS
import Derived.LoopTactic
set_option linter.unusedVariables false
namespace Go.Proofs.Ytgmgjbdbdekopaa
open Go.RowKit Go.Shelf
attribute [local go_sem ↓] lt_alloc

theorem One_bd : (0 : Int) ≤ 4294967296 ∧ (4294967296 : Int) < 18446744073709551616 := by decide
theorem fixed_Of (a b : Int) (a0 : 0 ≤ a) (a1 : a < 18446744073709551616) (b0 : 0 ≤ b) (b1 : b < 18446744073709551616) (w : World) :
    Calls Try.prog 10 #[.int .u64 a, .int .u64 b] w fun e w' => e = .returned (.tuple #[.int .u64 (fxV a b), .int .i64 (fxE a b)]) ∧ Below w.heap.size w w' := by
  go_enter Try.func10, Try.ntmps10
  go_wp2_with (go_at_call 24; refine (ratio_Floor a 4294967296 b a0 a1 (by decide) (by decide) b0 b1 _).mono ?_; rintro e w' ⟨rfl, hb⟩)
  go_ret2
  exact ⟨rfl, hb⟩
theorem fixed_Div (a b : Int) (a0 : 0 ≤ a) (a1 : a < 18446744073709551616) (b0 : 0 ≤ b) (b1 : b < 18446744073709551616) (w : World) :
    Calls Try.prog 12 #[.int .u64 a, .int .u64 b] w fun e w' => e = .returned (.tuple #[.int .u64 (fxV a b), .int .i64 (fxE a b)]) ∧ Below w.heap.size w w' := by
  go_enter Try.func12, Try.ntmps12
  go_wp2_with (go_at_call 24; refine (ratio_Floor a 4294967296 b a0 a1 (by decide) (by decide) b0 b1 _).mono ?_; rintro e w' ⟨rfl, hb⟩)
  go_ret2
  exact ⟨rfl, hb⟩
theorem fixed_Mul (a b : Int) (a0 : 0 ≤ a) (a1 : a < 18446744073709551616) (b0 : 0 ≤ b) (b1 : b < 18446744073709551616) (w : World) :
    Calls Try.prog 14 #[.int .u64 a, .int .u64 b] w fun e w' => e = .returned (.int .u64 (mulF a b)) ∧ Below w.heap.size w w' := by
  obtain ⟨m1, m2⟩ := mulF_of a0 b0
  have k := fun w => ratio_Floor a b 4294967296 a0 a1 b0 b1 (by decide) (by decide) w
  generalize partE (a * b / 4294967296) 4294967296 = e at *
  generalize partV (a * b / 4294967296) 4294967296 = v at *
  by_cases he : e = 0
  · subst he
    have M := Lib.hid (m1 rfl)
    clear m1 m2
    go_enter Try.func14, Try.ntmps14
    go_wp2_with (go_at_call 24; refine (k _).mono ?_; rintro e w' ⟨rfl, hb⟩)
    go_ret
    exact ⟨ret_u M.out, hb⟩
  · have M := Lib.hid (m2 he)
    have he1 : (e != 0) = true := by simpa using he
    clear m1 m2 he
    go_enter Try.func14, Try.ntmps14
    go_wp2_with (go_at_call 24; refine (k _).mono ?_; rintro e w' ⟨rfl, hb⟩)
    go_ret
    exact ⟨ret_u M.out, hb⟩
theorem fixed_Whole (a : Int) (a0 : 0 ≤ a) (a1 : a < 18446744073709551616) (w : World) :
    Calls Try.prog 16 #[.int .u64 a] w fun e w' => e = .returned (.int .u64 (a / 4294967296)) ∧ w = w' := by
  go_enter Try.func16, Try.ntmps16
  go_wp2_with fail
  go_ret
  exact ⟨rfl, rfl⟩
theorem fixed_Part (a : Int) (a0 : 0 ≤ a) (a1 : a < 18446744073709551616) (w : World) :
    Calls Try.prog 18 #[.int .u64 a] w fun e w' => e = .returned (.int .u64 (a % 4294967296)) ∧ w = w' := by
  go_enter Try.func18, Try.ntmps18
  go_wp2_with fail
  go_ret
  exact ⟨rfl, rfl⟩
theorem two_cells {w : World} {p : Nat} {x y A B : Value} (hX : w.cell? ⟨p, 0, none⟩ = some x) (hY : w.cell? ⟨p, 1, none⟩ = some y) :
    ((w.setCell ⟨p, 0, none⟩ A).setCell ⟨p, 1, none⟩ B).cell? ⟨p, 0, none⟩ = some A ∧ ((w.setCell ⟨p, 0, none⟩ A).setCell ⟨p, 1, none⟩ B).cell? ⟨p, 1, none⟩ = some B := by
  have h1 : (w.setCell ⟨p, 0, none⟩ A).cell? ⟨p, 0, none⟩ = some A := World.cell?_setCell_same w _ _ hX
  have h2 : (w.setCell ⟨p, 0, none⟩ A).cell? ⟨p, 1, none⟩ = some y := (World.cell?_setCell_other w _ _ _ (by simp)).trans hY
  exact ⟨(World.cell?_setCell_other _ _ _ _ (by simp)).trans h1, World.cell?_setCell_same _ _ _ h2⟩
theorem keep4 {w : World} {a : Addr} {v : Value} (o1 o2 o3 o4 : Obj) (h : w.cell? a = some v) : ((((w.alloc o1).alloc o2).alloc o3).alloc o4).drew.cell? a = some v :=
  keepD 1 (keepA o4 (keepA o3 (keepA o2 (keepA o1 h))))
theorem froz4 (w : World) (a b : Addr) (A B : Value) (c1 c2 c3 c4 : Array Value) (t1 t2 t3 t4 : TypeId) (x : Addr) :
    ((((((w.setCell a A).setCell b B).alloc (.cells c1 t1)).alloc (.cells c2 t2)).alloc (.cells c3 t3)).alloc (.cells c4 t4)).drew.frozen? x = w.frozen? x := by
  show ((((((w.setCell a A).setCell b B).alloc (.cells c1 t1)).alloc (.cells c2 t2)).alloc (.cells c3 t3)).alloc (.cells c4 t4)).frozen? x = _
  rw [frozen?_alloc_cells, frozen?_alloc_cells, frozen?_alloc_cells, frozen?_alloc_cells, World.frozen?_setCell, World.frozen?_setCell]
set_option maxHeartbeats 1000000 in
theorem mix1 (n s X Y : Int) (p : Nat) (n0 : 0 ≤ n) (n1 : n < 18446744073709551616) (s0 : 0 ≤ s) (s1 : s < 18446744073709551616) (X0 : 0 ≤ X) (X1 : X < 18446744073709551616) (Y0 : 0 ≤ Y) (Y1 : Y < 18446744073709551616) (w : World)
    (hX : w.cell? ⟨p, 0, none⟩ = some (.int .u64 X)) (hY : w.cell? ⟨p, 1, none⟩ = some (.int .u64 Y)) (f0 : w.frozen? ⟨p, 0, none⟩ = false) (f1 : w.frozen? ⟨p, 1, none⟩ = false) :
    Calls Try.prog 27 #[.int .u64 n, .int .u64 s, .pointer (some ⟨p, 0, none⟩)] w fun e w' => e = .returned (.tuple #[]) ∧
      w'.cell? ⟨p, 0, none⟩ = some (.int .u64 (wHi (wN X Y + wN (wHi (n * s)) (wLo (n * s))))) ∧ w'.cell? ⟨p, 1, none⟩ = some (.int .u64 (wLo (wN X Y + wN (wHi (n * s)) (wLo (n * s))))) ∧
      w'.frozen? ⟨p, 0, none⟩ = false ∧ w'.frozen? ⟨p, 1, none⟩ = false ∧ Below p w w' := by
  have hz : p < w.heap.size := World.block_lt_of_cell? w _ hX
  have k1 := fun w => wide_Mul_exact n s n0 n1 s0 s1 w
  have k2 := fun w => wide_Add_exact X Y (wHi (n * s)) (wLo (n * s)) X0 X1 Y0 Y1 (wHi_bd _).1 (wHi_bd _).2 (wLo_bd _).1 (wLo_bd _).2 w
  generalize wHi (wN X Y + wN (wHi (n * s)) (wLo (n * s))) = A at *
  generalize wLo (wN X Y + wN (wHi (n * s)) (wLo (n * s))) = B at *
  generalize wHi (n * s) = C at *
  generalize wLo (n * s) = D at *
  go_enter Try.func27, Try.ntmps27
  go_region_with (first
    | (go_at_call 29; refine (k1 _).mono ?_; rintro e w' ⟨rfl, rfl⟩)
    | (go_at_call 28; refine (k2 _).mono ?_; rintro e w' ⟨rfl, rfl⟩))
  all_goals
    go_end0
    refine ⟨rfl, ?_, ?_, ?_, ?_, ?_⟩
    · exact keep4 _ _ _ _ (two_cells hX hY).1
    · exact keep4 _ _ _ _ (two_cells hX hY).2
    · exact (froz4 _ _ _ _ _ _ _ _ _ _ _ _ _ _).trans f0
    · exact (froz4 _ _ _ _ _ _ _ _ _ _ _ _ _ _).trans f1
    · repeat' (first | (with_reducible exact Below.refl _ _) | (with_reducible assumption) | (with_reducible refine Below.alloc ?_ ?_ _) | (with_reducible refine below_drewN ?_ _) | (with_reducible refine Below.drew ?_) | (with_reducible refine Below.setCell ?_ ?_ _) | go_size | omega | (simp; omega))
set_option maxHeartbeats 1000000 in
theorem fixed_Mix (a b m : Int) (a0 : 0 ≤ a) (a1 : a < 18446744073709551616) (b0 : 0 ≤ b) (b1 : b < 18446744073709551616) (m0 : 0 ≤ m) (m1 : m < 18446744073709551616) (w : World) :
    Calls Try.prog 20 #[.int .u64 a, .int .u64 b, .int .u64 m] w fun e w' => e = .returned (.int .u64 (mixF a b m)) ∧ Below w.heap.size w w' := by
  obtain ⟨h1, h2, h3, h4⟩ := mix_bd a0 a1 b0 b1 m0
  have hB := mixF_bd a0 a1 b0 b1 m0
  have c1 := fun w p x y z t => mix1 b (min m 4294967296) 0 0 p b0 b1 (by omega) (by omega) (by decide) (by decide) (by decide) (by decide) w x y z t
  have e0 : wN 0 0 + wN (wHi (b * min m 4294967296)) (wLo (b * min m 4294967296)) = b * min m 4294967296 := by
    rw [wN_of h1 (by omega)]; simp [wN]
  rw [e0] at c1
  have c2 := fun w p x y z t => mix1 a (4294967296 - min m 4294967296) (wHi (b * min m 4294967296)) (wLo (b * min m 4294967296)) p a0 a1 (by omega) (by omega) (wHi_bd _).1 (wHi_bd _).2 (wLo_bd _).1 (wLo_bd _).2 w x y z t
  rw [wN_of h1 (by omega), wN_of h2 (by omega)] at c2
  have c3 := fun w => wide_Shr (wHi (b * min m 4294967296 + a * (4294967296 - min m 4294967296))) (wLo (b * min m 4294967296 + a * (4294967296 - min m 4294967296))) 32 (wHi_bd _).1 (wHi_bd _).2 (wLo_bd _).1 (wLo_bd _).2 (by decide) (by decide) w
  rw [wN_of (by omega) (by omega), wShr_32] at c3
  have e3 : wLo ((b * min m 4294967296 + a * (4294967296 - min m 4294967296)) / 4294967296) = mixF a b m := by
    show wLo (mixF a b m) = _
    unfold wLo; omega
  rw [e3] at c3
  clear e0 e3 h1 h2 h3 h4 hB
  generalize wHi ((b * min m 4294967296 + a * (4294967296 - min m 4294967296)) / 4294967296) = z at *
  generalize wHi (b * min m 4294967296 + a * (4294967296 - min m 4294967296)) = X2 at *
  generalize wLo (b * min m 4294967296 + a * (4294967296 - min m 4294967296)) = Y2 at *
  generalize wHi (b * min m 4294967296) = X1 at *
  generalize wLo (b * min m 4294967296) = Y1 at *
  generalize mixF a b m = M at *
  have hmf : ∀ (fn : Fn) (first cap : Array Value) (w : World), (Instr.makeFunc fn first cap).run Try.prog w = .ok (.func fn first cap) w := fun _ _ _ _ => rfl
  go_enter Try.func20, Try.ntmps20
  go_wp2_with (go_at_call 26; refine (wide_Of_exact _ _).mono ?_; rintro e w' ⟨rfl, rfl⟩)
  refine (c1 _ _ (by simp [go_sem]) (by simp [go_sem]) (by simp [go_sem]) (by simp [go_sem])).mono ?_
  rintro e w1 ⟨rfl, q0, q1, g0, g1, hb1⟩
  have hB1 : Below w.heap.size w w1 := (((Below.refl _ _).alloc (Nat.le_refl _) _).alloc (by simp) _).trans (hb1.mono (by omega))
  have hp : w.heap.size ≤ w.heap.size + 1 := by omega
  clear hb1 c1
  generalize w.heap.size + 1 = p at *
  go_wp2_with fail
  refine (c2 _ _ q0 q1 g0 g1).mono ?_
  rintro e w2 ⟨rfl, u0, u1, v0, v1, hb2⟩
  have hB2 : Below w.heap.size w w2 := hB1.trans (hb2.mono hp)
  have hS2 := hB2.size
  clear hb2 c2 q0 q1 g0 g1
  go_wp2_with fail
  refine (c3 _).mono ?_
  rintro e w3 ⟨rfl, hb3⟩
  have hB3 : Below w.heap.size w w3 := hB2.trans (hb3.mono hS2)
  have hfd : ∀ (x y : Int) (w : World), (Instr.field 43 (.agg #[.int .u64 x, .int .u64 y]) 1).run Try.prog w = .ok (.int .u64 y) w := fun _ _ _ => by first | kernel_rfl | rfl
  go_wp2_with fail
  go_ret
  exact ⟨rfl, hB3⟩
def RowI (w : World) (b off len : Nat) (Z : Nat → Int) : Prop := ∀ i, i < len → w.cell? ⟨b, off + i, none⟩ = some (.int .u64 (Z i))
def IsInts (w : World) (a : Option Addr) (len : Nat) (Z : Nat → Int) : Prop := len = 0 ∨ ∃ b off, a = some ⟨b, off, none⟩ ∧ len ≤ 9223372036854775807 ∧ RowI w b off len Z
theorem RowI.below {w w' : World} {b off len : Nat} {Z : Nat → Int} (h : RowI w b off len Z) (hb : Below w.heap.size w w') : RowI w' b off len Z := fun i hi => keepB hb (h i hi)
theorem IsInts.below {w w' : World} {a : Option Addr} {len : Nat} {Z : Nat → Int} (h : IsInts w a len Z) (hb : Below w.heap.size w w') : IsInts w' a len Z := by
  rcases h with h | ⟨b, off, h1, h2, h3⟩
  · exact Or.inl h
  · exact Or.inr ⟨b, off, h1, h2, h3.below hb⟩
theorem fixed_Sum {a : Option Addr} {len cap : Nat} {Z : Nat → Int} (hZ : ∀ i, 0 ≤ Z i) (w : World) (h : IsInts w a len Z) :
    Calls Try.prog 22 #[.slice a len cap] w fun e w' => e = .returned (.int .u64 (sumF Z len)) ∧ w = w' := by
  rcases h with rfl | ⟨b, off, rfl, hl, hr⟩
  · go_enter Try.func22, Try.ntmps22
    go_wp2_with fail
    refine wp_loop_rounds 2 ?_
    rw [rounds_succ]
    go_wp2_with fail
    go_ret
    exact ⟨rfl, rfl⟩
  · have HR := Lib.hid hr
    have HZ := Lib.hid hZ
    clear hr hZ
    go_enter Try.func22, Try.ntmps22
    go_wp2_with fail
    go_loop [3, 8] (fun s i => ∃ k : Nat, k ≤ len ∧ i = .int .i64 k ∧ s = .int .u64 (sumF Z k)) (fun _ i => len - (intOf i).toNat)
    case atStart => exact ⟨0, Nat.zero_le _, rfl, rfl⟩
    case round =>
      obtain ⟨k, hk, rfl, rfl⟩ := hrel
      by_cases hlt : k < len
      · have q := HR.out k hlt
        have z0 := HZ.out k
        have s0 := (sumF_bd HZ.out k).1
        go_wp2_with (go_at_call 34; refine (word_Add _ _ s0 z0 _).mono ?_; rintro e w' ⟨rfl, rfl⟩)
        exact ⟨⟨k + 1, by omega, by go_num, rfl⟩, by simp [intOf]; omega⟩
      · obtain rfl : k = len := by omega
        go_wp2_with fail
        go_ret
        exact ⟨rfl, rfl⟩
end Go.Proofs.Ytgmgjbdbdekopaa
