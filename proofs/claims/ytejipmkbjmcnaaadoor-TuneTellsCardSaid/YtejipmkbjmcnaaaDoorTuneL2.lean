/- The walk of TuneRises. -/
import Derived.Test.YtejipmkbjmcnaaaDoorTuneL1
set_option linter.unusedVariables false
set_option maxRecDepth 100000
set_option maxHeartbeats 4000000
namespace Go.Proofs.YtejipmkbjmcnaaaDoor
open Go.RowKit Go.Shelf
attribute [local go_sem ↓] lt_alloc

section
variable {H : Type} {enc : TypeId × Value → H} {P : Program} {w : World} {base : Nat} {spare : Nat → Bool} {held : Bool}
theorem open_seen {r : Reach} {b0 : Nat} {t : TypeId} {f0 f1 f2 : Field} {v : Value} {d : DataW H} {p : List MemPlace} (hs : P.underlying t = some (.struct #[f0, f1, f2])) (hone : Go.Deep.oneCellFields P #[f0, f1, f2] = true) (hC : P.cellsOf t = 3)
    (u0 : P.underlying f0.type = some .string) (u1 : P.underlying f1.type = some (.int .i64)) (u2 : P.underlying f2.type = some (.int .i64)) (hv : Value.okWide P w r b0 t v) (h : DataW.Trod enc P w base spare held t v d p) :
    ∃ (k : ByteArray) (z m : Int), v = .agg #[.string k, .int .i64 z, .int .i64 m] ∧ (-9223372036854775808 ≤ z ∧ z < 9223372036854775808) ∧ (-9223372036854775808 ≤ m ∧ m < 9223372036854775808) := by
  obtain ⟨v0, v1, v2, y0, y1, y2, n, rfl, _, _, t0, t1, t2⟩ := Go.Joins.open_agg3 hs hone hC hv h
  obtain ⟨s, es, _, _⟩ := DataW.trod_string u0 t0
  obtain ⟨x, ex, _, wx⟩ := DataW.trod_int u1 t1
  obtain ⟨y, ey, _, wy⟩ := DataW.trod_int u2 t2
  have bx := bounds_i64 wx
  have hy := bounds_i64 wy
  exact ⟨s, x, y, by simp at es ex ey; rw [es, ex, ey], by omega, by omega⟩
end
@[local go_sem high] theorem max2_ints {P : Program} (w : World) (ts : Array TypeId) (t : TypeId) (k k' : IntKind) (x y : Int) :
    (Builtin.max_ ts t #[.int k x, .int k' y]).run P w = .ok (.int k (max x y)) w := by
  have e : ∀ x y : Int, (if y > x then y else x) = max x y := fun x y => by
    rw [Int.max_def]
    split <;> split <;> omega
  simp [Builtin.max_, Builtin.max2, e]
theorem rises_walk {a : Option Addr} {n cap : Nat} {l : List Sn} {limit x y : Int} {k : ByteArray} {z m u : Int} (hn : l.length = n) (hi : InW l) (hz : -9223372036854775808 ≤ z ∧ z < 9223372036854775808) (hm : -9223372036854775808 ≤ m ∧ m < 9223372036854775808)
    (hl : 0 ≤ limit ∧ limit < 18446744073709551616) (hx : 0 ≤ x ∧ x < 18446744073709551616) (hy : 0 ≤ y ∧ y < 18446744073709551616) (hu : 0 ≤ u ∧ u < 65536) (w : World) (hP : PW w) (iW : IsW w a l) :
    Calls Tryd.prog 6 #[.slice a n cap, .agg #[.string k, .int .i64 z, .int .i64 m], .int .u64 limit, .int .u64 x, .int .u64 y, .int .u16 u] w fun e w' => e = .returned (.bool true) ∧ Below w.heap.size w w' := by
  have kw := fun w iW => ref21_Few (a := a) (cap := cap) (most := 30) hn w iW
  have HP := Lib.hid hP
  have IW := Lib.hid iW
  clear hP iW
  have b0 : Below w.heap.size w (w.alloc (.cells #[.string k, .int .i64 z, .int .i64 m] 25)) := (Below.refl _ _).alloc (Nat.le_refl _) _
  have q0 : WBlk (w.alloc (.cells #[.string k, .int .i64 z, .int .i64 m] 25)) w.heap.size [⟨k, z, m⟩] := heap_alloc_new w _
  have B0 := Lib.hid b0
  have Q0 := Lib.hid q0
  clear b0 q0
  by_cases hf : FewP l 30
  · rw [decide_eq_true hf] at kw
    have KW := Lib.hid kw
    clear kw hf
    by_cases hk : k.size ≤ 100
    · have d1 : decide ((100 : Int) < k.size) = false := decide_eq_false (by omega)
      have d2 : decide (100 < k.size) = false := decide_eq_false (by omega)
      have hlo : 0 ≤ min x y ∧ min x y < 18446744073709551616 := by omega
      have hhi : 0 ≤ max x y ∧ max x y < 18446744073709551616 := by omega
      have hlh : min x y ≤ max x y := by omega
      have hmo : -9223372036854775808 ≤ max m u ∧ max m u < 9223372036854775808 := by omega
      have hmm : m ≤ max m u := by omega
      have ob := oddsW_bd (s := ⟨k, z, m⟩) (limit := limit) hl.1 hz.2 hm.2
      have ob2 := oddsW_bd (s := ⟨k, z, max m u⟩) (limit := limit) hl.1 hz.2 hmo.2
      have c1 := partO_mono ob.1 hlo.1 (Int.le_refl _) hlh
      have c2 := (partO_eq ob.1 hhi.1).2
      have c3 := partO_mono ob.1 hx.1 (oddsW_more (s := ⟨k, z, m⟩) (m := max m u) hl.1 hz.2 hmo.2 hmm) (Int.le_refl x)
      have c4 : (if mayW l then fillW l limit (min x y) else 0) ≤ (if mayW l then fillW l limit (max x y) else 0) := by
        split
        · exact fillW_mono hi hl.1 hlo.1 hlh
        · exact Int.le_refl _
      have k1 := fun w hP => tune_Part (s := ⟨k, z, m⟩) (limit := limit) (t := min x y) hz hm hl.1 hl.2 hlo.1 hlo.2 w hP
      have k2 := fun w hP => tune_Part (s := ⟨k, z, m⟩) (limit := limit) (t := max x y) hz hm hl.1 hl.2 hhi.1 hhi.2 w hP
      have k3 := fun w hP => tune_Part (s := ⟨k, z, m⟩) (limit := limit) (t := x) hz hm hl.1 hl.2 hx.1 hx.2 w hP
      have k4 := fun w hP => tune_Part (s := ⟨k, z, max m u⟩) (limit := limit) (t := x) hz hmo hl.1 hl.2 hx.1 hx.2 w hP
      have k5 := fun w hP iW => tune_Fill (a := a) (cap := cap) (limit := limit) (t := min x y) hn hi hl.1 hl.2 hlo.1 hlo.2 w hP iW
      have k6 := fun w hP iW => tune_Fill (a := a) (cap := cap) (limit := limit) (t := max x y) hn hi hl.1 hl.2 hhi.1 hhi.2 w hP iW
      dsimp only at k1 k2 k3 k4
      generalize partO (oddsW ⟨k, z, m⟩ limit) (min x y) = p1 at *
      generalize partO (oddsW ⟨k, z, m⟩ limit) (max x y) = p2 at *
      generalize partO (oddsW ⟨k, z, m⟩ limit) x = p3 at *
      generalize partO (oddsW ⟨k, z, max m u⟩ limit) x = p4 at *
      generalize (if mayW l then fillW l limit (min x y) else 0) = f1 at *
      generalize (if mayW l then fillW l limit (max x y) else 0) = f2 at *
      have e1 : decide (p1 ≤ p2) = true := decide_eq_true c1
      have e2 : decide (p2 < 4294967296) = true := decide_eq_true c2
      have e3 : decide (p3 ≤ p4) = true := decide_eq_true c3
      have e4 : decide (f1 ≤ f2) = true := decide_eq_true c4
      have K1 := Lib.hid k1
      have K2 := Lib.hid k2
      have K3 := Lib.hid k3
      have K4 := Lib.hid k4
      have K5 := Lib.hid k5
      have K6 := Lib.hid k6
      clear k1 k2 k3 k4 k5 k6 c1 c2 c3 c4 hk hi hn ob ob2 hlo hhi hlh hmm
      go_enter Tryd.func6, Tryd.ntmps6
      go_wp2_with fail
      refine (law21_awake _ (HP.out.below B0.out)).mono ?_
      rintro e w1 ⟨rfl, hb⟩
      have B1 := Lib.hid (B0.out.trans (hb.mono B0.out.size))
      have q1 : w1.heap[w.heap.size]? = some (.cells #[.string k, .int .i64 z, .int .i64 m] 25 (0, 0)) := (hb.block _ (by simp)).trans Q0.out
      have Q1 := Lib.hid q1
      clear hb q1
      go_wp2_with fail
      refine (KW.out _ (IW.out.below B1.out)).mono ?_
      rintro e w2 ⟨rfl, hb⟩
      have B2 := Lib.hid (B1.out.trans (hb.mono B1.out.size))
      have q2 : w2.heap[w.heap.size]? = some (.cells #[.string k, .int .i64 z, .int .i64 m] 25 (0, 0)) := (hb.block _ (by exact (Array.getElem?_eq_some_iff.1 Q1.out).1)).trans Q1.out
      have r0 : w2.cell? ⟨w.heap.size, 0, none⟩ = some (.string k) := cell_of_row _ _ 0 _ _ _ q2
      have r1 : w2.cell? ⟨w.heap.size, 1, none⟩ = some (.int .i64 z) := cell_of_row _ _ 1 _ _ _ q2
      have r2 : w2.cell? ⟨w.heap.size, 2, none⟩ = some (.int .i64 m) := cell_of_row _ _ 2 _ _ _ q2
      have hws : w.heap.size < w2.heap.size := (Array.getElem?_eq_some_iff.1 q2).1
      have hne : w.heap.size ≠ w2.heap.size := by omega
      have hne2 : w2.heap.size ≠ w.heap.size := by omega
      clear hb B1 Q1 q2
      go_wp2_with fail
      have b2 : Below w2.heap.size w2 (w2.alloc (.cells #[.string k, .int .i64 z, .int .i64 (max m u)] 25)) := (Below.refl _ _).alloc (Nat.le_refl _) _
      have t2 := heap_alloc_new w2 (.cells #[.string k, .int .i64 z, .int .i64 (max m u)] 25)
      refine forget (fun W => (W.cell? ⟨w.heap.size, 0, none⟩ = some (.string k) ∧ W.cell? ⟨w.heap.size, 1, none⟩ = some (.int .i64 z) ∧ W.cell? ⟨w.heap.size, 2, none⟩ = some (.int .i64 m)) ∧ (W.cell? ⟨w2.heap.size, 0, none⟩ = some (.string k) ∧ W.cell? ⟨w2.heap.size, 1, none⟩ = some (.int .i64 z) ∧ W.cell? ⟨w2.heap.size, 2, none⟩ = some (.int .i64 (max m u))) ∧ Below w.heap.size w W) ⟨⟨keepB b2 r0, keepB b2 r1, keepB b2 r2⟩, ⟨cell_of_row _ _ 0 _ _ _ t2, cell_of_row _ _ 1 _ _ _ t2, cell_of_row _ _ 2 _ _ _ t2⟩, B2.out.trans (b2.mono B2.out.size)⟩ ?_
      rintro W ⟨⟨g0, g1, g2⟩, ⟨h0, h1, h2⟩, hB⟩
      have p0 := Under.cell g0; have p1' := Under.cell g1; have p2' := Under.cell g2
      have p3' := Under.cell h0; have p4' := Under.cell h1; have p5 := Under.cell h2
      have k1 := fun v : Under W => K1.out v.w ((HP.out.below hB).below v.2)
      have k2 := fun v : Under W => K2.out v.w ((HP.out.below hB).below v.2)
      have k3 := fun v : Under W => K3.out v.w ((HP.out.below hB).below v.2)
      have k4 := fun v : Under W => K4.out v.w ((HP.out.below hB).below v.2)
      have k5 := fun v : Under W => K5.out v.w ((HP.out.below hB).below v.2) ((IW.out.below hB).below v.2)
      have k6 := fun v : Under W => K6.out v.w ((HP.out.below hB).below v.2) ((IW.out.below hB).below v.2)
      clear g0 g1 g2 h0 h1 h2 b2 t2 r0 r1 r2 K1 K2 K3 K4 K5 K6
      (refine region_under (by kernel_rfl) (by kernel_rfl) ?_; (repeat (first | go_big_quiet_step ((first | (go_at_call 17; first | (with_reducible exact quietU (k1 _)) | (with_reducible exact quietU (k2 _)) | (with_reducible exact quietU (k3 _)) | (with_reducible exact quietU (k4 _))) | (go_at_call 19; first | (with_reducible exact quietU (k5 _)) | (with_reducible exact quietU (k6 _))))) | quiet_step ((first | (go_at_call 17; first | (with_reducible exact quietU (k1 _)) | (with_reducible exact quietU (k2 _)) | (with_reducible exact quietU (k3 _)) | (with_reducible exact quietU (k4 _))) | (go_at_call 19; first | (with_reducible exact quietU (k5 _)) | (with_reducible exact quietU (k6 _))))))); refine wpQuiet_nil ?_; intro _ hw'; obtain ⟨x, hw''⟩ := hw'; subst hw''; go_wp2_with fail)
      go_ret
      exact ⟨rfl, hB.trans (x.2.mono hB.size)⟩
    · have d1 : decide ((100 : Int) < k.size) = true := decide_eq_true (by omega)
      have d2 : decide (100 < k.size) = true := decide_eq_true (by omega)
      clear hk hi hn
      go_enter Tryd.func6, Tryd.ntmps6
      go_wp2_with fail
      refine (law21_awake _ (HP.out.below B0.out)).mono ?_
      rintro e w1 ⟨rfl, hb⟩
      have B1 := Lib.hid (B0.out.trans (hb.mono B0.out.size))
      have q1 : w1.heap[w.heap.size]? = some (.cells #[.string k, .int .i64 z, .int .i64 m] 25 (0, 0)) := (hb.block _ (by simp)).trans Q0.out
      have Q1 := Lib.hid q1
      clear hb q1
      go_wp2_with fail
      refine (KW.out _ (IW.out.below B1.out)).mono ?_
      rintro e w2 ⟨rfl, hb⟩
      have B2 := Lib.hid (B1.out.trans (hb.mono B1.out.size))
      have q2 : w2.heap[w.heap.size]? = some (.cells #[.string k, .int .i64 z, .int .i64 m] 25 (0, 0)) := (hb.block _ (by exact (Array.getElem?_eq_some_iff.1 Q1.out).1)).trans Q1.out
      have r0 : w2.cell? ⟨w.heap.size, 0, none⟩ = some (.string k) := cell_of_row _ _ 0 _ _ _ q2
      clear hb B1 Q1 q2
      go_wp2_with fail
      go_ret
      exact ⟨rfl, B2.out⟩
  · rw [decide_eq_false hf] at kw
    have KW := Lib.hid kw
    clear kw hf hi hn
    go_enter Tryd.func6, Tryd.ntmps6
    go_wp2_with fail
    refine (law21_awake _ (HP.out.below B0.out)).mono ?_
    rintro e w1 ⟨rfl, hb⟩
    have B1 := Lib.hid (B0.out.trans (hb.mono B0.out.size))
    clear hb
    go_wp2_with fail
    refine (KW.out _ (IW.out.below B1.out)).mono ?_
    rintro e w2 ⟨rfl, hb⟩
    have B2 := Lib.hid (B1.out.trans (hb.mono B1.out.size))
    clear hb B1
    go_wp2_with fail
    go_ret
    exact ⟨rfl, B2.out⟩
end Go.Proofs.YtejipmkbjmcnaaaDoor
