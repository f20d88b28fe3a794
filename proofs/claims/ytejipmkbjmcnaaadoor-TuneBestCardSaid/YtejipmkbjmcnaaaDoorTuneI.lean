/- The walks of odds, part, all. -/
import Derived.Test.YtejipmkbjmcnaaaDoorTuneD
set_option linter.unusedVariables false
set_option maxRecDepth 100000
set_option maxHeartbeats 2000000
namespace Go.Proofs.YtejipmkbjmcnaaaDoor
open Go.RowKit Go.Shelf
attribute [local go_sem ↓] lt_alloc

theorem stayU {P : Program} {f : FuncId} {args : Array Value} {W : World} {x : Under W} {v : Value} (h : Calls P f args x.w fun e w' => e = .returned v ∧ x.w = w') :
    Calls P f args x.w fun e w'' => e = .returned v ∧ ∃ m : Under W, w'' = m.w :=
  h.mono fun _ w' ⟨he, hb⟩ => ⟨he, x, hb.symm⟩
theorem IsK.row {k : IntKind} {w : World} {a : Option Addr} {len i : Nat} {Z : Nat → Int} (h : IsK k w a len Z) (hi : i < len) : ∃ b off, a = some ⟨b, off, none⟩ ∧ len ≤ 9223372036854775807 ∧ w.cell? ⟨b, off + i, none⟩ = some (.int k (Z i)) := by
  rcases h with h | ⟨b, off, h1, h2, h3⟩
  · omega
  · exact ⟨b, off, h1, h2, h3 i hi⟩
theorem exR_bd (a b : Int) : 0 ≤ exR a b ∧ exR a b < 18446744073709551616 := by
  unfold exR
  split
  · have := exV_bd (fxV a b); omega
  · omega
theorem tune_odds {s : Sn} {limit : Int} (hs : -9223372036854775808 ≤ s.size ∧ s.size < 9223372036854775808) (hn : -9223372036854775808 ≤ s.n ∧ s.n < 9223372036854775808) (l0 : 0 ≤ limit) (l1 : limit < 18446744073709551616) (w : World) (hP : PW w) :
    Calls Tryd.prog 35 #[.agg #[.string s.key, .int .i64 s.size, .int .i64 s.n], .int .u64 limit] w fun e w' => e = .returned (.int .u64 (oddsW s limit)) ∧ Below w.heap.size w w' := by
  have HP := Lib.hid hP
  clear hP
  by_cases h1 : s.size < 1
  · have e : oddsW s limit = 0 := by unfold oddsW; rw [if_pos (Or.inl h1)]
    rw [e]
    clear e
    generalize s.size = z at *
    generalize s.n = m at *
    have d1 : decide (z < 1) = true := decide_eq_true h1
    go_enter Tryd.func35, Tryd.ntmps35
    go_wp2_with fail
    go_ret
    exact ⟨rfl, (Below.refl _ _).alloc (Nat.le_refl _) _⟩
  · by_cases h2 : s.n < 1
    · have e : oddsW s limit = 0 := by unfold oddsW; rw [if_pos (Or.inr h2)]
      rw [e]
      clear e
      generalize s.size = z at *
      generalize s.n = m at *
      have d1 : decide (z < 1) = false := decide_eq_false h1
      have d2 : decide (m < 1) = true := decide_eq_true h2
      go_enter Tryd.func35, Tryd.ntmps35
      go_wp2_with fail
      go_ret
      exact ⟨rfl, (Below.refl _ _).alloc (Nat.le_refl _) _⟩
    · have e : oddsW s limit = mulS (exR (ofS s.size) limit) (ofS s.n) := by unfold oddsW; rw [if_neg (by omega)]
      rw [e]
      have k1 := fun w => word_Of s.size hs.1 hs.2 w
      have k2 := fun w => word_Of s.n hn.1 hn.2 w
      have b1 := ofS_bd s.size hs.2
      have b2 := ofS_bd s.n hn.2
      have k3 := fun w hP => expo_Ratio (ofS s.size) limit b1.1 b1.2 l0 l1 w hP
      have b3 := exR_bd (ofS s.size) limit
      have k4 := fun w => word_Mul (exR (ofS s.size) limit) (ofS s.n) b3.1 b3.2 b2.1 b2.2 w
      clear e
      generalize mulS (exR (ofS s.size) limit) (ofS s.n) = v at *
      generalize exR (ofS s.size) limit = u at *
      generalize ofS s.size = y at *
      generalize ofS s.n = x at *
      generalize s.size = z at *
      generalize s.n = m at *
      generalize s.key = k at *
      have d1 : decide (z < 1) = false := decide_eq_false h1
      have d2 : decide (m < 1) = false := decide_eq_false h2
      clear h1 h2
      go_enter Tryd.func35, Tryd.ntmps35
      go_wp2_with fail
      refine forget (fun W => W.cell? ⟨w.heap.size, 1, none⟩ = some (.int .i64 z) ∧ W.cell? ⟨w.heap.size, 2, none⟩ = some (.int .i64 m) ∧ Below w.heap.size w W) ⟨cell_of_row _ _ 1 _ _ _ (heap_alloc_new w _), cell_of_row _ _ 2 _ _ _ (heap_alloc_new w _), (Below.refl _ _).alloc (Nat.le_refl _) _⟩ ?_
      rintro W ⟨r1, r2, hB⟩
      have p1 := Under.cell r1
      have p2 := Under.cell r2
      have kR := fun x : Under W => k3 x.w ((HP.out.below hB).below x.2)
      clear r1 r2 k3
      (refine region_under (by kernel_rfl) (by kernel_rfl) ?_; (repeat (first | go_big_quiet_step ((first | (go_at_call 48; first | (with_reducible exact stayU (k1 _)) | (with_reducible exact stayU (k2 _))) | (go_at_call 53; with_reducible exact quietU (kR _)) | (go_at_call 47; with_reducible exact stayU (k4 _)))) | quiet_step ((first | (go_at_call 48; first | (with_reducible exact stayU (k1 _)) | (with_reducible exact stayU (k2 _))) | (go_at_call 53; with_reducible exact quietU (kR _)) | (go_at_call 47; with_reducible exact stayU (k4 _)))))); refine wpQuiet_nil ?_; intro _ hw'; obtain ⟨x, hw''⟩ := hw'; subst hw''; go_wp2_with fail)
      go_ret
      exact ⟨rfl, hB.trans (x.2.mono hB.size)⟩
theorem tune_part {o t : Int} (o0 : 0 ≤ o) (o1 : o < 18446744073709551616) (t0 : 0 ≤ t) (t1 : t < 18446744073709551616) (w : World) :
    Calls Tryd.prog 34 #[.int .u64 o, .int .u64 t] w fun e w' => e = .returned (.int .u64 (partO o t)) ∧ Below w.heap.size w w' := by
  have k1 := fun w => word_Mul o t o0 o1 t0 t1 w
  have hc := capO_bd o0 t0
  have e : partO o t = fxV (capO o t) (4294967296 + capO o t) := rfl
  have k2 := fun w => fixed_Of (capO o t) (4294967296 + capO o t) hc.1 (by omega) (by omega) (by omega) w
  rw [e]
  have hcap : capO o t = min (mulS o t) 9223372036854775808 := rfl
  generalize fxV (capO o t) (4294967296 + capO o t) = v at *
  generalize fxE (capO o t) (4294967296 + capO o t) = ve at *
  rw [hcap] at hc k2
  clear e hcap
  go_enter Tryd.func34, Tryd.ntmps34
  go_wp2_with (go_at_call 47; refine (k1 _).mono ?_; rintro e w' ⟨rfl, rfl⟩)
  refine (k2 _).mono ?_
  rintro e w2 ⟨rfl, hb⟩
  clear k1 k2
  go_wp2_with fail
  go_ret
  exact ⟨rfl, hb⟩
theorem u64_info : (Tryd.prog.info? 23).map (fun i => (i.zero, i.size, i.bytes)) = some (some (.int .u64 0), 1, 8) := by kernel_rfl
/-- A row of numbers while it is written. -/
def PutK (k : IntKind) (t : TypeId) (w : World) (T m i : Nat) (Z : Nat → Int) : Prop := ∃ cur : Array Value, w.heap[T]? = some (.cells cur t (0, 0)) ∧ cur.size = m ∧ ∀ j, j < i → cur[j]? = some (.int k (Z j))
theorem PutK.below {k : IntKind} {t : TypeId} {w w' : World} {T m i : Nat} {Z : Nat → Int} (h : PutK k t w T m i Z) (hb : Below w.heap.size w w') : PutK k t w' T m i Z := by
  obtain ⟨cur, h1, h2, h3⟩ := h
  exact ⟨cur, (hb.block T (Array.getElem?_eq_some_iff.1 h1).1).trans h1, h2, h3⟩
theorem PutK.lt {k : IntKind} {t : TypeId} {w : World} {T m i : Nat} {Z : Nat → Int} (h : PutK k t w T m i Z) : T < w.heap.size := by
  obtain ⟨cur, h1, h2, h3⟩ := h
  exact (Array.getElem?_eq_some_iff.1 h1).1
theorem PutK.cells {k : IntKind} {t : TypeId} {w : World} {T m i : Nat} {Z : Nat → Int} (h : PutK k t w T m i Z) {j : Nat} (hk : j < m) : (∃ v, w.cell? ⟨T, j, none⟩ = some v) ∧ w.frozen? ⟨T, j, none⟩ = false := by
  obtain ⟨cur, h1, h2, h3⟩ := h
  exact ⟨⟨_, (cell_of_row w T j _ _ _ h1).trans (Array.getElem?_eq_getElem (by omega))⟩, frozen_of_row w T j _ _ h1⟩
theorem PutK.put {k : IntKind} {t : TypeId} {w : World} {T m i : Nat} {Z : Nat → Int} (h : PutK k t w T m i Z) (hi : i < m) : PutK k t (w.setCell ⟨T, i, none⟩ (.int k (Z i))) T m (i + 1) Z := by
  obtain ⟨cur, h1, h2, h3⟩ := h
  refine ⟨_, heap_setCell_same w T i _ _ _ h1, by simp [h2], fun j hj => ?_⟩
  rw [Array.getElem?_setIfInBounds]
  rcases Nat.lt_or_ge j i with hlt | hge
  · rw [if_neg (by omega)]; exact h3 j hlt
  · obtain rfl : j = i := by omega
    rw [if_pos rfl, if_pos (by omega)]
theorem PutK.done {k : IntKind} {t : TypeId} {w : World} {T m : Nat} {Z : Nat → Int} (h : PutK k t w T m m Z) (hm : m ≤ 9223372036854775807) : IsK k w (some ⟨T, 0, none⟩) m Z := by
  obtain ⟨cur, h1, h2, h3⟩ := h
  refine Or.inr ⟨T, 0, rfl, hm, fun j hj => ?_⟩
  rw [Nat.zero_add]
  exact (cell_of_row w T j _ _ _ h1).trans (h3 j hj)
theorem putK_made {k : IntKind} {w : World} {t : TypeId} {base T m : Nat} {xs : List Value} {Z : Nat → Int} (h : w.ownsRow base t 1 (.slice (some ⟨T, 0, none⟩) m m) m xs) : PutK k t w T m 0 Z := by
  rcases h.2 with ⟨hh, _⟩ | ⟨g', cap, cur, hh, _, hgg, _, _, hc, _⟩
  · cases hh
  · cases hh
    exact ⟨cur, hgg, by omega, fun j hj => absurd hj (Nat.not_lt_zero j)⟩
theorem tune_all {a : Option Addr} {n cap : Nat} {l : List Sn} {limit : Int} (hn : l.length = n) (hm : n ≤ 1000000) (hi : InW l) (l0 : 0 ≤ limit) (l1 : limit < 18446744073709551616) (w : World) (hP : PW w) (iW : IsW w a l) :
    Calls Tryd.prog 40 #[.slice a n cap, .int .u64 limit] w fun e w' => ∃ oa, e = .returned (.slice oa n n) ∧ IsK .u64 w' oa n (fun i => oddsW (wAt l i) limit) ∧ Below w.heap.size w w' := by
  obtain ⟨ti, ti1, ti2, ti3, ti4⟩ := info_parts u64_info
  have HP := Lib.hid hP
  have IW := Lib.hid iW
  have HN := Lib.hid hn
  have HI := Lib.hid hi
  clear hP iW hn hi
  go_enter Tryd.func40, Tryd.ntmps40
  go_wp2_with (refine wpList_make_full _ rfl _ _ _ rfl 0 23 ti _ 1 (by kernel_rfl) ti1 ti2 ti3 .i64 .i64 _ _ n rfl rfl rfl rfl (by rw [ti4]; omega) (by unfold maxLen; omega) (Nat.zero_le _) ?_; intro w' ho' hg')
  have hP0 : PutK .u64 23 w' w.heap.size n 0 (fun i => oddsW (wAt l i) limit) := putK_made ho'
  have hB0 : Below w.heap.size w w' := ⟨hg'.os, hg'.tape, hg'.output, hg'.size, fun k hk => hg'.block k hk (by simp)⟩
  clear ho' hg'
  go_loopw [13] (fun iv W => ∃ i : Nat, i ≤ n ∧ iv = .int .i64 i ∧ Below w.heap.size w W ∧ PutK .u64 23 W w.heap.size n i (fun i => oddsW (wAt l i) limit)) (fun iv _ => n - (intOf iv).toNat)
  case atStart => exact ⟨0, Nat.zero_le _, rfl, hB0, hP0⟩
  case round =>
    clear hP0 hB0
    obtain ⟨i, hi, rfl, hB, hPK⟩ := hrel
    by_cases hlt : i < n
    · obtain ⟨ab, ao, rfl, _, q0, q1, q2⟩ := (IW.out.below hB).row (i := i) (by rw [HN.out]; exact hlt)
      have hin := HI.out i (by rw [HN.out]; exact hlt)
      have ko := fun w hP => tune_odds (s := wAt l i) (limit := limit) hin.1 hin.2 l0 l1 w hP
      have hgw := hPK.lt
      have HPK := Lib.hid hPK
      clear hPK hin
      generalize hv : oddsW (wAt l i) limit = v at *
      have HV := Lib.hid hv
      clear hv
      generalize (wAt l i).key = k at *
      generalize (wAt l i).size = z at *
      generalize (wAt l i).n = m at *
      go_wp2_with fail
      have b0 : Below wr.heap.size wr (wr.alloc (.cells #[.string k, .int .i64 z, .int .i64 m] 25)) := (Below.refl _ _).alloc (Nat.le_refl _) _
      refine (ko _ ((HP.out.below hB).below b0)).mono ?_
      rintro e w2 ⟨rfl, hb⟩
      have b1 := b0.trans (hb.mono b0.size)
      have hPK2 := HPK.out.below b1
      obtain ⟨⟨v1, t1⟩, f1⟩ := hPK2.cells hlt
      have HPK3 := Lib.hid (hPK2.put hlt)
      have HB2 := Lib.hid (hB.trans (b1.mono hB.size))
      clear b0 b1 hb hPK2 HPK ko q0 q1 q2
      go_wp2_with fail
      exact ⟨⟨i + 1, by omega, by go_num, HB2.out.setCell (Nat.le_refl _) _, by have h := HPK3.out; first | exact h | (rw [HV.out] at h; exact h)⟩, by simp [intOf]; omega⟩
    · obtain rfl : n = i := by omega
      have HD := Lib.hid (hPK.done (by omega))
      clear hPK
      go_wp2_with fail
      go_ret
      exact ⟨_, rfl, HD.out, hB⟩
end Go.Proofs.YtejipmkbjmcnaaaDoor
