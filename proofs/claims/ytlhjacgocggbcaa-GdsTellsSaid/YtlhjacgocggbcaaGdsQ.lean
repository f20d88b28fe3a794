/- The walks of Paid and of Renew. -/
import Derived.Test.YtlhjacgocggbcaaGdsM
set_option linter.unusedVariables false
set_option maxRecDepth 100000
set_option maxHeartbeats 2000000
namespace Go.Proofs.Ytlhjacgocggbcaa
open Go.RowKit Go.Shelf
attribute [local go_sem ↓] lt_alloc

def payOne (Z C : Nat → Int) (i : Nat) : Int := mulS (ofS (Z i)) (wgtO Z C i)
def paidB (n nc ml : Nat) (A : Nat → Int) (H : Nat → Bool) (i : Nat) : Bool := decide (i < ml) && !H i && hasB n nc (A i)
/-- What the first calls have paid. -/
def paidS (Z C : Nat → Int) (n nc ml : Nat) (A : Nat → Int) (H : Nat → Bool) : Nat → Int
  | 0 => 0
  | i + 1 => if paidB n nc ml A H i = true then addS (paidS Z C n nc ml A H i) (payOne Z C (A i).toNat) else paidS Z C n nc ml A H i
theorem wgtO_bd {Z C : Nat → Int} (hZ : InK .i64 Z) (hC : InK .i64 C) (i : Nat) : 0 ≤ wgtO Z C i ∧ wgtO Z C i < 18446744073709551616 :=
  weightS_bd 1 (ofS (C i)) (ofS (Z i)) 1 (ofS_bd _ (hC.i64 i).2).1 (ofS_bd _ (hZ.i64 i).2).1 (by decide)
theorem payOne_0 (Z C : Nat → Int) (hZ : InK .i64 Z) (hC : InK .i64 C) (i : Nat) : 0 ≤ payOne Z C i ∧ payOne Z C i < 18446744073709551616 := by
  have a := (ofS_bd (Z i) (hZ.i64 i).2).1
  have b := (wgtO_bd hZ hC i).1
  have := Int.mul_nonneg a b
  unfold payOne mulS; split <;> omega
theorem paidS_bd (Z C : Nat → Int) (hZ : InK .i64 Z) (hC : InK .i64 C) (n nc ml : Nat) (A : Nat → Int) (H : Nat → Bool) : ∀ i, 0 ≤ paidS Z C n nc ml A H i ∧ paidS Z C n nc ml A H i < 18446744073709551616
  | 0 => by show (0 : Int) ≤ 0 ∧ (0 : Int) < _; omega
  | i + 1 => by
    have := paidS_bd Z C hZ hC n nc ml A H i
    have := payOne_0 Z C hZ hC (A i).toNat
    unfold paidS; split
    · unfold addS; split <;> omega
    · assumption
theorem gds_Paid {sa ca aa la : Option Addr} {n nc m ml cs cc ac lc : Nat} {Z C A : Nat → Int} {H : Nat → Bool} {O : Nat → List Nat} (hZ : InK .i64 Z) (hC : InK .i64 C) (w : World) (iZ : IsK .i64 w sa n Z) (iC : IsK .i64 w ca nc C) (iA : IsK .i64 w aa m A) (iL : IsS w la ml H O) (hml : ml ≤ 1000000) (hm : m ≤ 1000000) :
    Calls Try.prog 13 #[.slice sa n cs, .slice ca nc cc, .slice aa m ac, .slice la ml lc] w fun e w' => e = .returned (.int .u64 (paidS Z C n nc ml A H m)) ∧ Below w.heap.size w w' := by
  have HZ := Lib.hid hZ
  have HC := Lib.hid hC
  have IZ := Lib.hid iZ
  have IC := Lib.hid iC
  have IA := Lib.hid iA
  have IL := Lib.hid iL
  obtain ⟨r, hr⟩ : ∃ r, paidS Z C n nc ml A H m = r := ⟨_, rfl⟩
  rw [hr]
  have HR := Lib.hid hr
  clear hZ hC iZ iC iA iL hr
  go_enter Try.func13, Try.ntmps13
  go_wp2_with fail
  go_loopw [10, 18] (fun sv iv wr => ∃ i : Nat, i ≤ m ∧ iv = .int .i64 i ∧ sv = .int .u64 (paidS Z C n nc ml A H i) ∧ Below w.heap.size w wr ∧ wr.cell? ⟨w.heap.size, 0, none⟩ = some (.slice sa n cs) ∧ wr.cell? ⟨w.heap.size, 1, none⟩ = some (.slice ca nc cc)) (fun _ iv _ => m - (intOf iv).toNat)
  case atStart => exact ⟨0, Nat.zero_le _, rfl, rfl, (Below.refl _ _).alloc (Nat.le_refl _) _, cell_of_row _ _ 0 _ _ _ (heap_alloc_new w _), cell_of_row _ _ 1 _ _ _ (heap_alloc_new w _)⟩
  case round =>
    obtain ⟨i, hi, rfl, rfl, hB, q0, q1⟩ := hrel
    have hb0 := paidS_bd Z C HZ.out HC.out n nc ml A H i
    have hst : paidS Z C n nc ml A H (i + 1) = if paidB n nc ml A H i = true then addS (paidS Z C n nc ml A H i) (payOne Z C (A i).toNat) else paidS Z C n nc ml A H i := rfl
    by_cases hlt : i < m
    · obtain ⟨ab, ao, rfl, _, ha⟩ := (IA.out.below hB).row hlt
      by_cases hil : i < ml
      · have hl : ∃ lb lo, la = some ⟨lb, lo, none⟩ ∧ wr.cell? ⟨lb, lo + i * 2, none⟩ = some (.bool (H i)) := by
          rcases IL.out.below hB with h | ⟨lb, lo, h1, _, h3⟩
          · omega
          · exact ⟨lb, lo, h1, (h3 i hil).1⟩
        obtain ⟨lb, lo, rfl, hl⟩ := hl
        have hil' : decide ((i : Int) < ml) = true := decide_eq_true (by omega)
        by_cases hh : H i = true
        · have HS := Lib.hid (show paidS Z C n nc ml A H i = paidS Z C n nc ml A H (i + 1) by rw [hst, if_neg (by unfold paidB; simp [hh])])
          rw [hh] at hl
          clear hst hh
          go_wp2_with fail
          exact ⟨⟨i + 1, by omega, by go_num, by rw [HS.out], hB, q0, q1⟩, by simp [intOf]; omega⟩
        · have hh : H i = false := by simpa using hh
          rw [hh] at hl
          have kh := fun w => gds_has (sv := sa) (cv := ca) (n := n) (nc := nc) (cs := cs) (cc := cc) (A i) w
          by_cases hha : hasB n nc (A i) = true
          · have hHa := hha
            unfold hasB at hHa
            simp only [Bool.and_eq_true, decide_eq_true_eq] at hHa
            obtain ⟨⟨h1, h2⟩, h3⟩ := hHa
            obtain ⟨id, hid⟩ : ∃ id : Nat, A i = id := ⟨(A i).toNat, by omega⟩
            have HS := Lib.hid (show addS (paidS Z C n nc ml A H i) (mulS (ofS (Z id)) (wgtO Z C id)) = paidS Z C n nc ml A H (i + 1) by
              rw [hst, if_pos (by unfold paidB; simp [hh, hha, hil]), hid]; rfl)
            rw [hha] at kh
            rw [hid] at kh ha h1 h2 h3
            clear hst hh hha hid
            have hz := HZ.out.i64 id
            have b1 := ofS_bd (Z id) hz.2
            have b2 := wgtO_bd HZ.out HC.out id
            have b3 : 0 ≤ mulS (ofS (Z id)) (wgtO Z C id) := by
              have := Int.mul_nonneg b1.1 b2.1
              unfold mulS; split <;> omega
            have k1 := fun w => word_Of (Z id) hz.1 hz.2 w
            have k3 := fun w => word_Mul (ofS (Z id)) (wgtO Z C id) b1.1 b1.2 b2.1 b2.2 w
            have k4 := fun w => word_Add (paidS Z C n nc ml A H i) (mulS (ofS (Z id)) (wgtO Z C id)) hb0.1 b3 w
            go_wp2_with fail
            refine (kh wr).mono ?_
            rintro e w2 ⟨rfl, hb2⟩
            have hB2 := hB.trans (hb2.mono hB.size)
            have r0 := keepB hb2 q0
            have r1 := keepB hb2 q1
            have p0 := Under.cell r0
            have p1 := Under.cell r1
            have iZ2 := IZ.out.below hB2
            have iC2 := IC.out.below hB2
            have k2 := fun x : Under w2 => gds_weight (cs := cs) (cc := cc) (i := id) HZ.out HC.out (by omega) (by omega) x.w (iZ2.below x.2) (iC2.below x.2)
            obtain ⟨sb, so, rfl, _, hzr⟩ := iZ2.row (i := id) (by omega)
            have p2 := Under.cell hzr
            clear q0 q1 kh ha hl hB hb2 iZ2 iC2 hzr
            generalize mulS (ofS (Z id)) (wgtO Z C id) = v at *
            generalize wgtO Z C id = u at *
            generalize ofS (Z id) = y at *
            generalize Z id = z at *
            generalize paidS Z C n nc ml A H i = s at *
            go_wp2_with fail
            (refine region_under (by kernel_rfl) (by kernel_rfl) ?_; (repeat (first | go_big_quiet_step ((first | (go_at_call 27; with_reducible exact stayU (k1 _)) | (go_at_call 28; with_reducible exact quietU (k2 _)) | (go_at_call 26; with_reducible exact stayU (k3 _)) | (go_at_call 25; with_reducible exact stayU (k4 _)))) | quiet_step ((first | (go_at_call 27; with_reducible exact stayU (k1 _)) | (go_at_call 28; with_reducible exact quietU (k2 _)) | (go_at_call 26; with_reducible exact stayU (k3 _)) | (go_at_call 25; with_reducible exact stayU (k4 _)))))); refine wpQuiet_nil ?_; intro _ hw'; obtain ⟨x, hw''⟩ := hw'; subst hw''; go_wp2_with fail)
            exact ⟨⟨i + 1, by omega, by go_num, by rw [HS.out], hB2.trans (x.2.mono hB2.size), keepB x.2 r0, keepB x.2 r1⟩, by simp [intOf]; omega⟩
          · have hha : hasB n nc (A i) = false := by simpa using hha
            have HS := Lib.hid (show paidS Z C n nc ml A H i = paidS Z C n nc ml A H (i + 1) by rw [hst, if_neg (by unfold paidB; simp [hha])])
            rw [hha] at kh
            clear hst hh hha
            go_wp2_with fail
            refine (kh wr).mono ?_
            rintro e w2 ⟨rfl, hb2⟩
            have r0 := keepB hb2 q0
            have r1 := keepB hb2 q1
            clear q0 q1 kh ha hl
            go_wp2_with fail
            exact ⟨⟨i + 1, by omega, by go_num, by rw [HS.out], hB.trans (hb2.mono hB.size), r0, r1⟩, by simp [intOf]; omega⟩
      · have hil' : decide ((i : Int) < ml) = false := decide_eq_false (by omega)
        have HS := Lib.hid (show paidS Z C n nc ml A H i = paidS Z C n nc ml A H (i + 1) by rw [hst, if_neg (by unfold paidB; simp [hil])])
        clear hst
        go_wp2_with fail
        exact ⟨⟨i + 1, by omega, by go_num, by rw [HS.out], hB, q0, q1⟩, by simp [intOf]; omega⟩
    · obtain rfl : m = i := by omega
      clear hst
      go_wp2_with fail
      go_ret
      first | exact ⟨rfl, hB⟩ | exact ⟨by rw [HR.out]; rfl, hB⟩
theorem u64_info : (Try.prog.info? 23).map (fun i => (i.zero, i.size, i.bytes)) = some (some (.int .u64 0), 1, 8) := by kernel_rfl
/-- A row of numbers while it is written. -/
def PutK (k : IntKind) (t : TypeId) (w : World) (T m i : Nat) (Z : Nat → Int) : Prop := ∃ cur : Array Value, w.heap[T]? = some (.cells cur t (0, 0)) ∧ cur.size = m ∧ ∀ j, j < i → cur[j]? = some (.int k (Z j))
theorem PutK.below {k : IntKind} {t : TypeId} {w w' : World} {T m i : Nat} {Z : Nat → Int} (h : PutK k t w T m i Z) (hb : Below w.heap.size w w') : PutK k t w' T m i Z := by
  obtain ⟨cur, h1, h2, h3⟩ := h
  exact ⟨cur, (hb.block T (Array.getElem?_eq_some_iff.1 h1).1).trans h1, h2, h3⟩
theorem PutK.cells {k : IntKind} {t : TypeId} {w : World} {T m i : Nat} {Z : Nat → Int} (h : PutK k t w T m i Z) {j : Nat} (hk : j < m) : (∃ v, w.cell? ⟨T, j, none⟩ = some v) ∧ w.frozen? ⟨T, j, none⟩ = false := by
  obtain ⟨cur, h1, h2, h3⟩ := h
  exact ⟨⟨_, (cell_of_row w T j _ _ _ h1).trans (Array.getElem?_eq_getElem (by omega))⟩, frozen_of_row w T j _ _ h1⟩
theorem PutK.put {k : IntKind} {t : TypeId} {w : World} {T m i : Nat} {Z : Nat → Int} (h : PutK k t w T m i Z) (hi : i < m) : PutK k t (w.setCell ⟨T, i, none⟩ (.int k (Z i))) T m (i + 1) Z := by
  obtain ⟨cur, h1, h2, h3⟩ := h
  refine ⟨_, heap_setCell_same w T i _ _ _ h1, by simp [h2], fun j hj => ?_⟩
  rw [Array.getElem?_setIfInBounds]
  rcases Nat.lt_or_ge j i with hlt | hge
  · rw [if_neg (by omega)]; exact h3 j hlt
  · obtain rfl : j = i := by omega
    rw [if_pos rfl, if_pos (by omega)]
theorem PutK.done {k : IntKind} {t : TypeId} {w : World} {T m : Nat} {Z : Nat → Int} (h : PutK k t w T m m Z) (hm : m ≤ 9223372036854775807) : IsK k w (some ⟨T, 0, none⟩) m Z := by
  obtain ⟨cur, h1, h2, h3⟩ := h
  refine Or.inr ⟨T, 0, rfl, hm, fun j hj => ?_⟩
  rw [Nat.zero_add]
  exact (cell_of_row w T j _ _ _ h1).trans (h3 j hj)
theorem putK_made {k : IntKind} {w : World} {t : TypeId} {base T m : Nat} {xs : List Value} {Z : Nat → Int} (h : w.ownsRow base t 1 (.slice (some ⟨T, 0, none⟩) m m) m xs) : PutK k t w T m 0 Z := by
  rcases h.2 with ⟨hh, _⟩ | ⟨g', cap, cur, hh, _, hgg, _, _, hc, _⟩
  · cases hh
  · cases hh
    exact ⟨cur, hgg, by omega, fun j hj => absurd hj (Nat.not_lt_zero j)⟩
theorem gds_Renew {aa : Option Addr} {m ac : Nat} {low : Int} {R : Nat → Int} (hl : 0 ≤ low) (hR : InK .u64 R) (w : World) (iA : IsK .u64 w aa m R) (hm : m ≤ 1000000) :
    Calls Try.prog 18 #[.int .u64 low, .slice aa m ac] w fun e w' => ∃ a cap, e = .returned (.slice a m cap) ∧ IsK .u64 w' a m (fun i => subS (R i) low) ∧ Below w.heap.size w w' := by
  obtain ⟨ti, ti1, ti2, ti3, ti4⟩ := info_parts u64_info
  have HR := Lib.hid hR
  have IA := Lib.hid iA
  clear hR iA
  go_enter Try.func18, Try.ntmps18
  go_wp2_with (refine wpList_make_full _ rfl _ _ _ rfl 0 23 ti _ 1 (by kernel_rfl) ti1 ti2 ti3 .i64 .i64 _ _ m rfl rfl rfl rfl (by rw [ti4]; omega) (by unfold maxLen; omega) (Nat.zero_le _) ?_; intro w' ho' hg')
  have hP : PutK .u64 23 w' w.heap.size m 0 (fun i => subS (R i) low) := putK_made ho'
  have hB0 : Below w.heap.size w w' := ⟨hg'.os, hg'.tape, hg'.output, hg'.size, fun k hk => hg'.block k hk (by simp)⟩
  clear ho' hg'
  go_loopw [13] (fun iv W => ∃ i : Nat, i ≤ m ∧ iv = .int .i64 i ∧ Below w.heap.size w W ∧ PutK .u64 23 W w.heap.size m i (fun i => subS (R i) low)) (fun iv _ => m - (intOf iv).toNat)
  case atStart => exact ⟨0, Nat.zero_le _, rfl, hB0, hP⟩
  case round =>
    clear hP hB0
    obtain ⟨i, hi, rfl, hB, hP⟩ := hrel
    by_cases hlt : i < m
    · obtain ⟨ab, ao, rfl, _, ha⟩ := (IA.out.below hB).row hlt
      obtain ⟨r0, r1⟩ := HR.out.u64 i
      have ks := fun w => word_Sub (R i) low r1 hl w
      obtain ⟨⟨v1, t1⟩, f1⟩ := hP.cells hlt
      have HP := Lib.hid (hP.put hlt)
      clear hP
      generalize hv : subS (R i) low = v at *
      generalize R i = r at *
      go_wp2_with fail
      refine (ks _).mono ?_
      rintro e _ ⟨rfl, rfl⟩
      go_wp2_with fail
      refine ⟨⟨i + 1, by omega, by go_num, hB.setCell (Nat.le_refl _) _, ?_⟩, by simp [intOf]; omega⟩
      have h := HP.out
      first | exact h | (rw [hv] at h; exact h)
    · obtain rfl : m = i := by omega
      have HD := Lib.hid (hP.done (by omega))
      clear hP
      go_wp2_with fail
      go_ret
      exact ⟨_, _, rfl, HD.out, hB⟩
end Go.Proofs.Ytlhjacgocggbcaa
