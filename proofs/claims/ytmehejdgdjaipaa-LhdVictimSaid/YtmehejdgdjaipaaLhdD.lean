/- The walks of lhd.Density, and the document's. -/
import Derived.Test.YtmehejdgdjaipaaLhdE
import Derived.Test.YtmehejdgdjaipaaLhdL
import Derived.Test.YtmehejdgdjaipaaFixedR
set_option linter.unusedVariables false
set_option maxRecDepth 100000
set_option maxHeartbeats 400000
namespace Go.Proofs.Ytmehejdgdjaipaa
open Go.RowKit Go.Shelf
attribute [local go_sem ↓] lt_alloc

theorem stayU {P : Program} {f : FuncId} {args : Array Value} {W : World} {x : Under W} {v : Value} (h : Calls P f args x.w fun e w' => e = .returned v ∧ x.w = w') :
    Calls P f args x.w fun e w'' => e = .returned v ∧ ∃ m : Under W, w'' = m.w :=
  h.mono fun _ w' ⟨he, hb⟩ => ⟨he, x, hb.symm⟩
def zeroR (_ : Nat) : Int := 0
/-- The density at any age: 0, if it is none. -/
def densV (R : Nat → Int) (a : Int) : Int := if 0 ≤ a ∧ a < 8 then densR R a.toNat else 0
theorem densV_bd {R : Nat → Int} (h : IsR R) (a : Int) : 0 ≤ densV R a ∧ densV R a ≤ 4294967296 := by
  unfold densV; split
  · exact densR_bd h _
  · omega
theorem dens_same0 {R : Nat → Int} (h : IsR R) {k : Nat} (hk : k < 8) (hs : sameR R zeroR = true) : densR R k = 4294967296 := by
  have e := sameR_iff.1 hs
  exact densR_none h hk fun i hi hj => ⟨e i (by omega), e (i + 8) (by omega)⟩
theorem hitsD_step (R : Nat → Int) {k p : Nat} (h : k ≤ p) : hitsD R k (p + 1 - k) = addS (hitsD R k (p - k)) (R p) := by
  rw [show p + 1 - k = (p - k) + 1 from by omega]
  show addS (hitsD R k (p - k)) (R (k + (p - k))) = _
  rw [show k + (p - k) = p from by omega]
theorem allD_step (R : Nat → Int) {k p : Nat} (h : k ≤ p) : allD R k (p + 1 - k) = addS (allD R k (p - k)) (shlS (addS (R p) (R (p + 8))) (p : Int)) := by
  rw [show p + 1 - k = (p - k) + 1 from by omega]
  show addS (allD R k (p - k)) (shlS (addS (R (k + (p - k))) (R (k + (p - k) + 8))) ((k + (p - k) : Nat) : Int)) = _
  rw [show k + (p - k) = p from by omega]
theorem cell_rank {wr : World} {g i : Nat} {R : Nat → Int} (h : wr.heap[g]? = some (.cells (rankC R) 25 (0, 0))) (hi : i < 16) : wr.cell? ⟨g, i, none⟩ = some (.int .u64 (R i)) :=
  (cell_of_row wr _ _ _ _ _ h).trans (rowC_get hi)
theorem zero_rank : Try.prog.built 25 [] = some (rankC zeroR) := by kernel_rfl
theorem lhd_Density_no (R : Nat → Int) (a : Int) (h : IsR R) (ha : ¬ (0 ≤ a ∧ a < 8)) (w : World) :
    Calls Try.prog 21 #[rankV R, .int .i64 a] w fun e w' => e = .returned (.int .u64 0) ∧ Below w.heap.size w w' := by
  have hk := fun w => lhd_known a w
  have e1 : knownB a = false := by unfold knownB; simp; omega
  rw [e1] at hk
  unfold rankV
  generalize rankC R = C at *
  go_enter Try.func21, Try.ntmps21
  go_wp2_with fail
  refine (hk _).mono ?_
  rintro e _ ⟨rfl, rfl⟩
  go_wp2_with fail
  go_ret
  exact ⟨rfl, (Below.refl _ _).alloc (Nat.le_refl _) _⟩
theorem lhd_Density_zero (R : Nat → Int) (k : Nat) (h : IsR R) (ha : k < 8) (hz : sameR R zeroR = true) (w : World) :
    Calls Try.prog 21 #[rankV R, .int .i64 k] w fun e w' => e = .returned (.int .u64 4294967296) ∧ Below w.heap.size w w' := by
  have hk := fun w => lhd_known k w
  have e1 : knownB k = true := by unfold knownB; simp; omega
  rw [e1] at hk
  have hE := fun w => rank_equal R zeroR w
  rw [hz] at hE
  have hb := zero_rank
  have hs : (rankC R).size = 16 := rowC_size R 16
  clear hz
  unfold rankV
  generalize rankC zeroR = D at *
  generalize rankC R = C at *
  go_enter Try.func21, Try.ntmps21
  go_wp2_with fail
  refine (hk _).mono ?_
  rintro e _ ⟨rfl, rfl⟩
  go_wp2_with (first
    | (refine wpList_load_row rfl _ _ rfl w.heap.size rfl 25 C (0, 0) ((Try.prog.underlying 25).get rank_some) (heap_alloc_new w _) (Option.some_get _).symm (by kernel_rfl) (by rw [rank_size, hs]) ?_)
    | (refine wpList_build_to rfl _ _ rfl D (Eq.trans (b := Try.prog.built 25 []) (by kernel_rfl) hb) ?_)
    | (refine wpList_eql rfl _ _ _ _ rfl C D rfl rfl rank_guard true hE ?_))
  go_ret
  exact ⟨rfl, (Below.refl _ _).alloc (Nat.le_refl _) _⟩
set_option maxHeartbeats 1000000 in
theorem lhd_Density_some (R : Nat → Int) (k : Nat) (h : IsR R) (ha : k < 8) (hz : sameR R zeroR = false) (w : World) :
    Calls Try.prog 21 #[rankV R, .int .i64 k] w fun e w' => e = .returned (.int .u64 (densR R k)) ∧ Below w.heap.size w w' := by
  have hk := fun w => lhd_known k w
  have e1 : knownB k = true := by unfold knownB; simp; omega
  rw [e1] at hk
  have hE := fun w => rank_equal R zeroR w
  rw [hz] at hE
  have hb := zero_rank
  have hs : (rankC R).size = 16 := rowC_size R 16
  have H := Lib.hid h
  have HC := Lib.hid (show ∀ wr : World, wr.heap[w.heap.size]? = some (.cells (rankC R) 25 (0, 0)) → ∀ i, i < 16 → wr.cell? ⟨w.heap.size, i, none⟩ = some (.int .u64 (R i)) from fun wr hw i hi => cell_rank hw hi)
  clear hz e1
  unfold rankV
  generalize rankC zeroR = D at *
  generalize rankC R = C at *
  go_enter Try.func21, Try.ntmps21
  go_wp2_with fail
  refine (hk _).mono ?_
  rintro e W ⟨rfl, hw⟩
  have hg : W.heap[w.heap.size]? = some (.cells C 25 (0, 0)) := by rw [← hw]; exact heap_alloc_new w _
  have hB : Below w.heap.size w W := by rw [← hw]; exact (Below.refl _ _).alloc (Nat.le_refl _) _
  have hS : w.heap.size + 1 = W.heap.size := by rw [← hw]; simp
  clear hw hk
  go_wp2_with (first
    | (refine wpList_load_row rfl _ _ rfl w.heap.size rfl 25 C (0, 0) ((Try.prog.underlying 25).get rank_some) hg (Option.some_get _).symm (by kernel_rfl) (by rw [rank_size, hs]) ?_)
    | (refine wpList_build_to rfl _ _ rfl D (Eq.trans (b := Try.prog.built 25 []) (by kernel_rfl) hb) ?_)
    | (refine wpList_eql rfl _ _ _ _ rfl C D rfl rfl rank_guard false hE ?_))
  clear hE hb
  have HG := Lib.hid hg
  clear hg
  go_loopw [5, 6, 7] (fun hv av pv wr => ∃ p : Nat, k ≤ p ∧ p ≤ 8 ∧ hv = .int .u64 (hitsD R k (p - k)) ∧ av = .int .u64 (allD R k (p - k)) ∧ pv = .int .i64 p ∧ Below W.heap.size W wr) (fun _ _ pv _ => 8 - (intOf pv).toNat)
  case atStart => exact ⟨k, Nat.le_refl _, by omega, by rw [Nat.sub_self]; rfl, by rw [Nat.sub_self]; rfl, rfl, Below.refl _ _⟩
  case round =>
    obtain ⟨p, hkp, hn, rfl, rfl, rfl, hB'⟩ := hrel
    have hS' := hB'.size
    obtain ⟨x0, x1⟩ := hitsD_bd H.out k (p - k)
    obtain ⟨y0, y1⟩ := allD_bd H.out k (p - k)
    by_cases hlt : p < 8
    · have hg' : wr.heap[w.heap.size]? = some (.cells C 25 (0, 0)) := (hB'.block _ (by omega)).trans HG.out
      have q1 := HC.out wr hg' p (by omega)
      have q2 : wr.cell? ⟨w.heap.size, 8 + p, none⟩ = some (.int .u64 (R (p + 8))) := by rw [Nat.add_comm 8 p]; exact HC.out wr hg' (p + 8) (by omega)
      obtain ⟨u0, u1⟩ := H.out p
      obtain ⟨v0, v1⟩ := H.out (p + 8)
      obtain ⟨b0, b1⟩ := both_bd H.out p
      have k1 := fun w => word_Add (hitsD R k (p - k)) (R p) x0 u0 w
      have k2 := fun w => word_Add (R p) (R (p + 8)) u0 v0 w
      have k3 := fun w => word_Shl (addS (R p) (R (p + 8))) (p : Int) b0 (by omega) w
      have k4 := fun w => word_Add (allD R k (p - k)) (shlS (addS (R p) (R (p + 8))) (p : Int)) y0 (shlS_bd _ _ b0).1 w
      have HN := Lib.hid (hitsD_step R hkp)
      have HA := Lib.hid (allD_step R hkp)
      clear hg' H
      generalize addS (allD R k (p - k)) (shlS (addS (R p) (R (p + 8))) (p : Int)) = c4 at *
      generalize shlS (addS (R p) (R (p + 8))) (p : Int) = c3 at *
      generalize addS (R p) (R (p + 8)) = c2 at *
      generalize addS (hitsD R k (p - k)) (R p) = c1 at *
      generalize R p = r1 at *
      generalize R (p + 8) = r2 at *
      generalize hitsD R k (p - k) = hh at *
      generalize allD R k (p - k) = aa at *
      have p1 := Under.cell q1
      have p2 := Under.cell q2
      go_wp2_with fail
      refine (k1 _).mono ?_
      rintro e _ ⟨rfl, rfl⟩
      go_wp2_with fail
      (refine region_under (by kernel_rfl) (by kernel_rfl) ?_; (repeat (first | go_big_quiet_step ((go_at_call 27; exact stayU (k2 _))) | quiet_step ((go_at_call 27; exact stayU (k2 _))))); refine wpQuiet_nil ?_; intro _ hw'; obtain ⟨x, hw''⟩ := hw'; subst hw''; go_wp2_with fail)
      refine (k3 _).mono ?_
      rintro e _ ⟨rfl, rfl⟩
      go_wp2_with fail
      refine (k4 _).mono ?_
      rintro e _ ⟨rfl, rfl⟩
      go_wp2_with fail
      exact ⟨⟨p + 1, by omega, by omega, by rw [HN.out], by rw [HA.out], by go_num, hB'.trans (x.2.mono hB'.size)⟩, by simp [intOf]; omega⟩
    · obtain rfl : p = 8 := by omega
      have hd : densR R k = if allD R k (8 - k) = 0 then 4294967296 else fxV (hitsD R k (8 - k)) (allD R k (8 - k)) := rfl
      have k5 := fun w => fixed_Of (hitsD R k (8 - k)) (allD R k (8 - k)) x0 x1 y0 y1 w
      have HB := hB.trans (hB'.mono hB.size)
      by_cases hz : allD R k (8 - k) = 0
      · rw [if_pos hz] at hd
        rw [hz]
        have HD := Lib.hid hd
        clear hd k5 hz H
        go_wp2_with fail
        go_ret
        exact ⟨by rw [HD.out]; rfl, HB⟩
      · rw [if_neg hz] at hd
        have HD := Lib.hid hd
        clear hd
        generalize fxV (hitsD R k (8 - k)) (allD R k (8 - k)) = fv at *
        generalize fxE (hitsD R k (8 - k)) (allD R k (8 - k)) = fe at *
        generalize allD R k (8 - k) = aa at *
        generalize hitsD R k (8 - k) = hh at *
        go_wp2_with fail
        refine (k5 _).mono ?_
        rintro e w5 ⟨rfl, hb5⟩
        go_wp2_with fail
        go_ret
        exact ⟨by rw [HD.out]; rfl, HB.trans (hb5.mono HB.size)⟩
theorem lhd_Density (R : Nat → Int) (a : Int) (h : IsR R) (w : World) :
    Calls Try.prog 21 #[rankV R, .int .i64 a] w fun e w' => e = .returned (.int .u64 (densV R a)) ∧ Below w.heap.size w w' := by
  by_cases ha : 0 ≤ a ∧ a < 8
  · obtain ⟨n, rfl⟩ : ∃ n : Nat, a = n := ⟨a.toNat, by omega⟩
    have hn : n < 8 := by omega
    have e : densV R n = densR R n := by unfold densV; rw [if_pos ha]; rfl
    rw [e]
    cases hs : sameR R zeroR
    · exact lhd_Density_some R n h hn hs w
    · rw [dens_same0 h hn hs]; exact lhd_Density_zero R n h hn hs w
  · have e : densV R a = 0 := by unfold densV; rw [if_neg ha]
    rw [e]; exact lhd_Density_no R a h ha w
theorem ref19_Density_no (R : Nat → Int) (a : Int) (h : IsR R) (ha : ¬ (0 ≤ a ∧ a < 8)) (w : World) :
    Calls Try.prog 22 #[rankV R, .int .i64 a] w fun e w' => e = .returned (.int .u64 0) ∧ Below w.heap.size w w' := by
  unfold rankV
  generalize rankC R = C at *
  by_cases h0 : a < 0
  · clear ha
    go_enter Try.func22, Try.ntmps22
    go_wp2_with fail
    go_ret
    exact ⟨rfl, (Below.refl _ _).alloc (Nat.le_refl _) _⟩
  · have h7 : 7 < a := by omega
    clear ha
    go_enter Try.func22, Try.ntmps22
    go_wp2_with fail
    go_ret
    exact ⟨rfl, (Below.refl _ _).alloc (Nat.le_refl _) _⟩
set_option maxHeartbeats 1000000 in
theorem ref19_Density_some (R : Nat → Int) (k : Nat) (h : IsR R) (ha : k < 8) (w : World) :
    Calls Try.prog 22 #[rankV R, .int .i64 k] w fun e w' => e = .returned (.int .u64 (densR R k)) ∧ Below w.heap.size w w' := by
  have hs : (rankC R).size = 16 := rowC_size R 16
  have H := Lib.hid h
  have HC := Lib.hid (show ∀ wr : World, wr.heap[w.heap.size]? = some (.cells (rankC R) 25 (0, 0)) → ∀ i, i < 16 → wr.cell? ⟨w.heap.size, i, none⟩ = some (.int .u64 (R i)) from fun wr hw i hi => cell_rank hw hi)
  unfold rankV
  generalize rankC R = C at *
  go_enter Try.func22, Try.ntmps22
  go_wp2_with fail
  refine forget (fun W => W.heap[w.heap.size]? = some (.cells C 25 (0, 0)) ∧ Below w.heap.size w W ∧ w.heap.size + 1 = W.heap.size) ?_ ?_
  · exact ⟨heap_alloc_new w _, (Below.refl _ _).alloc (Nat.le_refl _) _, by simp⟩
  rintro W ⟨hg, hB, hS⟩
  have HG := Lib.hid hg
  clear hg
  go_loopw [5, 6, 7] (fun hv av pv wr => ∃ p : Nat, p ≤ 8 ∧ hv = .int .u64 (hitsD R k (p - k)) ∧ av = .int .u64 (allD R k (p - k)) ∧ pv = .int .i64 p ∧ Below W.heap.size W wr) (fun _ _ pv _ => 8 - (intOf pv).toNat)
  case atStart => exact ⟨0, by omega, by rw [Nat.zero_sub]; rfl, by rw [Nat.zero_sub]; rfl, rfl, Below.refl _ _⟩
  case round =>
    obtain ⟨p, hn, rfl, rfl, rfl, hB'⟩ := hrel
    have hS' := hB'.size
    obtain ⟨x0, x1⟩ := hitsD_bd H.out k (p - k)
    obtain ⟨y0, y1⟩ := allD_bd H.out k (p - k)
    by_cases hlt : p < 8
    · by_cases hkp : k ≤ p
      · have hg' : wr.heap[w.heap.size]? = some (.cells C 25 (0, 0)) := (hB'.block _ (by omega)).trans HG.out
        have q1 := HC.out wr hg' p (by omega)
        have q2 : wr.cell? ⟨w.heap.size, 8 + p, none⟩ = some (.int .u64 (R (p + 8))) := by rw [Nat.add_comm 8 p]; exact HC.out wr hg' (p + 8) (by omega)
        obtain ⟨u0, u1⟩ := H.out p
        obtain ⟨v0, v1⟩ := H.out (p + 8)
        obtain ⟨b0, b1⟩ := both_bd H.out p
        obtain ⟨s0, s1⟩ := shlS_bd (addS (R p) (R (p + 8))) (p : Int) b0
        have k1 := fun w => ref_Add (hitsD R k (p - k)) (R p) x0 u0 u1 w
        have k2 := fun w => ref_Add (R p) (R (p + 8)) u0 v0 v1 w
        have k3 := fun w => ref_Shl (addS (R p) (R (p + 8))) (p : Int) b0 b1 (by omega) w
        have k4 := fun w => ref_Add (allD R k (p - k)) (shlS (addS (R p) (R (p + 8))) (p : Int)) y0 s0 s1 w
        have HN := Lib.hid (hitsD_step R hkp)
        have HA := Lib.hid (allD_step R hkp)
        clear hg' H
        generalize addS (allD R k (p - k)) (shlS (addS (R p) (R (p + 8))) (p : Int)) = c4 at *
        generalize shlS (addS (R p) (R (p + 8))) (p : Int) = c3 at *
        generalize addS (R p) (R (p + 8)) = c2 at *
        generalize addS (hitsD R k (p - k)) (R p) = c1 at *
        generalize R p = r1 at *
        generalize R (p + 8) = r2 at *
        generalize hitsD R k (p - k) = hh at *
        generalize allD R k (p - k) = aa at *
        have p1 := Under.cell q1
        have p2 := Under.cell q2
        go_wp2_with fail
        refine (k1 _).mono ?_
        rintro e _ ⟨rfl, rfl⟩
        go_wp2_with fail
        (refine region_under (by kernel_rfl) (by kernel_rfl) ?_; (repeat (first | go_big_quiet_step ((first | (go_at_call 33; first | (with_reducible exact stayU (k2 _)) | (with_reducible exact stayU (k4 _))) | (go_at_call 34; with_reducible exact stayU (k3 _)))) | quiet_step ((first | (go_at_call 33; first | (with_reducible exact stayU (k2 _)) | (with_reducible exact stayU (k4 _))) | (go_at_call 34; with_reducible exact stayU (k3 _)))))); refine wpQuiet_nil ?_; intro _ hw'; obtain ⟨x, hw''⟩ := hw'; subst hw''; go_wp2_with fail)
        exact ⟨⟨p + 1, by omega, by rw [HN.out], by rw [HA.out], by go_num, hB'.trans (x.2.mono hB'.size)⟩, by simp [intOf]; omega⟩
      · have e1 : p + 1 - k = p - k := by omega
        have hpk : (p : Int) < k := by omega
        have E1 := Lib.hid e1
        clear e1 H
        go_wp2_with fail
        exact ⟨⟨p + 1, by omega, by rw [E1.out], by rw [E1.out], by go_num, hB'⟩, by simp [intOf]; omega⟩
    · obtain rfl : p = 8 := by omega
      have hd : densR R k = if allD R k (8 - k) = 0 then 4294967296 else fxV (hitsD R k (8 - k)) (allD R k (8 - k)) := rfl
      have k5 := fun w => ref4_Of (hitsD R k (8 - k)) (allD R k (8 - k)) x0 x1 y0 y1 w
      have HB := hB.trans (hB'.mono hB.size)
      by_cases hz : allD R k (8 - k) = 0
      · rw [if_pos hz] at hd
        rw [hz]
        have HD := Lib.hid hd
        clear hd k5 hz H
        go_wp2_with fail
        go_ret
        exact ⟨by rw [HD.out]; rfl, HB⟩
      · rw [if_neg hz] at hd
        have HD := Lib.hid hd
        clear hd
        generalize fxV (hitsD R k (8 - k)) (allD R k (8 - k)) = fv at *
        generalize fxE (hitsD R k (8 - k)) (allD R k (8 - k)) = fe at *
        generalize allD R k (8 - k) = aa at *
        generalize hitsD R k (8 - k) = hh at *
        go_wp2_with fail
        refine (k5 _).mono ?_
        rintro e w5 ⟨rfl, hb5⟩
        go_wp2_with fail
        go_ret
        exact ⟨by rw [HD.out]; rfl, HB.trans (hb5.mono HB.size)⟩
theorem ref19_Density (R : Nat → Int) (a : Int) (h : IsR R) (w : World) :
    Calls Try.prog 22 #[rankV R, .int .i64 a] w fun e w' => e = .returned (.int .u64 (densV R a)) ∧ Below w.heap.size w w' := by
  by_cases ha : 0 ≤ a ∧ a < 8
  · obtain ⟨n, rfl⟩ : ∃ n : Nat, a = n := ⟨a.toNat, by omega⟩
    have e : densV R n = densR R n := by unfold densV; rw [if_pos ha]; rfl
    rw [e]
    exact ref19_Density_some R n h (by omega) w
  · have e : densV R a = 0 := by unfold densV; rw [if_neg ha]
    rw [e]; exact ref19_Density_no R a h ha w
end Go.Proofs.Ytmehejdgdjaipaa
