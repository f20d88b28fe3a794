/- The walks of sum, fill, time. -/
import Derived.Test.YtejipmkbjmcnaaaDoorTuneI
set_option linter.unusedVariables false
set_option maxRecDepth 100000
set_option maxHeartbeats 2000000
namespace Go.Proofs.YtejipmkbjmcnaaaDoor
open Go.RowKit Go.Shelf
attribute [local go_sem ↓] lt_alloc

theorem tune_sum_fill {a : Option Addr} {n cap : Nat} {c1 c2 c3 : Value} {F : Nat → Int} (hF : ∀ i, i < n → 0 ≤ F i ∧ F i < 18446744073709551616) (hn : n ≤ 1000000) (w : World)
    (hf : ∀ i, i < n → ∀ W, Below w.heap.size w W → Calls Tryd.prog 57 #[.int .i64 i, c1, c2, c3] W fun e w' => e = .returned (.int .u64 (F i)) ∧ Below W.heap.size W w') :
    Calls Tryd.prog 45 #[.slice a n cap, .func (.func 57) #[] #[c1, c2, c3]] w fun e w' => e = .returned (.int .u64 (sumW F n)) ∧ Below w.heap.size w w' := by
  have HF := Lib.hid hF
  have Hf := Lib.hid hf
  have hsb : ∀ i, i ≤ n → 0 ≤ sumW F i ∧ sumW F i < 18446744073709551616 := by
    intro i
    induction i with
    | zero => intro _; exact ⟨Int.le_refl _, by show (0 : Int) < _; omega⟩
    | succ i ih => intro h; exact addS_bd _ _ (ih (by omega)).1 (hF i (by omega)).1
  have HSB := Lib.hid hsb
  clear hF hf hsb
  go_enter Tryd.func45, Tryd.ntmps45
  go_wp2_with fail
  go_loopw [5, 9] (fun sv iv W => ∃ i : Nat, i ≤ n ∧ iv = .int .i64 i ∧ sv = .int .u64 (sumW F i) ∧ Below w.heap.size w W) (fun _ iv _ => n - (intOf iv).toNat)
  case atStart => exact ⟨0, Nat.zero_le _, rfl, rfl, Below.refl _ _⟩
  case round =>
    obtain ⟨i, hi, rfl, rfl, hB⟩ := hrel
    by_cases hlt : i < n
    · have kf := Hf.out i hlt wr hB
      have hb1 := HF.out i hlt
      have hb2 := HSB.out i hi
      have HS := Lib.hid (show addS (sumW F i) (F i) = sumW F (i + 1) from rfl)
      have ka := fun w => word_Add (sumW F i) (F i) hb2.1 hb1.1 w
      generalize sumW F i = s at *
      generalize F i = v at *
      go_wp2_with fail
      refine kf.mono ?_
      rintro e w2 ⟨rfl, hb⟩
      have HB2 := Lib.hid (hB.trans (hb.mono hB.size))
      clear hb kf
      go_wp2_with (go_at_call 60; refine (ka _).mono ?_; rintro e w' ⟨rfl, rfl⟩)
      exact ⟨⟨i + 1, by omega, by go_num, by rw [HS.out], HB2.out⟩, by simp [intOf]; omega⟩
    · obtain rfl : n = i := by omega
      go_wp2_with fail
      go_ret
      exact ⟨rfl, hB⟩
theorem tune_sum_score {a : Option Addr} {n cap : Nat} {c1 c2 c3 : Value} {F : Nat → Int} (hF : ∀ i, i < n → 0 ≤ F i ∧ F i < 18446744073709551616) (hn : n ≤ 1000000) (w : World)
    (hf : ∀ i, i < n → ∀ W, Below w.heap.size w W → Calls Tryd.prog 46 #[.int .i64 i, c1, c2, c3] W fun e w' => e = .returned (.int .u64 (F i)) ∧ Below W.heap.size W w') :
    Calls Tryd.prog 45 #[.slice a n cap, .func (.func 46) #[] #[c1, c2, c3]] w fun e w' => e = .returned (.int .u64 (sumW F n)) ∧ Below w.heap.size w w' := by
  have HF := Lib.hid hF
  have Hf := Lib.hid hf
  have hsb : ∀ i, i ≤ n → 0 ≤ sumW F i ∧ sumW F i < 18446744073709551616 := by
    intro i
    induction i with
    | zero => intro _; exact ⟨Int.le_refl _, by show (0 : Int) < _; omega⟩
    | succ i ih => intro h; exact addS_bd _ _ (ih (by omega)).1 (hF i (by omega)).1
  have HSB := Lib.hid hsb
  clear hF hf hsb
  go_enter Tryd.func45, Tryd.ntmps45
  go_wp2_with fail
  go_loopw [5, 9] (fun sv iv W => ∃ i : Nat, i ≤ n ∧ iv = .int .i64 i ∧ sv = .int .u64 (sumW F i) ∧ Below w.heap.size w W) (fun _ iv _ => n - (intOf iv).toNat)
  case atStart => exact ⟨0, Nat.zero_le _, rfl, rfl, Below.refl _ _⟩
  case round =>
    obtain ⟨i, hi, rfl, rfl, hB⟩ := hrel
    by_cases hlt : i < n
    · have kf := Hf.out i hlt wr hB
      have hb1 := HF.out i hlt
      have hb2 := HSB.out i hi
      have HS := Lib.hid (show addS (sumW F i) (F i) = sumW F (i + 1) from rfl)
      have ka := fun w => word_Add (sumW F i) (F i) hb2.1 hb1.1 w
      generalize sumW F i = s at *
      generalize F i = v at *
      go_wp2_with fail
      refine kf.mono ?_
      rintro e w2 ⟨rfl, hb⟩
      have HB2 := Lib.hid (hB.trans (hb.mono hB.size))
      clear hb kf
      go_wp2_with (go_at_call 60; refine (ka _).mono ?_; rintro e w' ⟨rfl, rfl⟩)
      exact ⟨⟨i + 1, by omega, by go_num, by rw [HS.out], HB2.out⟩, by simp [intOf]; omega⟩
    · obtain rfl : n = i := by omega
      go_wp2_with fail
      go_ret
      exact ⟨rfl, hB⟩
theorem three_new (W : World) (o1 o2 o3 : Obj) : (((W.alloc o1).alloc o2).alloc o3).heap[W.heap.size]? = some o1 ∧ (((W.alloc o1).alloc o2).alloc o3).heap[W.heap.size + 1]? = some o2 ∧ (((W.alloc o1).alloc o2).alloc o3).heap[W.heap.size + 1 + 1]? = some o3 := by
  refine ⟨?_, ?_, ?_⟩
  · rw [heap_alloc_old _ _ (by simp; omega), heap_alloc_old _ _ (by simp)]; exact heap_alloc_new W o1
  · rw [heap_alloc_old _ _ (by simp)]
    have h := heap_alloc_new (W.alloc o1) o2
    rw [World.size_alloc] at h; exact h
  · have h := heap_alloc_new ((W.alloc o1).alloc o2) o3
    rw [World.size_alloc, World.size_alloc] at h; exact h
theorem tune_fill1 {a oa : Option Addr} {n cap oc b1 b2 b3 i : Nat} {l : List Sn} {O : Nat → Int} {t : Int} (hn : l.length = n) (hi : InW l) (hO : ∀ i, i < n → 0 ≤ O i ∧ O i < 18446744073709551616) (t0 : 0 ≤ t) (t1 : t < 18446744073709551616) (hin : i < n)
    (w : World) (iW : IsW w a l) (iO : IsK .u64 w oa n O) (q1 : w.cell? ⟨b1, 0, none⟩ = some (.slice a n cap)) (q2 : w.cell? ⟨b2, 0, none⟩ = some (.slice oa n oc)) (q3 : w.cell? ⟨b3, 0, none⟩ = some (.int .u64 t)) :
    Calls Tryd.prog 57 #[.int .i64 i, .pointer (some ⟨b1, 0, none⟩), .pointer (some ⟨b2, 0, none⟩), .pointer (some ⟨b3, 0, none⟩)] w fun e w' => e = .returned (.int .u64 (mulS (ofS (wAt l i).size) (partO (O i) t))) ∧ Below w.heap.size w w' := by
  obtain ⟨ab, ao, rfl, hl1, r0, r1, r2⟩ := iW.row (i := i) (by rw [hn]; exact hin)
  obtain ⟨ob, oo, rfl, hl2, s0⟩ := iO.row hin
  have hz := (hi i (by rw [hn]; exact hin)).1
  have ho := hO i hin
  have k1 := fun w => word_Of (wAt l i).size hz.1 hz.2 w
  have b1' := ofS_bd (wAt l i).size hz.2
  have k2 := fun w => tune_part (o := O i) (t := t) ho.1 ho.2 t0 t1 w
  have b2' := partO_bd ho.1 t0
  have k3 := fun w => word_Mul (ofS (wAt l i).size) (partO (O i) t) b1'.1 b1'.2 b2'.1 b2'.2 w
  have hin' : (i : Int) < n := by omega
  rw [hn] at hl1
  clear iW iO hi hO r0 r2 hn
  generalize mulS (ofS (wAt l i).size) (partO (O i) t) = v at *
  generalize partO (O i) t = u at *
  generalize ofS (wAt l i).size = y at *
  generalize (wAt l i).size = z at *
  generalize O i = o at *
  have p1 := Under.cell q1
  have p2 := Under.cell q2
  have p3 := Under.cell q3
  have p4 := Under.cell r1
  have p5 := Under.cell s0
  clear q1 q2 q3 r1 s0
  go_enter Tryd.func57, Tryd.ntmps57
  go_wp2_with fail
  (refine region_under (by kernel_rfl) (by kernel_rfl) ?_; (repeat (first | go_big_quiet_step ((first | (go_at_call 48; with_reducible exact stayU (k1 _)) | (go_at_call 34; with_reducible exact quietU (k2 _)) | (go_at_call 47; with_reducible exact stayU (k3 _)))) | quiet_step ((first | (go_at_call 48; with_reducible exact stayU (k1 _)) | (go_at_call 34; with_reducible exact quietU (k2 _)) | (go_at_call 47; with_reducible exact stayU (k3 _)))))); refine wpQuiet_nil ?_; intro _ hw'; obtain ⟨x, hw''⟩ := hw'; subst hw''; go_wp2_with fail)
  go_ret
  exact ⟨rfl, x.2⟩
theorem tune_Score1 {a oa : Option Addr} {n cap oc b1 b2 b3 i : Nat} {l : List Sn} {O : Nat → Int} {t : Int} (hn : l.length = n) (hi : InW l) (hO : ∀ i, i < n → 0 ≤ O i ∧ O i < 18446744073709551616) (t0 : 0 ≤ t) (t1 : t < 18446744073709551616) (hin : i < n)
    (w : World) (iW : IsW w a l) (iO : IsK .u64 w oa n O) (q1 : w.cell? ⟨b1, 0, none⟩ = some (.slice a n cap)) (q2 : w.cell? ⟨b2, 0, none⟩ = some (.slice oa n oc)) (q3 : w.cell? ⟨b3, 0, none⟩ = some (.int .u64 t)) :
    Calls Tryd.prog 46 #[.int .i64 i, .pointer (some ⟨b1, 0, none⟩), .pointer (some ⟨b2, 0, none⟩), .pointer (some ⟨b3, 0, none⟩)] w fun e w' => e = .returned (.int .u64 (mulS (ofS (wAt l i).n) (partO (O i) t))) ∧ Below w.heap.size w w' := by
  obtain ⟨ab, ao, rfl, hl1, r0, r1, r2⟩ := iW.row (i := i) (by rw [hn]; exact hin)
  obtain ⟨ob, oo, rfl, hl2, s0⟩ := iO.row hin
  have hz := (hi i (by rw [hn]; exact hin)).2
  have ho := hO i hin
  have k1 := fun w => word_Of (wAt l i).n hz.1 hz.2 w
  have b1' := ofS_bd (wAt l i).n hz.2
  have k2 := fun w => tune_part (o := O i) (t := t) ho.1 ho.2 t0 t1 w
  have b2' := partO_bd ho.1 t0
  have k3 := fun w => word_Mul (ofS (wAt l i).n) (partO (O i) t) b1'.1 b1'.2 b2'.1 b2'.2 w
  have hin' : (i : Int) < n := by omega
  rw [hn] at hl1
  clear iW iO hi hO r0 r1 hn
  generalize mulS (ofS (wAt l i).n) (partO (O i) t) = v at *
  generalize partO (O i) t = u at *
  generalize ofS (wAt l i).n = y at *
  generalize (wAt l i).n = z at *
  generalize O i = o at *
  have p1 := Under.cell q1
  have p2 := Under.cell q2
  have p3 := Under.cell q3
  have p4 := Under.cell r2
  have p5 := Under.cell s0
  clear q1 q2 q3 r2 s0
  go_enter Tryd.func46, Tryd.ntmps46
  go_wp2_with fail
  (refine region_under (by kernel_rfl) (by kernel_rfl) ?_; (repeat (first | go_big_quiet_step ((first | (go_at_call 48; with_reducible exact stayU (k1 _)) | (go_at_call 34; with_reducible exact quietU (k2 _)) | (go_at_call 47; with_reducible exact stayU (k3 _)))) | quiet_step ((first | (go_at_call 48; with_reducible exact stayU (k1 _)) | (go_at_call 34; with_reducible exact quietU (k2 _)) | (go_at_call 47; with_reducible exact stayU (k3 _)))))); refine wpQuiet_nil ?_; intro _ hw'; obtain ⟨x, hw''⟩ := hw'; subst hw''; go_wp2_with fail)
  go_ret
  exact ⟨rfl, x.2⟩
theorem tune_fill {a oa : Option Addr} {n cap oc : Nat} {l : List Sn} {O : Nat → Int} {t : Int} (hn : l.length = n) (hm : n ≤ 1000000) (hi : InW l) (hO : ∀ i, i < n → 0 ≤ O i ∧ O i < 18446744073709551616) (t0 : 0 ≤ t) (t1 : t < 18446744073709551616)
    (w : World) (iW : IsW w a l) (iO : IsK .u64 w oa n O) :
    Calls Tryd.prog 39 #[.slice a n cap, .slice oa n oc, .int .u64 t] w fun e w' => e = .returned (.int .u64 (sumW (fun i => mulS (ofS (wAt l i).size) (partO (O i) t)) n)) ∧ Below w.heap.size w w' := by
  have kf := fun b1 b2 b3 i hin w iW iO q1 q2 q3 => tune_fill1 (a := a) (oa := oa) (cap := cap) (oc := oc) (b1 := b1) (b2 := b2) (b3 := b3) (i := i) (t := t) hn hi hO t0 t1 hin w iW iO q1 q2 q3
  have hF : ∀ i, i < n → 0 ≤ mulS (ofS (wAt l i).size) (partO (O i) t) ∧ mulS (ofS (wAt l i).size) (partO (O i) t) < 18446744073709551616 := fun i h =>
    mulS_bd _ _ (ofS_bd _ (hi i (by rw [hn]; exact h)).1.2).1 (partO_bd (hO i h).1 t0).1
  have ks := fun c1 c2 c3 w hf => tune_sum_fill (a := a) (cap := cap) (c1 := c1) (c2 := c2) (c3 := c3) hF hm w hf
  have KF := Lib.hid kf
  have KS := Lib.hid ks
  have IW := Lib.hid iW
  have IO := Lib.hid iO
  clear hi hO iW iO hn kf ks hF
  have mf : ∀ (fn : Fn) (first cap : Array Value) (w : World), (Instr.makeFunc fn first cap).run Tryd.prog w = .ok (.func fn first cap) w := fun _ _ _ _ => rfl
  go_enter Tryd.func39, Tryd.ntmps39
  go_wp2_with fail
  obtain ⟨W, hW⟩ : ∃ W, W = (((w.alloc (.cells #[.slice a n cap] 22)).alloc (.cells #[.slice oa n oc] 61)).alloc (.cells #[.int .u64 t] 23)) := ⟨_, rfl⟩
  rw [← hW]
  have t3 := three_new w (.cells #[.slice a n cap] 22) (.cells #[.slice oa n oc] 61) (.cells #[.int .u64 t] 23)
  rw [← hW] at t3
  have q1 : W.cell? ⟨w.heap.size, 0, none⟩ = some (.slice a n cap) := cell_of_row W _ 0 _ _ _ t3.1
  have q2 : W.cell? ⟨w.heap.size + 1, 0, none⟩ = some (.slice oa n oc) := cell_of_row W _ 0 _ _ _ t3.2.1
  have q3 : W.cell? ⟨w.heap.size + 1 + 1, 0, none⟩ = some (.int .u64 t) := cell_of_row W _ 0 _ _ _ t3.2.2
  have hB : Below w.heap.size w W := by
    rw [hW]
    exact (((Below.refl _ _).alloc (Nat.le_refl _) _).alloc (by simp) _).alloc (by simp; omega) _
  clear hW t3
  refine (KS.out _ _ _ W fun i hi V hV => KF.out w.heap.size (w.heap.size + 1) (w.heap.size + 1 + 1) i hi V ((IW.out.below hB).below hV) ((IO.out.below hB).below hV) (keepB hV q1) (keepB hV q2) (keepB hV q3)).mono ?_
  rintro e w2 ⟨rfl, hb⟩
  have HB2 := Lib.hid (hB.trans (hb.mono hB.size))
  clear hb
  go_wp2_with fail
  go_ret
  exact ⟨rfl, HB2.out⟩
end Go.Proofs.YtejipmkbjmcnaaaDoor
