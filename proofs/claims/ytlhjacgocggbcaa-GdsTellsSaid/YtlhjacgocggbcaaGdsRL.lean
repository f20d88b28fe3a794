/- The walk of the reference's serve. -/
import Derived.Test.YtlhjacgocggbcaaGdsRK
import Derived.Test.YtlhjacgocggbcaaCallTail
set_option linter.unusedVariables false
set_option maxRecDepth 100000
set_option maxHeartbeats 4000000
namespace Go.Proofs.Ytlhjacgocggbcaa
open Go.RowKit Go.Shelf
attribute [local go_sem ↓] lt_alloc

theorem ret_served {fn : Func} {p q : Tmp} (h : fn.results = #[.cell p 56, .cell q 40]) {tmps : Array Value} {w : World} {g k : Nat} {cs ds : Array Value}
    (hp : tmps.getD p undef = .pointer (some ⟨g, 0, none⟩)) (hg : w.heap[g]? = some (.cells cs 56)) (hs : cs.size = 3)
    (hq : tmps.getD q undef = .pointer (some ⟨k, 0, none⟩)) (hk : w.heap[k]? = some (.cells ds 40)) (hd : ds.size = 2) : (results fn tmps).run Try.prog w = .ok (.tuple #[.agg cs, .agg ds]) w := by
  have hp' : tmps[p]?.getD undef = .pointer (some ⟨g, 0, none⟩) := by simpa using hp
  have hq' : tmps[q]?.getD undef = .pointer (some ⟨k, 0, none⟩) := by simpa using hq
  have r1 := run_loadVar_row (P := Try.prog) w g 56 56 cs (0, 0) ((Try.prog.underlying 56).get cache_some) hg (Option.some_get _).symm (by kernel_rfl) (by rw [cache_size, hs])
  have r2 := run_loadVar_row (P := Try.prog) w k 40 40 ds (0, 0) ((Try.prog.underlying 40).get serve_some) hk (Option.some_get _).symm (by kernel_rfl) (by rw [serve_size, hd])
  simp [results, h, hp', hq', asAddr, r1, r2]
/-- What serve hands back. -/
def ServeEnd (w : World) (ia : Option Addr) (L0 : List Nat) (ra : Option Addr) (Z C : Nat → Int) (n : Nat) (most : Int) (r : Gd × Bool × List Nat) (e : Ending) (w' : World) : Prop :=
  ∃ (L : List Nat) (a : Option Addr) (c : Nat) (b : Option Addr) (d : Nat) (ov : Value), e = .returned (.tuple #[.agg #[.slice a L.length c, .slice b n d, .int .u64 r.1.lv], .agg #[.bool r.2.1, ov]]) ∧ KeptR Z n most L r.1 ∧ IsL w' a L ∧ IsK .u64 w' b n r.1.rk ∧ OutsAt w.heap.size w' ov r.2.2 ∧ Below w.heap.size w w' ∧ ((a = ia ∧ L = L0) ∨ ∀ k o, a = some ⟨k, o, none⟩ → w.heap.size ≤ k) ∧ (b = ra ∨ ∀ k o, b = some ⟨k, o, none⟩ → w.heap.size ≤ k)
theorem serve_end {w W : World} {Z C : Nat → Int} {n : Nat} {most lv : Int} {cv : Array Value} {a b c d e ov : Value} {L l : List Nat} {fa fb : Option Addr} {fc fd : Nat} {R : Nat → Int} {s : Gd} {hit : Bool} (h : SvW w W cv #[a, b, c] #[d, e]) (hL : IsL W fa L) (hR : IsK .u64 W fb n R)
    (ha : ∀ k o, fa = some ⟨k, o, none⟩ → 0 < L.length → k < w.heap.size ∨ w.heap.size + 3 ≤ k) (hb : ∀ k o, fb = some ⟨k, o, none⟩ → 0 < n → k < w.heap.size ∨ w.heap.size + 3 ≤ k) (ho : OutsAt (w.heap.size + 3) W ov l) (hK : KeptR Z n most L s) (hlv : s.lv = lv) (hrk : s.rk = R)
    {ia ra : Option Addr} {L0 : List Nat} (hoa : (fa = ia ∧ L = L0) ∨ ∀ k o, fa = some ⟨k, o, none⟩ → w.heap.size ≤ k) (hob : fb = ra ∨ ∀ k o, fb = some ⟨k, o, none⟩ → w.heap.size ≤ k) :
    ServeEnd w ia L0 ra Z C n most (s, hit, l) (.returned (.tuple #[.agg #[.slice fa L.length fc, .slice fb n fd, .int .u64 lv], .agg #[.bool hit, ov]]))
      (((((W.setCell ⟨w.heap.size + 1, 0, none⟩ (.slice fa L.length fc)).setCell ⟨w.heap.size + 1, 1, none⟩ (.slice fb n fd)).setCell ⟨w.heap.size + 1, 2, none⟩ (.int .u64 lv)).setCell ⟨w.heap.size + 1 + 1, 0, none⟩ (.bool hit)).setCell ⟨w.heap.size + 1 + 1, 1, none⟩ ov) := by
  subst hlv hrk
  obtain ⟨oa, oc, rfl, o1, o2⟩ := ho
  exact ⟨L, fa, fc, fb, fd, _, rfl, hK, IsK.ansSet hL ha _ _ _ _ _, hR.ansSet hb _ _ _ _ _,
    ⟨oa, oc, rfl, o1.ansSet (fun k o e _ => Or.inr (o2 k o e)) _ _ _ _ _, fun k o e => by have := o2 k o e; omega⟩, (h.ans _ _ _ _ _).on, hoa, hob⟩
theorem ref18_serve_hit {ia ra sa ca : Option Addr} {m n ic rc cs cc i : Nat} {most : Int} {L : List Nat} {s : Gd} {Z C : Nat → Int} (hL : L.length = m) (hm : m ≤ 100000) (hi : i < n) (hn : n ≤ 1000) (hZ : InK .i64 Z) (hC : InK .i64 C) (hK : KeptR Z n most L s) (hin : s.inn i = true)
    (w : World) (iL : IsL w ia L) (iR : IsK .u64 w ra n s.rk) (iZ : IsK .i64 w sa n Z) (iC : IsK .i64 w ca n C) :
    Calls Try.prog 23 #[.agg #[.slice ia m ic, .slice ra n rc, .int .u64 s.lv], .int .i64 most, .slice sa n cs, .slice ca n cc, .int .i64 i] w (ServeEnd w ia L ra Z C n most (rankG Z C s i, true, [])) := by
  have hmem : i ∈ L := (hK.be.mem i hi).1 hin
  have kh := fun w iL => ref18_has (a := ia) (cap := ic) (k := i) hL w iL
  rw [decide_eq_true hmem] at kh
  have kr := fun w iL iR iZ iC => ref18_rank (R := s.rk) (ia := ia) (ra := ra) (sa := sa) (ca := ca) (ic := ic) (rc := rc) (cs := cs) (cc := cc) hL hm hi hn hZ hC hK.inv.lv w iL iR iZ iC
  have HK := Lib.hid (hK.again (C := C) hi hin)
  have HE := Lib.hid (show (rankG Z C s i).lv = s.lv ∧ (rankG Z C s i).rk = setI s.rk i ((s.lv + wgtO Z C i) % 18446744073709551616) from ⟨rfl, rfl⟩)
  have IL := Lib.hid iL
  have IR := Lib.hid iR
  have IZ := Lib.hid iZ
  have IC := Lib.hid iC
  have KH := Lib.hid kh
  have KR := Lib.hid kr
  have HW0 := Lib.hid (svW_new w #[.slice ia m ic, .slice ra n rc, .int .u64 s.lv] #[.slice none 0 0, .slice none 0 0, .int .u64 0] #[.bool false, .slice none 0 0])
  clear hK iL iR iZ iC kh kr hZ hC
  generalize (L.filter fun x => x != i) ++ [i] = L2 at *
  generalize rankG Z C s i = s2 at *
  generalize setI s.rk i ((s.lv + wgtO Z C i) % 18446744073709551616) = R2 at *
  generalize s.lv = lv at *
  generalize s.rk = R at *
  have c0 := HW0.out.cC.1
  go_enter Try.func23, Try.ntmps23
  go_wp2_with fail
  refine (KH.out _ (IL.out.below HW0.out.on)).mono ?_
  rintro e w1 ⟨rfl, hb1⟩
  have HW1 := Lib.hid (HW0.out.below hb1)
  clear c0 HW0 hb1
  obtain ⟨c0, c1, c2⟩ := HW1.out.cC
  go_wp2_with fail
  refine (KR.out _ (IL.out.below HW1.out.on) (IR.out.below HW1.out.on) (IZ.out.below HW1.out.on) (IC.out.below HW1.out.on)).mono ?_
  rintro e w2 ⟨fa, fc, fb, fd, rfl, hL2, hR2, hb2, hfa, hfb⟩
  have HW2 := Lib.hid (HW1.out.below hb2)
  obtain ⟨d0, d1, d2⟩ := HW2.out.cD
  obtain ⟨e0, e1⟩ := HW2.out.cE
  have f0 := HW2.out.fD 0
  have f1 := HW2.out.fD 1
  have f2 := HW2.out.fD 2
  have f3 := HW2.out.fE 0
  have f4 := HW2.out.fE 1
  have HL2 := Lib.hid hL2
  have HR2 := Lib.hid hR2
  have hs1 := HW1.out.sz
  have HFin := Lib.hid (fun (lv' : Int) (hlv : lv' = lv) => serve_end (C := C) (fc := fc) (fd := fd) (hit := true) HW2.out hL2 hR2 (fun k o e _ => Or.inr (by have := hfa k o e; omega)) (fun k o e _ => Or.inr (by have := hfb k o e; omega)) (OutsAt.nil _ _) HK.out HE.out.1 HE.out.2 (ia := ia) (ra := ra) (L0 := L) (Or.inr (fun k o e => by have := hfa k o e; omega)) (Or.inr (fun k o e => by have := hfb k o e; omega)))
  have HN := Lib.hid (HW2.out.ans (.slice fa L2.length fc) (.slice fb n fd) (.int .u64 lv) (.bool true) (.slice none 0 0))
  clear c0 c1 c2 HW1 HW2 hb2 hL2 hR2 hfa hfb hs1
  go_wp2_with fail
  have hr : ∀ (tmps : Array Value) (w : World) (g k : Nat) (cs ds : Array Value), tmps.getD 10 undef = .pointer (some ⟨g, 0, none⟩) → w.heap[g]? = some (.cells cs 56 (0, 0)) → cs.size = 3 → tmps.getD 11 undef = .pointer (some ⟨k, 0, none⟩) → w.heap[k]? = some (.cells ds 40 (0, 0)) → ds.size = 2 → (results Try.f23 tmps).run Try.prog w = .ok (.tuple #[.agg cs, .agg ds]) w := fun _ _ _ _ _ _ => ret_served (by kernel_rfl)
  refine bodyPost_ret (hr _ _ (w.heap.size + 1) (w.heap.size + 1 + 1) _ _ rfl HN.out.d rfl rfl HN.out.e rfl) rfl ?_
  exact HFin.out lv rfl
theorem isK_old {k : IntKind} {w : World} {a : Option Addr} {n : Nat} {Z : Nat → Int} (h : IsK k w a n Z) : ∀ b o, a = some ⟨b, o, none⟩ → 0 < n → b < w.heap.size := by
  intro b o e hn
  obtain ⟨b', o', e', _, hc⟩ := h.row hn
  rw [e'] at e
  cases e
  exact block_lt_of_cell hc
theorem ref18_serve_big {ia ra sa ca : Option Addr} {m n ic rc cs cc i : Nat} {most : Int} {L : List Nat} {s : Gd} {Z C : Nat → Int} (hL : L.length = m) (hi : i < n) (hK : KeptR Z n most L s) (hin : s.inn i = false) (hbig : most < Z i)
    (w : World) (iL : IsL w ia L) (iR : IsK .u64 w ra n s.rk) (iZ : IsK .i64 w sa n Z) :
    Calls Try.prog 23 #[.agg #[.slice ia m ic, .slice ra n rc, .int .u64 s.lv], .int .i64 most, .slice sa n cs, .slice ca n cc, .int .i64 i] w (ServeEnd w ia L ra Z C n most (s, false, [])) := by
  have hmem : i ∉ L := fun hh => by rw [(hK.be.mem i hi).2 hh] at hin; cases hin
  have kh := fun w iL => ref18_has (a := ia) (cap := ic) (k := i) hL w iL
  rw [decide_eq_false hmem] at kh
  have d1 : decide (most < Z i) = true := decide_eq_true hbig
  have o1 := isK_old (show IsK .i64 w ia L.length (nthI L) from iL)
  have o2 := isK_old iR
  have HK := Lib.hid hK
  have HL := Lib.hid hL
  have HE := Lib.hid (show s.lv = s.lv ∧ s.rk = s.rk from ⟨rfl, rfl⟩)
  have IL := Lib.hid iL
  have IR := Lib.hid iR
  have IZ := Lib.hid iZ
  have KH := Lib.hid kh
  have HW0 := Lib.hid (svW_new w #[.slice ia m ic, .slice ra n rc, .int .u64 s.lv] #[.slice none 0 0, .slice none 0 0, .int .u64 0] #[.bool false, .slice none 0 0])
  clear hK iL iR iZ kh hL
  have c0 := HW0.out.cC.1
  go_enter Try.func23, Try.ntmps23
  go_wp2_with fail
  refine (KH.out _ (IL.out.below HW0.out.on)).mono ?_
  rintro e w1 ⟨rfl, hb1⟩
  have HW1 := Lib.hid (HW0.out.below hb1)
  clear c0 HW0 hb1
  obtain ⟨c0, c1, c2⟩ := HW1.out.cC
  obtain ⟨d0, d2, d3⟩ := HW1.out.cD
  obtain ⟨e0, e1⟩ := HW1.out.cE
  have f0 := HW1.out.fD 0
  have f1 := HW1.out.fD 1
  have f2 := HW1.out.fD 2
  have f3 := HW1.out.fE 0
  have f4 := HW1.out.fE 1
  obtain ⟨sb, so, rfl, h63, hz⟩ := (IZ.out.below HW1.out.on).row hi
  have HFin := Lib.hid (fun (lv' : Int) (hlv : lv' = s.lv) => serve_end (C := C) (fc := ic) (fd := rc) (hit := false) HW1.out (IL.out.below HW1.out.on) (IR.out.below HW1.out.on) (fun k o e h => Or.inl (o1 k o e h)) (fun k o e h => Or.inl (o2 k o e h)) (OutsAt.nil _ _) HK.out rfl rfl (ia := ia) (ra := ra) (Or.inl ⟨rfl, rfl⟩) (Or.inl rfl))
  rw [HL.out] at HFin
  have HN := Lib.hid (HW1.out.ans (.slice ia m ic) (.slice ra n rc) (.int .u64 s.lv) (.bool false) (.slice none 0 0))
  clear HW1 o1 o2
  generalize hlv : s.lv = lv at *
  generalize Z i = z at *
  go_wp2_with fail
  have hr : ∀ (tmps : Array Value) (w : World) (g k : Nat) (cs ds : Array Value), tmps.getD 10 undef = .pointer (some ⟨g, 0, none⟩) → w.heap[g]? = some (.cells cs 56 (0, 0)) → cs.size = 3 → tmps.getD 11 undef = .pointer (some ⟨k, 0, none⟩) → w.heap[k]? = some (.cells ds 40 (0, 0)) → ds.size = 2 → (results Try.f23 tmps).run Try.prog w = .ok (.tuple #[.agg cs, .agg ds]) w := fun _ _ _ _ _ _ => ret_served (by kernel_rfl)
  refine bodyPost_ret (hr _ _ (w.heap.size + 1) (w.heap.size + 1 + 1) _ _ rfl HN.out.d rfl rfl HN.out.e rfl) rfl ?_
  exact HFin.out lv rfl
end Go.Proofs.Ytlhjacgocggbcaa
