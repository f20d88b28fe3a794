/- The walk of the reference's Run. -/
import Derived.Test.YtlhjacgocggbcaaGdsRN
set_option linter.unusedVariables false
set_option maxRecDepth 100000
set_option maxHeartbeats 4000000
namespace Go.Proofs.Ytlhjacgocggbcaa
open Go.RowKit Go.Shelf
attribute [local go_sem ↓] lt_alloc

/-- What a run hands back. -/
def RunEnd (w : World) (most : Int) (Z C : Nat → Int) (n nc m : Nat) (A : Nat → Int) (e : Ending) (w' : World) : Prop :=
  ∃ (a : Option Addr) (len cap : Nat), e = .returned (.tuple #[.slice a len cap, .int .i64 (runE most Z C n nc m A)]) ∧ len ≤ cap ∧ len = (if runE most Z C n nc m A = 0 then m else 0) ∧ IsS w' a len (hitG Z C n most (natA A)) (goG Z C n most (natA A)) ∧ Below w.heap.size w w'
theorem runEnd_err {w w' : World} {most : Int} {Z C : Nat → Int} {n nc m : Nat} {A : Nat → Int} {x : Int} (h : runE most Z C n nc m A = x) (hx : x ≠ 0) (hb : Below w.heap.size w w') : RunEnd w most Z C n nc m A (.returned (.tuple #[.slice none 0 0, .int .i64 x])) w' := by
  refine ⟨none, 0, 0, by rw [h], Nat.le_refl _, ?_, Or.inl rfl, hb⟩
  rw [h, if_neg hx]
theorem runE_220 {most : Int} {Z C : Nat → Int} {n nc m : Nat} {A : Nat → Int} (h : ¬ cfgP most Z C n nc) : runE most Z C n nc m A = 220 := by unfold runE; rw [if_pos h]
theorem runE_221 {most : Int} {Z C : Nat → Int} {n nc m : Nat} {A : Nat → Int} (h : cfgP most Z C n nc) (h2 : ¬ callsP n m A) : runE most Z C n nc m A = 221 := by unfold runE; rw [if_neg (fun hh => hh h), if_pos h2]
theorem ref18_Run_head {most : Int} {sa ca aa : Option Addr} {n nc m cs cc ac : Nat} {Z C A : Nat → Int} (h : ¬ (1 ≤ most ∧ most ≤ 65536 ∧ n ≤ 64 ∧ nc = n)) (w : World) :
    Calls Try.prog 11 #[.int .i64 most, .slice sa n cs, .slice ca nc cc, .slice aa m ac] w (RunEnd w most Z C n nc m A) := by
  have HE := Lib.hid (runE_220 (m := m) (A := A) (show ¬ cfgP most Z C n nc from fun hh => h ⟨hh.1, hh.2.1, hh.2.2.1, hh.2.2.2.1.symm⟩))
  by_cases h1 : most < 1
  · have d1 : decide (most < 1) = true := decide_eq_true h1
    clear h
    go_enter Try.func11, Try.ntmps11
    go_wp2_with fail
    go_ret2
    exact runEnd_err HE.out (by decide) (Below.refl _ _)
  · have d1 : decide (most < 1) = false := decide_eq_false h1
    by_cases h2 : 65536 < most
    · have d2 : decide (65536 < most) = true := decide_eq_true h2
      clear h
      go_enter Try.func11, Try.ntmps11
      go_wp2_with fail
      go_ret2
      exact runEnd_err HE.out (by decide) (Below.refl _ _)
    · have d2 : decide (65536 < most) = false := decide_eq_false h2
      by_cases h3 : 64 < n
      · have d3 : decide (64 < (n : Int)) = true := decide_eq_true (by omega)
        clear h
        go_enter Try.func11, Try.ntmps11
        go_wp2_with fail
        go_ret2
        exact runEnd_err HE.out (by decide) (Below.refl _ _)
      · have d3 : decide (64 < (n : Int)) = false := decide_eq_false (by omega)
        have hne : nc ≠ n := fun e => h ⟨by omega, by omega, by omega, e⟩
        have d4 : ((nc : Int) != n) = true := by simp; omega
        clear h
        go_enter Try.func11, Try.ntmps11
        go_wp2_with fail
        go_ret2
        exact runEnd_err HE.out (by decide) (Below.refl _ _)
theorem own_in {w : World} {base T n c size : Nat} {e : TypeId} {xs : List Value} (h : w.ownsRow base e size (.slice (some ⟨T, 0, none⟩) n c) n xs) : T < w.heap.size := (h.lt T (by simp [Value.ownBlock])).2
theorem rk_made {w : World} {base T n : Nat} (h : w.ownsRow base 23 1 (.slice (some ⟨T, 0, none⟩) n n) n (madeCells (Value.int .u64 0).cells (n * 1)).toList) (hn : n ≤ 64) : IsK .u64 w (some ⟨T, 0, none⟩) n (fun _ => 0) := by
  refine Or.inr ⟨T, 0, rfl, by omega, fun j hj => ?_⟩
  have e := h.cells (g := T) rfl j (.int .u64 0) (by simp [madeCells, Value.cells, hj, Nat.mod_one])
  rwa [Addr.add_lit] at e
/-- The reference's run ahead of its j-th call. -/
structure RunW (w W : World) (g : Nat) (Z C : Nat → Int) (n : Nat) (most : Int) (A : Nat → Nat) (j : Nat) (v : Value) (L : List Nat) (a : Option Addr) (c : Nat) (b : Option Addr) (d : Nat) : Prop where
  bx : W.heap[g]? = some (.cells #[.slice a L.length c, .slice b n d, .int .u64 (stG Z C n most A j).lv] 56 (0, 0))
  kept : KeptR Z n most L (stG Z C n most A j)
  ls : FarK .i64 g v W a L.length (nthI L)
  rs : FarK .u64 g v W b n (stG Z C n most A j).rk
  tol : TolAt W g v j (hitG Z C n most A) (goG Z C n most A)
  on : Below w.heap.size w W
  ge : w.heap.size ≤ g
theorem run_S {W0 W : World} {g ab ao : Nat} {x0 x1 x2 x3 : Value} (h0 : W0.cell? ⟨g, 0, none⟩ = some x0) (h1 : W0.cell? ⟨g, 1, none⟩ = some x1) (h2 : W0.cell? ⟨g, 2, none⟩ = some x2) (h3 : W0.cell? ⟨ab, ao, none⟩ = some x3) (hb : Below W0.heap.size W0 W) :
    W.cell? ⟨g, 0, none⟩ = some x0 ∧ W.cell? ⟨g, 1, none⟩ = some x1 ∧ W.cell? ⟨g, 2, none⟩ = some x2 ∧ W.cell? ⟨ab, ao, none⟩ = some x3 ∧ Hid (Below W0.heap.size W0 W) := ⟨keepB hb h0, keepB hb h1, keepB hb h2, keepB hb h3, Lib.hid hb⟩
theorem run_H {W0 W : World} {g ab ao : Nat} {x0 x1 x2 x3 : Value} (h : W.cell? ⟨g, 0, none⟩ = some x0 ∧ W.cell? ⟨g, 1, none⟩ = some x1 ∧ W.cell? ⟨g, 2, none⟩ = some x2 ∧ W.cell? ⟨ab, ao, none⟩ = some x3 ∧ Hid (Below W0.heap.size W0 W)) : Below W0.heap.size W0 W := h.2.2.2.2.out
theorem run_na {a ia : Option Addr} {L L0 : List Nat} {h0 hc g : Nat} {v : Value} (hold : ∀ b o, ia = some ⟨b, o, none⟩ → 0 < L0.length → b < h0 ∧ b ≠ g ∧ v.ownBlock ≠ some b) (h : (a = ia ∧ L = L0) ∨ ∀ b o, a = some ⟨b, o, none⟩ → hc ≤ b) : ∀ b o, a = some ⟨b, o, none⟩ → 0 < L.length → (b < h0 ∧ b ≠ g ∧ v.ownBlock ≠ some b) ∨ hc ≤ b := by
  intro b o e hl
  rcases h with ⟨rfl, rfl⟩ | h
  · exact Or.inl (hold b o e hl)
  · exact Or.inr (h b o e)
theorem run_nb {a ia : Option Addr} {n h0 hc g : Nat} {v : Value} (hold : ∀ b o, ia = some ⟨b, o, none⟩ → 0 < n → b < h0 ∧ b ≠ g ∧ v.ownBlock ≠ some b) (h : a = ia ∨ ∀ b o, a = some ⟨b, o, none⟩ → hc ≤ b) : ∀ b o, a = some ⟨b, o, none⟩ → 0 < n → (b < h0 ∧ b ≠ g ∧ v.ownBlock ≠ some b) ∨ hc ≤ b := by
  intro b o e hl
  rcases h with rfl | h
  · exact Or.inl (hold b o e hl)
  · exact Or.inr (h b o e)
theorem cells3 {W : World} {k : Nat} {a b c : Value} {t : TypeId} (h : W.heap[k]? = some (.cells #[a, b, c] t (0, 0))) : W.cell? ⟨k, 0, none⟩ = some a ∧ W.cell? ⟨k, 1, none⟩ = some b ∧ W.cell? ⟨k, 2, none⟩ = some c ∧ W.frozen? ⟨k, 0, none⟩ = false ∧ W.frozen? ⟨k, 1, none⟩ = false ∧ W.frozen? ⟨k, 2, none⟩ = false :=
  ⟨cell_of_row _ _ 0 _ _ _ h, cell_of_row _ _ 1 _ _ _ h, cell_of_row _ _ 2 _ _ _ h, frozen_of_row _ _ _ _ _ h, frozen_of_row _ _ _ _ _ h, frozen_of_row _ _ _ _ _ h⟩
theorem cells2 {W : World} {k : Nat} {a b : Value} {t : TypeId} (h : W.heap[k]? = some (.cells #[a, b] t (0, 0))) : W.cell? ⟨k, 0, none⟩ = some a ∧ W.cell? ⟨k, 1, none⟩ = some b ∧ W.frozen? ⟨k, 0, none⟩ = false ∧ W.frozen? ⟨k, 1, none⟩ = false :=
  ⟨cell_of_row _ _ 0 _ _ _ h, cell_of_row _ _ 1 _ _ _ h, frozen_of_row _ _ _ _ _ h, frozen_of_row _ _ _ _ _ h⟩
theorem heap_two (w : World) (o p : Obj) : ((w.alloc o).alloc p).heap[w.heap.size]? = some o ∧ ((w.alloc o).alloc p).heap[w.heap.size + 1]? = some p := by
  refine ⟨(heap_alloc_old _ _ (by simp)).trans (heap_alloc_new w o), ?_⟩
  have h := heap_alloc_new (w.alloc o) p
  rwa [show (w.alloc o).heap.size = w.heap.size + 1 by simp] at h
theorem kept_two {w w2 : World} {o p : Obj} (hb : Below ((w.alloc o).alloc p).drew.heap.size ((w.alloc o).alloc p).drew w2) : w2.heap[w.heap.size]? = some o ∧ w2.heap[w.heap.size + 1]? = some p :=
  ⟨(hb.block _ (by simp; omega)).trans (heap_two w o p).1, (hb.block _ (by simp)).trans (heap_two w o p).2⟩
theorem kept_one {w w2 : World} {o : Obj} (hb : Below (w.alloc o).drew.heap.size (w.alloc o).drew w2) : w2.heap[w.heap.size]? = some o := (hb.block _ (by simp)).trans (heap_alloc_new w o)
theorem older3 (W : World) (a b c : Value) (t : TypeId) (o : Obj) : ((W.alloc (.cells #[a, b, c] t)).alloc o).cell? ⟨W.heap.size, 0, none⟩ = some a ∧ ((W.alloc (.cells #[a, b, c] t)).alloc o).cell? ⟨W.heap.size, 1, none⟩ = some b ∧ ((W.alloc (.cells #[a, b, c] t)).alloc o).cell? ⟨W.heap.size, 2, none⟩ = some c ∧
    ((W.alloc (.cells #[a, b, c] t)).alloc o).frozen? ⟨W.heap.size, 0, none⟩ = false ∧ ((W.alloc (.cells #[a, b, c] t)).alloc o).frozen? ⟨W.heap.size, 1, none⟩ = false ∧ ((W.alloc (.cells #[a, b, c] t)).alloc o).frozen? ⟨W.heap.size, 2, none⟩ = false := cells3 (heap_two W _ _).1
theorem older2 (W : World) (a b : Value) (t : TypeId) (o : Obj) : ((W.alloc (.cells #[a, b] t)).alloc o).cell? ⟨W.heap.size, 0, none⟩ = some a ∧ ((W.alloc (.cells #[a, b] t)).alloc o).cell? ⟨W.heap.size, 1, none⟩ = some b ∧
    ((W.alloc (.cells #[a, b] t)).alloc o).frozen? ⟨W.heap.size, 0, none⟩ = false ∧ ((W.alloc (.cells #[a, b] t)).alloc o).frozen? ⟨W.heap.size, 1, none⟩ = false := cells2 (heap_two W _ _).1
/-- The two answers' blocks are told, all others are as they were. -/
structure MidP (A B : Nat) (w2 W : World) (x y z p q : Value) : Prop where
  a : W.heap[A]? = some (.cells #[x, y, z] 56 (0, 0))
  b : W.heap[B]? = some (.cells #[p, q] 40 (0, 0))
  keep : Keeps A B w2 W
theorem mid1 (w2 : World) (x y z p q : Value) : MidP w2.heap.size (w2.heap.size + 1) w2 ((w2.alloc (.cells #[x, y, z] 56)).alloc (.cells #[p, q] 40)) x y z p q :=
  ⟨(heap_two w2 _ _).1, (heap_two w2 _ _).2, ((Keeps.refl _ _ _).alloc _).alloc _⟩
theorem mid2 (w2 : World) (x y z p q : Value) : MidP (w2.heap.size + 1) w2.heap.size w2 ((w2.alloc (.cells #[p, q] 40)).alloc (.cells #[x, y, z] 56)) x y z p q :=
  ⟨(heap_two w2 _ _).2, (heap_two w2 _ _).1, ((Keeps.refl _ _ _).alloc _).alloc _⟩
theorem setA3 {W : World} {A : Nat} {a b c : Value} (h : W.heap[A]? = some (.cells #[a, b, c] 56 (0, 0))) (x y z : Value) : (((W.setCell ⟨A, 0, none⟩ x).setCell ⟨A, 1, none⟩ y).setCell ⟨A, 2, none⟩ z).heap[A]? = some (.cells #[x, y, z] 56 (0, 0)) :=
  heap_setCell_same _ A 2 _ _ z (heap_setCell_same _ A 1 _ _ y (heap_setCell_same W A 0 _ _ x h))
theorem setB2 {W : World} {B : Nat} {a b : Value} (h : W.heap[B]? = some (.cells #[a, b] 40 (0, 0))) (p q : Value) : ((W.setCell ⟨B, 0, none⟩ p).setCell ⟨B, 1, none⟩ q).heap[B]? = some (.cells #[p, q] 40 (0, 0)) :=
  heap_setCell_same _ B 1 _ _ q (heap_setCell_same W B 0 _ _ p h)
theorem mid3 {w2 : World} {A : Nat} {a b c : Value} (h : w2.heap[A]? = some (.cells #[a, b, c] 56 (0, 0))) (x y z p q : Value) : MidP A w2.heap.size w2 ((((w2.setCell ⟨A, 0, none⟩ x).setCell ⟨A, 1, none⟩ y).setCell ⟨A, 2, none⟩ z).alloc (.cells #[p, q] 40)) x y z p q := by
  have hs : (((w2.setCell ⟨A, 0, none⟩ x).setCell ⟨A, 1, none⟩ y).setCell ⟨A, 2, none⟩ z).heap.size = w2.heap.size := by rw [World.size_setCell, World.size_setCell, World.size_setCell]
  have hA : A < w2.heap.size := (Array.getElem?_eq_some_iff.1 h).1
  refine ⟨(heap_alloc_old _ _ (by rw [hs]; exact hA)).trans (setA3 h x y z), ?_, ((((Keeps.refl _ _ _).setA _ _).setA _ _).setA _ _).alloc _⟩
  have e := heap_alloc_new (((w2.setCell ⟨A, 0, none⟩ x).setCell ⟨A, 1, none⟩ y).setCell ⟨A, 2, none⟩ z) (.cells #[p, q] 40)
  rwa [hs] at e
theorem mid5 {w2 : World} {B : Nat} {a b : Value} (h : w2.heap[B]? = some (.cells #[a, b] 40 (0, 0))) (x y z p q : Value) : MidP w2.heap.size B w2 (((w2.setCell ⟨B, 0, none⟩ p).setCell ⟨B, 1, none⟩ q).alloc (.cells #[x, y, z] 56)) x y z p q := by
  have hs : ((w2.setCell ⟨B, 0, none⟩ p).setCell ⟨B, 1, none⟩ q).heap.size = w2.heap.size := by rw [World.size_setCell, World.size_setCell]
  have hB : B < w2.heap.size := (Array.getElem?_eq_some_iff.1 h).1
  refine ⟨?_, (heap_alloc_old _ _ (by rw [hs]; exact hB)).trans (setB2 h p q), (((Keeps.refl _ _ _).setB _ _).setB _ _).alloc _⟩
  have e := heap_alloc_new ((w2.setCell ⟨B, 0, none⟩ p).setCell ⟨B, 1, none⟩ q) (.cells #[x, y, z] 56)
  rwa [hs] at e
theorem mid4 {w2 : World} {A B : Nat} {a b c d e : Value} (h : w2.heap[A]? = some (.cells #[a, b, c] 56 (0, 0))) (h2 : w2.heap[B]? = some (.cells #[d, e] 40 (0, 0))) (hne : A ≠ B) (x y z p q : Value) :
    MidP A B w2 (((((w2.setCell ⟨A, 0, none⟩ x).setCell ⟨A, 1, none⟩ y).setCell ⟨A, 2, none⟩ z).setCell ⟨B, 0, none⟩ p).setCell ⟨B, 1, none⟩ q) x y z p q := by
  have k1 : ∀ (W : World) (j : Nat) (v : Value), (W.setCell ⟨A, j, none⟩ v).heap[B]? = W.heap[B]? := fun W j v => heap_setCell_other _ ⟨A, j, none⟩ B _ (Ne.symm hne)
  have k2 : ∀ (W : World) (j : Nat) (v : Value), (W.setCell ⟨B, j, none⟩ v).heap[A]? = W.heap[A]? := fun W j v => heap_setCell_other _ ⟨B, j, none⟩ A _ hne
  refine ⟨by rw [k2, k2]; exact setA3 h x y z, setB2 (a := d) (b := e) (by rw [k1, k1, k1]; exact h2) p q, (((((Keeps.refl _ _ _).setA _ _).setA _ _).setA _ _).setB _ _).setB _ _⟩
/-- Behind the call. -/
structure FinP (wr : World) (g A B : Nat) (v : Value) (L : List Nat) (fa : Option Addr) (fc : Nat) (fb : Option Addr) (n fd : Nat) (lv : Int) (hit : Bool) (oa : Option Addr) (l : List Nat) (oc : Nat) (R : Nat → Int) (W : World) : Prop where
  a : W.heap[A]? = some (.cells #[.slice fa L.length fc, .slice fb n fd, .int .u64 lv] 56 (0, 0))
  b : W.heap[B]? = some (.cells #[.bool hit, .slice oa l.length oc] 40 (0, 0))
  f1 : FarK .i64 g v W fa L.length (nthI L)
  f2 : FarK .u64 g v W fb n R
  f3 : FarK .i64 g v W oa l.length (fun k => (l.getD k 0 : Nat))
  on : Below wr.heap.size wr W
  ne : wr.heap.size ≤ A ∧ wr.heap.size ≤ B
theorem fin_of {wr w2 W : World} {g A B hc : Nat} {v : Value} {L : List Nat} {fa : Option Addr} {fc : Nat} {fb : Option Addr} {n fd : Nat} {lv : Int} {hit : Bool} {oa : Option Addr} {l : List Nat} {oc : Nat} {R : Nat → Int}
    (hm : MidP A B w2 W (.slice fa L.length fc) (.slice fb n fd) (.int .u64 lv) (.bool hit) (.slice oa l.length oc))
    (f1 : FarK .i64 g v w2 fa L.length (nthI L)) (n1 : ∀ b o, fa = some ⟨b, o, none⟩ → 0 < L.length → (b < wr.heap.size ∧ b ≠ g ∧ v.ownBlock ≠ some b) ∨ hc ≤ b)
    (f2 : FarK .u64 g v w2 fb n R) (n2 : ∀ b o, fb = some ⟨b, o, none⟩ → 0 < n → (b < wr.heap.size ∧ b ≠ g ∧ v.ownBlock ≠ some b) ∨ hc ≤ b)
    (f3 : FarK .i64 g v w2 oa l.length (fun k => (l.getD k 0 : Nat))) (n3 : ∀ b o, oa = some ⟨b, o, none⟩ → 0 < l.length → (b < wr.heap.size ∧ b ≠ g ∧ v.ownBlock ≠ some b) ∨ hc ≤ b)
    (hA : wr.heap.size ≤ A ∧ (A < hc ∨ w2.heap.size ≤ A)) (hB : wr.heap.size ≤ B ∧ (B < hc ∨ w2.heap.size ≤ B)) (on : Below wr.heap.size wr W) : FinP wr g A B v L fa fc fb n fd lv hit oa l oc R W :=
  ⟨hm.a, hm.b, f1.two hm.keep n1 hA hB, f2.two hm.keep n2 hA hB, f3.two hm.keep n3 hA hB, on, hA.1, hB.1⟩
theorem run_forget {K : Act → World → Prop} {Q : Exit → Act → World → Prop} {a : Act} {W : World} {F : World → Prop} (h : F W) (k : ∀ W, F W → Exit.then K Q Exit.normal a W) : Exit.then K Q Exit.normal a W := k W h
theorem run_next {w wr W w5 : World} {g A' B' n fc fd oc j : Nat} {Z C : Nat → Int} {most : Int} {A : Nat → Nat} {v v5 x0 x1 x2 : Value} {L : List Nat} {fa fb oa : Option Addr} {r : Gd × Bool × List Nat} {xs : List Value}
    (hr : r.1 = stG Z C n most A (j + 1) ∧ r.2.1 = hitG Z C n most A j ∧ r.2.2 = goG Z C n most A j) (hF : FinP wr g A' B' v L fa fc fb n fd r.1.lv r.2.1 oa r.2.2 oc r.1.rk W) (hk : KeptR Z n most L r.1)
    (ht : TolAt wr g v j (hitG Z C n most A) (goG Z C n most A)) (hx : (((W.setCell ⟨g, 0, none⟩ (.slice fa L.length fc)).setCell ⟨g, 1, none⟩ (.slice fb n fd)).setCell ⟨g, 2, none⟩ (.int .u64 r.1.lv)).ownsRow (g + 1) 40 2 v j xs ∧
      ∀ q, q < j → xs[q * 2]? = some (.bool (hitG Z C n most A q)) ∧ ∃ a cap, xs[q * 2 + 1]? = some (.slice a (goG Z C n most A q).length cap) ∧ FarK .i64 g v (((W.setCell ⟨g, 0, none⟩ (.slice fa L.length fc)).setCell ⟨g, 1, none⟩ (.slice fb n fd)).setCell ⟨g, 2, none⟩ (.int .u64 r.1.lv)) a (goG Z C n most A q).length (fun k => ((goG Z C n most A q).getD k 0 : Nat)))
    (g5 : GrewR 40 2 (g + 1) (((W.setCell ⟨g, 0, none⟩ (.slice fa L.length fc)).setCell ⟨g, 1, none⟩ (.slice fb n fd)).setCell ⟨g, 2, none⟩ (.int .u64 r.1.lv)) w5 v v5 (j + 1) (xs ++ [.bool r.2.1, .slice oa r.2.2.length oc]))
    (hbx : wr.heap[g]? = some (.cells #[x0, x1, x2] 56 (0, 0))) (hon : Below w.heap.size w wr) (hge : w.heap.size ≤ g) : RunW w w5 g Z C n most A (j + 1) v5 L fa fc fb fd := by
  obtain ⟨e1, e2, e3⟩ := hr
  have hgw : g < wr.heap.size := (Array.getElem?_eq_some_iff.1 hbx).1
  have hWg := setA3 ((hF.on.block g hgw).trans hbx) (.slice fa L.length fc) (.slice fb n fd) (.int .u64 r.1.lv)
  have hne : some g ≠ v.ownBlock := fun h => by have := (hx.1.lt g h.symm).1; omega
  have hsz := (Array.getElem?_eq_some_iff.1 hWg).1
  have b1 : Below w.heap.size w (((W.setCell ⟨g, 0, none⟩ (.slice fa L.length fc)).setCell ⟨g, 1, none⟩ (.slice fb n fd)).setCell ⟨g, 2, none⟩ (.int .u64 r.1.lv)) := (((hon.trans (hF.on.mono hon.size)).setCell hge _).setCell hge _).setCell hge _
  have b2 : Below w.heap.size w w5 := b1.grown g5.grown b1.size (fun k hk => by have := (hx.1.lt k hk).1; omega)
  have f1 := (((hF.f1.set 0 (.slice fa L.length fc)).set 1 (.slice fb n fd)).set 2 (.int .u64 r.1.lv)).grown g5
  have f2 := (((hF.f2.set 0 (.slice fa L.length fc)).set 1 (.slice fb n fd)).set 2 (.int .u64 r.1.lv)).grown g5
  have f3 := (((hF.f3.set 0 (.slice fa L.length fc)).set 1 (.slice fb n fd)).set 2 (.int .u64 r.1.lv))
  rw [e2, e3] at g5
  rw [e3] at f3
  refine ⟨?_, by rw [← e1]; exact hk, f1, by rw [← e1]; exact f2, TolAt.grown hx.2 hx.1.1 f3 g5, b2, hge⟩
  rw [← e1]
  exact (g5.grown.block g hsz hne).trans hWg
theorem ref18_Run {most : Int} {sa ca aa : Option Addr} {n nc m cs cc ac : Nat} {Z C A : Nat → Int} (hZ : InK .i64 Z) (hC : InK .i64 C) (hA : InK .i64 A) (hmm : m ≤ 100000)
    (w : World) (iZ : IsK .i64 w sa n Z) (iC : IsK .i64 w ca nc C) (iA : IsK .i64 w aa m A) :
    Calls Try.prog 11 #[.int .i64 most, .slice sa n cs, .slice ca nc cc, .slice aa m ac] w (RunEnd w most Z C n nc m A) := by
  by_cases hh : 1 ≤ most ∧ most ≤ 65536 ∧ n ≤ 64 ∧ nc = n
  · obtain ⟨hm0, hm1, hn, rfl⟩ := hh
    have IZ := Lib.hid iZ
    have IC := Lib.hid iC
    have IA := Lib.hid iA
    have HZ := Lib.hid hZ
    have HC := Lib.hid hC
    have HA := Lib.hid hA
    have d1 : decide (most < 1) = false := decide_eq_false (by omega)
    have d2 : decide (65536 < most) = false := decide_eq_false (by omega)
    have d3 : decide (64 < (nc : Int)) = false := decide_eq_false (by omega)
    clear iZ iC iA hZ hC hA
    go_enter Try.func11, Try.ntmps11
    go_wp2_with fail
    go_loopw [10] (fun iv W => ∃ i : Nat, i ≤ nc ∧ iv = .int .i64 i ∧ Hid (∀ j, j < i → oneOk Z C j) ∧ w = W) (fun iv _ => nc - (intOf iv).toNat)
    case atStart => exact ⟨0, Nat.zero_le _, rfl, Lib.hid (fun j hj => absurd hj (Nat.not_lt_zero j)), rfl⟩
    case round =>
      obtain ⟨i, hi, rfl, hall, rfl⟩ := hrel
      by_cases hlt : i < nc
      · obtain ⟨b1, o1, e1, l1, q1⟩ := IZ.out.row hlt
        obtain ⟨b2, o2, e2, l2, q2⟩ := IC.out.row hlt
        subst e1 e2
        by_cases hok : oneOk Z C i
        · have hall' := Lib.hid (fun j (hj : j < i + 1) => show oneOk Z C j from by
            rcases Nat.lt_succ_iff_lt_or_eq.1 hj with h | rfl
            · exact hall.out j h
            · exact hok)
          obtain ⟨z1, z2, z3, z4⟩ := hok
          clear hall
          generalize hz : Z i = z at *
          generalize hc : C i = c at *
          clear hz hc
          have t1 : decide (z < 1) = false := decide_eq_false (by omega)
          have t2 : decide (4096 < z) = false := decide_eq_false (by omega)
          have t3 : decide (c < 0) = false := decide_eq_false (by omega)
          have t4 : decide (1048576 < c) = false := decide_eq_false (by omega)
          go_wp2_with fail
          exact ⟨⟨i + 1, by omega, by go_num, hall', trivial⟩, by simp [intOf]; omega⟩
        · have HE := Lib.hid (runE_220 (m := m) (A := A) (show ¬ cfgP most Z C nc nc from fun hh => hok (hh.2.2.2.2 i hlt)))
          clear hall
          unfold oneOk at hok
          generalize hz : Z i = z at *
          generalize hc : C i = c at *
          clear hz hc
          by_cases h1 : z < 1
          · have t1 : decide (z < 1) = true := decide_eq_true h1
            clear hok
            go_wp2_with fail
            go_ret2
            exact runEnd_err HE.out (by decide) (Below.refl _ _)
          · have t1 : decide (z < 1) = false := decide_eq_false h1
            by_cases h2 : 4096 < z
            · have t2 : decide (4096 < z) = true := decide_eq_true h2
              clear hok
              go_wp2_with fail
              go_ret2
              exact runEnd_err HE.out (by decide) (Below.refl _ _)
            · have t2 : decide (4096 < z) = false := decide_eq_false h2
              by_cases h3 : c < 0
              · have t3 : decide (c < 0) = true := decide_eq_true h3
                clear hok
                go_wp2_with fail
                go_ret2
                exact runEnd_err HE.out (by decide) (Below.refl _ _)
              · have t3 : decide (c < 0) = false := decide_eq_false h3
                have t4 : decide (1048576 < c) = true := decide_eq_true (by omega)
                clear hok
                go_wp2_with fail
                go_ret2
                exact runEnd_err HE.out (by decide) (Below.refl _ _)
      · obtain rfl : i = nc := by omega
        have HCFG := Lib.hid (show cfgP most Z C i i from ⟨hm0, hm1, hn, rfl, fun j hj => hall.out j hj⟩)
        clear hall
        go_wp2_with fail
        go_loopw [11] (fun iv W => ∃ k : Nat, k ≤ m ∧ iv = .int .i64 k ∧ Hid (∀ j, j < k → 0 ≤ A j ∧ A j < i) ∧ w = W) (fun iv _ => m - (intOf iv).toNat)
        case atStart => exact ⟨0, Nat.zero_le _, rfl, Lib.hid (fun j hj => absurd hj (Nat.not_lt_zero j)), rfl⟩
        case round =>
          obtain ⟨k, hk, rfl, hall, rfl⟩ := hrel
          by_cases hlk : k < m
          · obtain ⟨b1, o1, e1, l1, q1⟩ := IA.out.row hlk
            subst e1
            by_cases hok : 0 ≤ A k ∧ A k < i
            · have hall' := Lib.hid (fun j (hj : j < k + 1) => show 0 ≤ A j ∧ A j < i from by
                rcases Nat.lt_succ_iff_lt_or_eq.1 hj with h | rfl
                · exact hall.out j h
                · exact hok)
              obtain ⟨z1, z2⟩ := hok
              clear hall
              generalize hz : A k = z at *
              clear hz
              have t1 : decide (z < 0) = false := decide_eq_false (by omega)
              have t2 : decide ((i : Int) ≤ z) = false := decide_eq_false (by omega)
              go_wp2_with fail
              exact ⟨⟨k + 1, by omega, by go_num, hall', trivial⟩, by simp [intOf]; omega⟩
            · have HE := Lib.hid (runE_221 HCFG.out (show ¬ callsP i m A from fun hh => hok (hh k hlk)))
              clear hall
              generalize hz : A k = z at *
              clear hz
              by_cases h1 : z < 0
              · have t1 : decide (z < 0) = true := decide_eq_true h1
                clear hok
                go_wp2_with fail
                go_ret2
                exact runEnd_err HE.out (by decide) (Below.refl _ _)
              · have t1 : decide (z < 0) = false := decide_eq_false h1
                have t2 : decide ((i : Int) ≤ z) = true := decide_eq_true (by omega)
                clear hok
                go_wp2_with fail
                go_ret2
                exact runEnd_err HE.out (by decide) (Below.refl _ _)
          · obtain rfl : k = m := by omega
            have HCA := Lib.hid (show callsP i k A from fun j hj => hall.out j hj)
            clear hall
            obtain ⟨ti, ti1, ti2, ti3, ti4⟩ := info_parts u64_info
            go_wp2_with (refine wpList_make_full _ rfl _ _ _ rfl 0 23 ti _ 1 (by kernel_rfl) ti1 ti2 ti3 .i64 .i64 _ _ i rfl rfl rfl rfl (by rw [ti4]; omega) (by unfold maxLen; omega) (Nat.zero_le _) ?_; intro w1 ho' hg'; have HT := Lib.hid (rk_made ho' hn); have hsz := own_in ho'; have HB := Lib.hid (show Below w.heap.size w w1 from ⟨hg'.os, hg'.tape, hg'.output, hg'.size, fun k hk => hg'.block k hk (by simp)⟩); clear ho' hg')
            have hg0 := HB.out.size
            have HW0 := Lib.hid (show RunW w (w1.alloc (.cells #[.slice none 0 0, .slice (some ⟨w.heap.size, 0, none⟩) i i, .int .u64 0] 56)) w1.heap.size Z C i most (natA A) 0 (.slice none 0 0) [] none 0 (some ⟨w.heap.size, 0, none⟩) i from by
              have hb : Below w1.heap.size w1 (w1.alloc (.cells #[.slice none 0 0, .slice (some ⟨w.heap.size, 0, none⟩) i i, .int .u64 0] 56)) := (Below.refl _ _).alloc (Nat.le_refl _) _
              refine ⟨heap_alloc_new w1 _, KeptR.zero Z i hm0, Or.inl rfl, ?_, TolAt.nil _ _ _ _, HB.out.trans (hb.mono hg0), hg0⟩
              refine farK_of (h0 := w1.heap.size) (hc := w1.heap.size + 1) (HT.out.below hb) (fun b o e _ => Or.inl ?_) (by omega) (fun j hj => by simp [Value.ownBlock] at hj)
              cases e
              exact ⟨hsz, by omega, by simp [Value.ownBlock]⟩)
            generalize w1.heap.size = g at *
            clear HT hsz HB hg0
            go_loopw [13, 14, 15, 16] (fun sv jv pv qv W => ∃ (j : Nat) (L : List Nat) (a : Option Addr) (c : Nat) (b : Option Addr) (d : Nat), j ≤ k ∧ jv = .int .i64 j ∧ RunW w W g Z C i most (natA A) j sv L a c b d) (fun _ jv _ _ _ => k - (intOf jv).toNat)
            case atStart => exact ⟨0, [], none, 0, _, i, Nat.zero_le _, rfl, HW0.out⟩
            case round =>
              clear HW0
              obtain ⟨j, L1, a1, c1, b1, d1, hj, rfl, hW⟩ := hrel
              have HW := Lib.hid hW
              clear hW
              by_cases hlj : j < k
              · have hcf := HCFG.out
                have hca := HCA.out j hlj
                have haj : A j = ((natA A j : Nat) : Int) := by unfold natA; omega
                have hai : natA A j < i := by unfold natA; omega
                obtain ⟨ab, ao, rfl, _, ha⟩ := (IA.out.below HW.out.on).row hlj
                rw [haj] at ha
                obtain ⟨q0, q1, q2, qf0, qf1, qf2⟩ := cells3 HW.out.bx
                have ks := fun (W : World) (hb : Below wr.heap.size wr W) => ref18_serve (ia := a1) (ra := b1) (sa := sa) (ca := ca) (ic := c1) (rc := d1) (cs := cs) (cc := cc) (L := L1) rfl hai hn HZ.out HC.out (fun q hq => ⟨(hcf.2.2.2.2 q hq).1, (hcf.2.2.2.2 q hq).2.1⟩) hm1 HW.out.kept W (IsL.below HW.out.ls.isK hb) (HW.out.rs.isK.below hb) ((IZ.out.below HW.out.on).below hb) ((IC.out.below HW.out.on).below hb)
                have hr : (serveG Z C i most (stG Z C i most (natA A) j) (natA A j)).1 = stG Z C i most (natA A) (j + 1) ∧ (serveG Z C i most (stG Z C i most (natA A) j) (natA A j)).2.1 = hitG Z C i most (natA A) j ∧ (serveG Z C i most (stG Z C i most (natA A) j) (natA A j)).2.2 = goG Z C i most (natA A) j := ⟨rfl, rfl, rfl⟩
                have HR := Lib.hid hr
                have HLO := Lib.hid HW.out.ls.old
                have HRO := Lib.hid HW.out.rs.old
                have HTO := Lib.hid HW.out.tol
                have HON := Lib.hid HW.out.on
                have HGE := Lib.hid HW.out.ge
                have HBX := Lib.hid HW.out.bx
                have hgl : g < wr.heap.size := (Array.getElem?_eq_some_iff.1 HW.out.bx).1
                have HVO := Lib.hid (show ∀ q, u13.ownBlock = some q → g + 1 ≤ q ∧ q < wr.heap.size from by obtain ⟨xs, h1, _⟩ := HW.out.tol; exact h1.lt)
                have C0 := Lib.hid q0
                have C1 := Lib.hid q1
                have C2 := Lib.hid q2
                have C3 := Lib.hid ha
                have KS := Lib.hid ks
                have hdr : wr.drew.heap.size = wr.heap.size := rfl
                have hS0 := run_S C0.out C1.out C2.out C3.out (W := wr.drew) (Below.refl _ _).drew
                clear hr ks hcf hca haj ha q0 q1 q2 HW
                generalize serveG Z C i most (stG Z C i most (natA A) j) (natA A j) = r at *
                generalize (stG Z C i most (natA A) j).lv = lv at *
                generalize natA A j = aj at *
                have o0 := fun (W : World) a b c t o => (older3 W a b c t o).1
                have o1 := fun (W : World) a b c t o => (older3 W a b c t o).2.1
                have o2 := fun (W : World) a b c t o => (older3 W a b c t o).2.2.1
                have o3 := fun (W : World) a b c t o => (older3 W a b c t o).2.2.2.1
                have o4 := fun (W : World) a b c t o => (older3 W a b c t o).2.2.2.2.1
                have o5 := fun (W : World) a b c t o => (older3 W a b c t o).2.2.2.2.2
                have o6 := fun (W : World) a b t o => (older2 W a b t o).1
                have o7 := fun (W : World) a b t o => (older2 W a b t o).2.1
                have o8 := fun (W : World) a b t o => (older2 W a b t o).2.2.1
                have o9 := fun (W : World) a b t o => (older2 W a b t o).2.2.2
                go_wp2_with fail
                go_region_held3 (fun W => W.cell? ⟨g, 0, none⟩ = some (.slice a1 L1.length c1) ∧ W.cell? ⟨g, 1, none⟩ = some (.slice b1 i d1) ∧ W.cell? ⟨g, 2, none⟩ = some (.int .u64 lv) ∧ W.cell? ⟨ab, ao + j, none⟩ = some (.int .i64 aj) ∧ Hid (Below wr.heap.size wr W))
                  (first | (with_reducible assumption) | exact run_S C0.out C1.out C2.out C3.out (by repeat' (first | (with_reducible exact Below.refl _ _) | (with_reducible assumption) | (with_reducible refine Below.alloc ?_ ?_ _) | (with_reducible refine below_drewN ?_ _) | (with_reducible refine Below.drew ?_) | (with_reducible refine Below.setCell ?_ ?_ _) | go_size | omega | (simp; omega))))
                  (first
                    | (go_at_call 23; have hbc := run_H (by assumption); refine (KS.out _ hbc).mono ?_; intro e w2 h; obtain ⟨L2, fa, fc, fb, fd, ov, rfl, hK2, hL2, hR2, ⟨oa, oc, rfl, ho1, ho2⟩, hb2, hna, hnb⟩ := h;
                       have hBw := hbc.trans (hb2.mono hbc.size);
                       have hcs := hbc.size; have hc2 := hb2.size;
                       have HN1 := Lib.hid (run_na HLO.out hna); have HN2 := Lib.hid (run_nb HRO.out hnb);
                       have HF1 := Lib.hid (farK_of (show IsK .i64 w2 fa L2.length (nthI L2) from hL2) HN1.out (Nat.lt_of_lt_of_le hgl hcs) (fun q hq => Nat.lt_of_lt_of_le (HVO.out q hq).2 hcs));
                       have HF2 := Lib.hid (farK_of hR2 HN2.out (Nat.lt_of_lt_of_le hgl hcs) (fun q hq => Nat.lt_of_lt_of_le (HVO.out q hq).2 hcs));
                       have HN3 := Lib.hid (show ∀ b o, oa = some ⟨b, o, none⟩ → 0 < r.2.2.length → (b < wr.heap.size ∧ b ≠ g ∧ u13.ownBlock ≠ some b) ∨ _ ≤ b from fun b o e _ => Or.inr (ho2 b o e));
                       have HF3 := Lib.hid (farK_of ho1 HN3.out (Nat.lt_of_lt_of_le hgl hcs) (fun q hq => Nat.lt_of_lt_of_le (HVO.out q hq).2 hcs));
                       have HK2 := Lib.hid hK2; have HBW := Lib.hid hBw;
                       have hS' := run_S C0.out C1.out C2.out C3.out hBw;
                       (first
                         | (have h := kept_two hb2; have HA2 := Lib.hid h.1; have HB2 := Lib.hid h.2; obtain ⟨yA0, yA1, yA2, yA3, yA4, yA5⟩ := cells3 h.1; obtain ⟨yB0, yB1, yB2, yB3⟩ := cells2 h.2; have hlA := (Array.getElem?_eq_some_iff.1 h.1).1; have hlB := (Array.getElem?_eq_some_iff.1 h.2).1; clear h)
                         | (have h := kept_two hb2; have HA2 := Lib.hid h.2; have HB2 := Lib.hid h.1; obtain ⟨yA0, yA1, yA2, yA3, yA4, yA5⟩ := cells3 h.2; obtain ⟨yB0, yB1, yB2, yB3⟩ := cells2 h.1; have hlA := (Array.getElem?_eq_some_iff.1 h.1).1; have hlB := (Array.getElem?_eq_some_iff.1 h.2).1; clear h)
                         | (have h := kept_one hb2; have HA2 := Lib.hid h; obtain ⟨yA0, yA1, yA2, yA3, yA4, yA5⟩ := cells3 h; have hlA := (Array.getElem?_eq_some_iff.1 h).1; clear h)
                         | (have h := kept_one hb2; have HB2 := Lib.hid h; obtain ⟨yB0, yB1, yB2, yB3⟩ := cells2 h; have hlB := (Array.getElem?_eq_some_iff.1 h).1; clear h)
                         | skip);
                       clear hK2 hL2 hR2 ho1 ho2 hb2 hna hnb hbc))
                refine run_forget (fin_of (mid1 w2 _ _ _ _ _) HF1.out HN1.out HF2.out HN2.out HF3.out HN3.out (by first | omega | (simp; done) | (simp; omega)) (by first | omega | (simp; done) | (simp; omega)) (run_H (by with_reducible assumption))) ?_
                rotate_left
                refine run_forget (fin_of (mid2 w2 _ _ _ _ _) HF1.out HN1.out HF2.out HN2.out HF3.out HN3.out (by first | omega | (simp; done) | (simp; omega)) (by first | omega | (simp; done) | (simp; omega)) (run_H (by with_reducible assumption))) ?_
                rotate_left
                refine run_forget (fin_of (mid3 HA2.out _ _ _ _ _) HF1.out HN1.out HF2.out HN2.out HF3.out HN3.out (by first | omega | (simp; done) | (simp; omega)) (by first | omega | (simp; done) | (simp; omega)) (run_H (by with_reducible assumption))) ?_
                rotate_left
                refine run_forget (fin_of (mid4 HA2.out HB2.out (by omega) _ _ _ _ _) HF1.out HN1.out HF2.out HN2.out HF3.out HN3.out (by first | omega | (simp; done) | (simp; omega)) (by first | omega | (simp; done) | (simp; omega)) (run_H (by with_reducible assumption))) ?_
                rotate_left
                refine run_forget (fin_of (mid5 HB2.out _ _ _ _ _) HF1.out HN1.out HF2.out HN2.out HF3.out HN3.out (by first | omega | (simp; done) | (simp; omega)) (by first | omega | (simp; done) | (simp; omega)) (run_H (by with_reducible assumption))) ?_
                rotate_left
                refine run_forget (fin_of (mid4 HA2.out HB2.out (by omega) _ _ _ _ _) HF1.out HN1.out HF2.out HN2.out HF3.out HN3.out (by first | omega | (simp; done) | (simp; omega)) (by first | omega | (simp; done) | (simp; omega)) (run_H (by with_reducible assumption))) ?_
                rotate_left
                all_goals
                  clear hS0 hS' HF1 HF2 HF3 HN1 HN2 HN3 HBW hBw hcs hc2
                  intro W hF
                  obtain ⟨x0, x1, x2, _⟩ := cells3 hF.a
                  obtain ⟨x3, x4, _⟩ := cells2 hF.b
                  have z0 := keepB hF.on C0.out
                  have z1 := keepB hF.on C1.out
                  have z2 := keepB hF.on C2.out
                  have zf0 := keepBf hF.on C0.out qf0
                  have zf1 := keepBf hF.on C1.out qf1
                  have zf2 := keepBf hF.on C2.out qf2
                  obtain ⟨xs, hx1, hx2⟩ := (((HTO.out.below hF.on).set 0 (.slice fa L2.length fc)).set 1 (.slice fb i fd)).set 2 (.int .u64 r.1.lv)
                  have HX1 := Lib.hid hx1
                  have HX2 := Lib.hid hx2
                  have HF := Lib.hid hF
                  have hgW : g + 1 ≤ W.heap.size := by have := hF.on.size; omega
                  obtain ⟨si, si1, si2, si3, si4⟩ := info_parts serve_info
                  obtain ⟨hA0, hB0⟩ := hF.ne
                  have nA : ¬ _ = g := (Nat.ne_of_lt (Nat.lt_of_lt_of_le hgl hA0)).symm
                  have nB : ¬ _ = g := (Nat.ne_of_lt (Nat.lt_of_lt_of_le hgl hB0)).symm
                  have mA : ¬ g = _ := (Nat.ne_of_lt (Nat.lt_of_lt_of_le hgl hA0))
                  have mB : ¬ g = _ := (Nat.ne_of_lt (Nat.lt_of_lt_of_le hgl hB0))
                  clear hF hx1 hx2 C0 C1 C2 qf0 qf1 qf2 hA0 hB0
                  go_wp2_with (at_builtin; (refine wpList_append_serve _ rfl _ _ _ rfl (g + 1) 40 si _ 32 (by kernel_rfl) si1 si2 si3 si4 rfl u13 j xs r.2.1 oa r.2.2.length oc rfl W.heap.size (by rw [World.size_setCell, World.size_setCell, World.size_setCell]) rfl HX1.out (by omega) (by decide) (by rw [World.size_setCell, World.size_setCell, World.size_setCell]; exact hgW) ?_); intro v5 w5 g5)
                  have HFin := Lib.hid (run_next HR.out HF.out HK2.out HTO.out ⟨HX1.out, HX2.out⟩ g5 HBX.out HON.out HGE.out)
                  clear g5
                  go_wp2_with fail
                  exact ⟨⟨j + 1, L2, fa, fc, fb, fd, by omega, by go_num, HFin.out⟩, by simp [intOf]; omega⟩
              · obtain rfl : j = k := by omega
                obtain ⟨ra, rcap, rfl, hrc, hS⟩ := HW.out.tol.isS (by omega)
                have HS := Lib.hid hS
                clear hS
                have HE := Lib.hid (runE_ok HCFG.out HCA.out)
                go_wp2_with fail
                go_ret2
                refine ⟨ra, j, rcap, by rw [HE.out]; rfl, hrc, by rw [if_pos HE.out], HS.out, HW.out.on⟩
  · exact ref18_Run_head hh w
end Go.Proofs.Ytlhjacgocggbcaa
