/- The walk of the reference's rank. -/
import Derived.Test.YtlhjacgocggbcaaGdsRB
import Derived.Test.YtlhjacgocggbcaaGdsRI
import Derived.Deep.RegionHeld3
import Derived.Deep.AppendLies
set_option linter.unusedVariables false
set_option maxRecDepth 100000
set_option maxHeartbeats 2000000
namespace Go.Proofs.Ytlhjacgocggbcaa
open Go.RowKit Go.Shelf
attribute [local go_sem ↓] lt_alloc

/-- A row of ranks of the call's own. -/
def RkAt (W : World) (base g n : Nat) (R : Nat → Int) : Prop := base ≤ g ∧ ∃ cur : Array Value, W.heap[g]? = some (.cells cur 23 (0, 0)) ∧ n ≤ cur.size ∧ ∀ j, j < n → cur[j]? = some (.int .u64 (R j))
theorem RkAt.below {w w' : World} {base g n : Nat} {R : Nat → Int} (h : RkAt w base g n R) (hb : Below w.heap.size w w') : RkAt w' base g n R := by
  obtain ⟨h0, cur, h1, h2, h3⟩ := h
  exact ⟨h0, cur, (hb.block g (Array.getElem?_eq_some_iff.1 h1).1).trans h1, h2, h3⟩
theorem RkAt.cell {w : World} {base g n : Nat} {R : Nat → Int} (h : RkAt w base g n R) {j : Nat} (hj : j < n) : w.cell? ⟨g, j, none⟩ = some (.int .u64 (R j)) := by
  obtain ⟨h0, cur, h1, h2, h3⟩ := h
  exact (cell_of_row w g j _ _ _ h1).trans (h3 j hj)
theorem RkAt.soft {w : World} {base g n : Nat} {R : Nat → Int} (h : RkAt w base g n R) {j : Nat} : w.frozen? ⟨g, j, none⟩ = false := by
  obtain ⟨h0, cur, h1, h2, h3⟩ := h
  exact frozen_of_row w g j _ _ h1
theorem RkAt.put {w : World} {base g n i : Nat} {R : Nat → Int} {v : Int} (h : RkAt w base g n R) (hi : i < n) : RkAt (w.setCell ⟨g, i, none⟩ (.int .u64 v)) base g n (setI R i v) := by
  obtain ⟨h0, cur, h1, h2, h3⟩ := h
  refine ⟨h0, _, heap_setCell_same w g i _ _ _ h1, by simp [h2], fun j hj => ?_⟩
  rw [Array.getElem?_setIfInBounds]
  unfold setI
  by_cases e : i = j
  · subst e; rw [if_pos rfl, if_pos (by omega), if_pos rfl]
  · rw [if_neg e, if_neg (fun h => e h.symm)]; exact h3 j hj
theorem RkAt.isK {w : World} {base g n : Nat} {R : Nat → Int} (h : RkAt w base g n R) (hn : n ≤ 9223372036854775807) : IsK .u64 w (some ⟨g, 0, none⟩) n R :=
  Or.inr ⟨g, 0, rfl, hn, fun j hj => by rw [Nat.zero_add]; exact h.cell hj⟩
theorem rkAt_own {w : World} {base n : Nat} {v : Value} {R : Nat → Int} (h : w.ownsRow base 23 1 v n (listK .u64 R n)) (hn : 0 < n) : ∃ g c, v = .slice (some ⟨g, 0, none⟩) n c ∧ RkAt w base g n R := by
  rcases h.2 with ⟨rfl, h0⟩ | ⟨g, cap, cur, rfl, h1, h2, h3, h4, h5, h6⟩
  · omega
  · refine ⟨g, cap, rfl, h1, cur, h2, by omega, fun j hj => ?_⟩
    have e : (cur.toList.take (n * 1))[j]? = some (.int .u64 (R j)) := by rw [h6]; exact listK_get hj
    rw [List.getElem?_take_of_lt (by omega)] at e
    simpa using e
theorem made0 {base : Nat} {w' : World} (e : TypeId) (h : base ≤ w'.heap.size) : (w'.alloc (.cells #[] e)).ownsRow base e 1 (.slice (some ⟨w'.heap.size, 0, none⟩) 0 0) 0 (listK .u64 (fun _ => 0) 0) :=
  World.ownsRow_made w' #[] 0 h (by decide) rfl
/-- rank's blocks: the cache as it came, the answer, the new ranks. -/
structure RkW (w W : World) (cv av : Array Value) (g n : Nat) (R : Nat → Int) : Prop where
  c : W.heap[w.heap.size]? = some (.cells cv 56 (0, 0))
  d : W.heap[w.heap.size + 1]? = some (.cells av 56 (0, 0))
  r : RkAt W (w.heap.size + 1 + 1) g n R
  on : Below w.heap.size w W
theorem RkW.below {w W W' : World} {cv av : Array Value} {g n : Nat} {R : Nat → Int} (h : RkW w W cv av g n R) (hb : Below W.heap.size W W') : RkW w W' cv av g n R :=
  ⟨(hb.block _ (Array.getElem?_eq_some_iff.1 h.c).1).trans h.c, (hb.block _ (Array.getElem?_eq_some_iff.1 h.d).1).trans h.d, h.r.below hb, h.on.trans (hb.mono h.on.size)⟩
theorem RkW.put {w W : World} {cv av : Array Value} {g n i : Nat} {R : Nat → Int} {v : Int} (h : RkW w W cv av g n R) (hi : i < n) : RkW w (W.setCell ⟨g, i, none⟩ (.int .u64 v)) cv av g n (setI R i v) := by
  have hg := h.r.1
  refine ⟨?_, ?_, h.r.put hi, h.on.setCell (by show w.heap.size ≤ g; omega) _⟩
  · rw [heap_setCell_other _ ⟨g, i, none⟩ w.heap.size _ (by show w.heap.size ≠ g; omega)]; exact h.c
  · rw [heap_setCell_other _ ⟨g, i, none⟩ (w.heap.size + 1) _ (by show w.heap.size + 1 ≠ g; omega)]; exact h.d
theorem RkW.grown {w W W' : World} {cv av : Array Value} {g n : Nat} {R : Nat → Int} {row : Option Nat} {B : Nat} (h : RkW w W cv av g n R) (hg : W.grownBy W' row) (hr : ∀ k, row = some k → B ≤ k) (hB : g < B) (hB2 : B ≤ W.heap.size) : RkW w W' cv av g n R := by
  have h1 := h.r.1
  have ne : ∀ k, k < B → some k ≠ row := fun k hk he => by have := hr k he.symm; omega
  obtain ⟨h0, cur, h2, h3, h4⟩ := h.r
  exact ⟨(hg.block _ (by omega) (ne _ (by omega))).trans h.c, (hg.block _ (by omega) (ne _ (by omega))).trans h.d, ⟨h0, cur, (hg.block _ (by omega) (ne _ hB)).trans h2, h3, h4⟩, h.on.grown hg h.on.size (fun k hk => by have := hr k hk; omega)⟩
theorem own_ge {W : World} {base size n : Nat} {e : TypeId} {v : Value} {xs : List Value} (h : W.ownsRow base e size v n xs) : ∀ k, v.ownBlock = some k → base ≤ k := by
  intro k hk
  rcases h.2 with ⟨rfl, _⟩ | ⟨g, cap, cur, rfl, h1, _⟩
  · simp [Value.ownBlock] at hk
  · simp [Value.ownBlock] at hk; omega
theorem rank_S {w W : World} {av : Array Value} {a0 a1 : Value} {lv : Int} {g n : Nat} {R : Nat → Int} (h : RkW w W #[a0, a1, .int .u64 lv] av g n R) :
    W.cell? ⟨w.heap.size, 0, none⟩ = some a0 ∧ W.cell? ⟨w.heap.size, 2, none⟩ = some (.int .u64 lv) ∧ Hid (∃ av, RkW w W #[a0, a1, .int .u64 lv] av g n R) :=
  ⟨cell_of_row _ _ 0 _ _ _ h.c, cell_of_row _ _ 2 _ _ _ h.c, Lib.hid ⟨av, h⟩⟩
theorem rank_H {w W : World} {a0 a1 : Value} {lv : Int} {g n : Nat} {R : Nat → Int} (h : W.cell? ⟨w.heap.size, 0, none⟩ = some a0 ∧ W.cell? ⟨w.heap.size, 2, none⟩ = some (.int .u64 lv) ∧ Hid (∃ av, RkW w W #[a0, a1, .int .u64 lv] av g n R)) : ∃ av, RkW w W #[a0, a1, .int .u64 lv] av g n R := h.2.2.out
theorem rank_A {w W : World} {a0 a1 : Value} {lv : Int} {g n : Nat} {R : Nat → Int} (h : W.cell? ⟨w.heap.size, 0, none⟩ = some a0 ∧ W.cell? ⟨w.heap.size, 2, none⟩ = some (.int .u64 lv) ∧ Hid (∃ av, RkW w W #[a0, a1, .int .u64 lv] av g n R)) (o : Obj) :
    (W.alloc o).cell? ⟨w.heap.size, 0, none⟩ = some a0 ∧ (W.alloc o).cell? ⟨w.heap.size, 2, none⟩ = some (.int .u64 lv) ∧ Hid (∃ av, RkW w (W.alloc o) #[a0, a1, .int .u64 lv] av g n R) := by
  obtain ⟨av, h⟩ := rank_H h
  exact rank_S (h.below ((Below.refl _ _).alloc (Nat.le_refl _) _))
theorem RkW.cells {w W : World} {cv : Array Value} {a b c : Value} {g n : Nat} {R : Nat → Int} (h : RkW w W cv #[a, b, c] g n R) :
    W.cell? ⟨w.heap.size + 1, 0, none⟩ = some a ∧ W.cell? ⟨w.heap.size + 1, 1, none⟩ = some b ∧ W.cell? ⟨w.heap.size + 1, 2, none⟩ = some c ∧
    W.frozen? ⟨w.heap.size + 1, 0, none⟩ = false ∧ W.frozen? ⟨w.heap.size + 1, 1, none⟩ = false ∧ W.frozen? ⟨w.heap.size + 1, 2, none⟩ = false :=
  ⟨cell_of_row _ _ 0 _ _ _ h.d, cell_of_row _ _ 1 _ _ _ h.d, cell_of_row _ _ 2 _ _ _ h.d, frozen_of_row _ _ _ _ _ h.d, frozen_of_row _ _ _ _ _ h.d, frozen_of_row _ _ _ _ _ h.d⟩
theorem RkW.ans1 {w W : World} {cv av : Array Value} {g n : Nat} {R : Nat → Int} (h : RkW w W cv av g n R) (j : Nat) (x : Value) : RkW w (W.setCell ⟨w.heap.size + 1, j, none⟩ x) cv (av.setIfInBounds j x) g n R := by
  obtain ⟨h0, cur, h2, h3, h4⟩ := h.r
  refine ⟨?_, heap_setCell_same W (w.heap.size + 1) j _ _ x h.d, ⟨h0, cur, ?_, h3, h4⟩, h.on.setCell (by show w.heap.size ≤ w.heap.size + 1; omega) _⟩
  · rw [heap_setCell_other _ ⟨w.heap.size + 1, j, none⟩ w.heap.size _ (by show w.heap.size ≠ w.heap.size + 1; omega)]; exact h.c
  · rw [heap_setCell_other _ ⟨w.heap.size + 1, j, none⟩ g _ (by show g ≠ w.heap.size + 1; omega)]; exact h2
theorem RkW.ans {w W : World} {cv : Array Value} {a b c : Value} {g n : Nat} {R : Nat → Int} (h : RkW w W cv #[a, b, c] g n R) (x y z : Value) :
    RkW w (((W.setCell ⟨w.heap.size + 1, 0, none⟩ x).setCell ⟨w.heap.size + 1, 1, none⟩ y).setCell ⟨w.heap.size + 1, 2, none⟩ z) cv #[x, y, z] g n R := ((h.ans1 0 x).ans1 1 y).ans1 2 z
theorem OwnL.set {base : Nat} {W : World} {v : Value} {L : List Nat} (h : OwnL base W v L) {k : Nat} (hk : k < base) (j : Nat) (x : Value) : OwnL base (W.setCell ⟨k, j, none⟩ x) v L := by
  refine ⟨h.1, ?_⟩
  rcases h.2 with h2 | ⟨g, cap, cur, h1, h2, h3, h4⟩
  · exact Or.inl h2
  · exact Or.inr ⟨g, cap, cur, h1, h2, (heap_setCell_other _ ⟨k, j, none⟩ g _ (by show g ≠ k; omega)).trans h3, h4⟩
theorem RkAt.lt {w : World} {base g n : Nat} {R : Nat → Int} (h : RkAt w base g n R) : g < w.heap.size := by
  obtain ⟨h0, cur, h1, h2, h3⟩ := h
  exact (Array.getElem?_eq_some_iff.1 h1).1
theorem OwnL.alloc {base : Nat} {W : World} {v : Value} {L : List Nat} (h : OwnL base W v L) (o : Obj) : OwnL base (W.alloc o) v L := World.ownsRow.alloc h o
/-- append of one number to a list of the call's own, at a step of a region that draws its order. -/
theorem step_snoc {ops : Array Oper} {o : Oper} {a : Act} {K : Act → World → Prop} {Q : Exit → Act → World → Prop} {E : Prop} (W : World) (hgd : o.guard = none) (s x : Operand) (t : TypeId)
    (ho : o.op = .call { callee := .builtin .append, args := #[s, x], argTypes := #[t, t] }) (ht : Try.prog.underlying t = some (.slice 3))
    (base : Nat) (v : Value) (L : List Nat) (i B : Nat) (hs : a.eval s = v) (hown : OwnL base W v L) (hx : a.eval x = .slice (some ⟨B, 0, none⟩) 1 1) (hB : W.heap[B]? = some (.cells #[.int .i64 i] 3 (0, 0)))
    (hn : L.length + 1 ≤ 1000000) (hbase : base ≤ W.heap.size)
    (h : ∀ g cap w', OwnL base w' (.slice (some ⟨g, 0, none⟩) (L.length + 1) cap) (L ++ [i]) → W.grownBy w' v.ownBlock → K (a.put o.dst (.slice (some ⟨g, 0, none⟩) (L.length + 1) cap)) w') :
    if Region.wanted o (yielded ops a.tmps) = true then Oper.wp Try.prog o a W K Q else E := by
  obtain ⟨ti, ti1, ti2, ti3, ti4⟩ := info_parts int_info
  refine step_append_lies W hgd s x t ho base 3 ti (.int .i64 0) 1 8 ht ti1 ti2 ti3 ti4 rfl (by decide) v L.length _ hs (ownL_pre i hown) ⟨B, 0, none⟩ 1 1 [.int .i64 i] hx rfl (World.news_of_block hB) (by intro u hu; simp at hu; subst hu; rfl) (by decide) (by unfold maxLen; omega) (by omega) hbase W.heap.size rfl ?_
  intro g cap w' h1 h2 _ _
  refine h g cap w' (ownL_snoc ?_) h2
  have e : listK .i64 (nthI (L ++ [i])) L.length ++ [.int .i64 (i : Nat)] = listK .i64 (nthI (L ++ [i])) (L.length + 1) := by rw [← listK_snoc, nthI_snoc]
  rw [← e]; exact h1
theorem cache_some : (Try.prog.underlying 56).isSome = true := by kernel_rfl
theorem cache_size : (Try.prog.info? 56).map (fun i => i.size) = some 3 := by kernel_rfl
theorem ret_cache {fn : Func} {p : Tmp} (h : fn.results = #[.cell p 56]) {tmps : Array Value} {w : World} {g : Nat} {cs : Array Value}
    (hp : tmps.getD p undef = .pointer (some ⟨g, 0, none⟩)) (hg : w.heap[g]? = some (.cells cs 56)) (hs : cs.size = 3) : (results fn tmps).run Try.prog w = .ok (.agg cs) w := by
  exact results_cell_row h tmps w g 56 cs (0, 0) ((Try.prog.underlying 56).get cache_some) hp hg (Option.some_get _).symm (by kernel_rfl) (by rw [cache_size, hs])
theorem OwnL.isL {base k c : Nat} {w : World} {a : Option Addr} {L : List Nat} (h : OwnL base w (.slice a k c) L) : L.length = k ∧ IsL w a L := by
  obtain ⟨fa, fc, hv, _, hfl⟩ := isK_own h
  obtain ⟨rfl, rfl, rfl⟩ : a = fa ∧ k = L.length ∧ c = fc := by simpa using hv
  exact ⟨rfl, hfl⟩
theorem ref18_rank {ia ra sa ca : Option Addr} {m n ic rc cs cc i : Nat} {lv : Int} {L : List Nat} {R Z C : Nat → Int} (hL : L.length = m) (hm : m ≤ 100000) (hi : i < n) (hn : n ≤ 1000) (hZ : InK .i64 Z) (hC : InK .i64 C) (hlv : 0 ≤ lv ∧ lv < 18446744073709551616) (w : World) (iL : IsL w ia L) (iR : IsK .u64 w ra n R) (iZ : IsK .i64 w sa n Z) (iC : IsK .i64 w ca n C) :
    Calls Try.prog 42 #[.agg #[.slice ia m ic, .slice ra n rc, .int .u64 lv], .slice sa n cs, .slice ca n cc, .int .i64 i] w fun e w' => ∃ a c b d, e = .returned (.agg #[.slice a ((L.filter fun x => x != i) ++ [i]).length c, .slice b n d, .int .u64 lv]) ∧ IsL w' a ((L.filter fun x => x != i) ++ [i]) ∧ IsK .u64 w' b n (setI R i ((lv + wgtO Z C i) % 18446744073709551616)) ∧ Below w.heap.size w w' ∧ (∀ k o, a = some ⟨k, o, none⟩ → w.heap.size ≤ k) ∧ (∀ k o, b = some ⟨k, o, none⟩ → w.heap.size ≤ k) := by
  obtain ⟨ti, ti1, ti2, ti3, ti4⟩ := info_parts u64_info
  have IL := Lib.hid iL
  have IR := Lib.hid iR
  have IZ := Lib.hid iZ
  have IC := Lib.hid iC
  have HZ := Lib.hid hZ
  have HC := Lib.hid hC
  have hw0 := wgtO_bd hZ hC i
  clear iL iR iZ iC hZ hC
  have b1 : Below w.heap.size w ((w.alloc (.cells #[.slice ia m ic, .slice ra n rc, .int .u64 lv] 56)).alloc (.cells #[.slice none 0 0, .slice none 0 0, .int .u64 0] 56)) := ((Below.refl _ _).alloc (Nat.le_refl _) _).alloc (by simp) _
  have t0 := heap_alloc_new w (.cells #[.slice ia m ic, .slice ra n rc, .int .u64 lv] 56)
  have t1 : ((w.alloc (.cells #[.slice ia m ic, .slice ra n rc, .int .u64 lv] 56)).alloc (.cells #[.slice none 0 0, .slice none 0 0, .int .u64 0] 56)).heap[w.heap.size]? = _ := (heap_alloc_old (w.alloc (.cells #[.slice ia m ic, .slice ra n rc, .int .u64 lv] 56)) (.cells #[.slice none 0 0, .slice none 0 0, .int .u64 0] 56) (by simp)).trans t0
  have t2 : ((w.alloc (.cells #[.slice ia m ic, .slice ra n rc, .int .u64 lv] 56)).alloc (.cells #[.slice none 0 0, .slice none 0 0, .int .u64 0] 56)).heap[w.heap.size + 1]? = some (.cells #[.slice none 0 0, .slice none 0 0, .int .u64 0] 56) := by
    have h := heap_alloc_new (w.alloc (.cells #[.slice ia m ic, .slice ra n rc, .int .u64 lv] 56)) (.cells #[.slice none 0 0, .slice none 0 0, .int .u64 0] 56)
    rwa [show (w.alloc (.cells #[.slice ia m ic, .slice ra n rc, .int .u64 lv] 56)).heap.size = w.heap.size + 1 by simp] at h
  have c1 : (w.alloc (.cells #[.slice ia m ic, .slice ra n rc, .int .u64 lv] 56)).cell? ⟨w.heap.size, 1, none⟩ = some (.slice ra n rc) := cell_of_row _ _ 1 _ _ _ t0
  have e1 : (((w.alloc (.cells #[.slice ia m ic, .slice ra n rc, .int .u64 lv] 56)).alloc (.cells #[.slice none 0 0, .slice none 0 0, .int .u64 0] 56))).heap.size = w.heap.size + 1 + 1 := by simp
  have o1 : (((w.alloc (.cells #[.slice ia m ic, .slice ra n rc, .int .u64 lv] 56)).alloc (.cells #[.slice none 0 0, .slice none 0 0, .int .u64 0] 56)).alloc (.cells #[] 23)).ownsRow (w.heap.size + 1 + 1) 23 1 (.slice (some ⟨w.heap.size + 1 + 1, 0, none⟩) 0 0) 0 [] := by
    rw [← e1]; exact made0 _ (Nat.le_refl _)
  have b2 : Below w.heap.size w (((w.alloc (.cells #[.slice ia m ic, .slice ra n rc, .int .u64 lv] 56)).alloc (.cells #[.slice none 0 0, .slice none 0 0, .int .u64 0] 56)).alloc (.cells #[] 23)) := b1.alloc (by simp; omega) _
  have O1 := Lib.hid o1
  have B2 := Lib.hid b2
  have T1 := Lib.hid (show (((w.alloc (.cells #[.slice ia m ic, .slice ra n rc, .int .u64 lv] 56)).alloc (.cells #[.slice none 0 0, .slice none 0 0, .int .u64 0] 56)).alloc (.cells #[] 23)).heap[w.heap.size]? = some (.cells #[.slice ia m ic, .slice ra n rc, .int .u64 lv] 56) from (heap_alloc_old ((w.alloc (.cells #[.slice ia m ic, .slice ra n rc, .int .u64 lv] 56)).alloc (.cells #[.slice none 0 0, .slice none 0 0, .int .u64 0] 56)) (.cells #[] 23) (by simp; omega)).trans t1)
  have T2 := Lib.hid (show (((w.alloc (.cells #[.slice ia m ic, .slice ra n rc, .int .u64 lv] 56)).alloc (.cells #[.slice none 0 0, .slice none 0 0, .int .u64 0] 56)).alloc (.cells #[] 23)).heap[w.heap.size + 1]? = some (.cells #[.slice none 0 0, .slice none 0 0, .int .u64 0] 56) from (heap_alloc_old ((w.alloc (.cells #[.slice ia m ic, .slice ra n rc, .int .u64 lv] 56)).alloc (.cells #[.slice none 0 0, .slice none 0 0, .int .u64 0] 56)) (.cells #[] 23) (by simp)).trans t2)
  clear o1 b2 e1 t0 b1 t1 t2
  go_enter Try.func42, Try.ntmps42
  go_wp2_with (at_builtin; refine wpList_append_u64s _ rfl _ _ _ rfl (w.heap.size + 1 + 1) 23 ti (by kernel_rfl) ti1 ti2 ti3 ti4 _ 0 [] rfl O1.out ra n rc R rfl (IR.out.below B2.out) (by unfold maxLen; omega) (by omega) (by simp) ?_; intro v1 w1 hO1 hg1)
  have hO2 : w1.ownsRow (w.heap.size + 1 + 1) 23 1 v1 n (listK .u64 R n) := by rw [Nat.zero_add] at hO1; exact hO1
  obtain ⟨g, gc, rfl, hR⟩ := rkAt_own hO2 (by omega)
  have hgn : (23 : Nat) = 23 := rfl
  have HW := Lib.hid (show RkW w w1 #[.slice ia m ic, .slice ra n rc, .int .u64 lv] #[.slice none 0 0, .slice none 0 0, .int .u64 0] g n R from
    ⟨(hg1.block _ (by first | (simp; done) | (simp; omega)) (by first | (simp [Value.ownBlock, go_sem]; done) | (simp [Value.ownBlock, go_sem]; omega))).trans T1.out, (hg1.block _ (by first | (simp; done) | (simp; omega)) (by first | (simp [Value.ownBlock, go_sem]; done) | (simp [Value.ownBlock, go_sem]; omega))).trans T2.out, hR, B2.out.grown hg1 (by simp; omega) (by simp [Value.ownBlock, go_sem]; omega)⟩)
  clear hO1 hO2 hR hg1 T1 T2 O1 B2 c1
  refine forget (fun W => RkW w W #[.slice ia m ic, .slice ra n rc, .int .u64 lv] #[.slice none 0 0, .slice none 0 0, .int .u64 0] g n R) HW.out ?_
  clear HW
  intro W hW
  have hk2 : W.cell? ⟨w.heap.size, 2, none⟩ = some (.int .u64 lv) := cell_of_row _ _ 2 _ _ _ hW.c
  have p2 := Under.cell hk2
  have k := fun (x : Under W) => ref18_weight (cs := cs) (cc := cc) (i := i) HZ.out HC.out hi hi x.w ((IZ.out.below hW.on).below x.2) ((IC.out.below hW.on).below x.2)
  generalize hwg : wgtO Z C i = wg at *
  have HWG := Lib.hid hwg
  clear hwg
  have HW := Lib.hid hW
  clear hW hk2
  (refine region_tail 10 (by kernel_rfl) (by kernel_rfl) ?_; simp only [List.take_succ_cons, List.take_zero, List.drop_succ_cons, List.drop_zero]; (repeat (first | go_big_quiet_step (first | (go_at_call 32; with_reducible exact quietU (k _))) | quiet_step (first | (go_at_call 32; with_reducible exact quietU (k _))))); refine wpQuiet_nil ?_; intro _ hw'; obtain ⟨x, hw''⟩ := hw'; subst hw'')
  have hv : IntKind.u64.wrap (lv + wg) = (lv + wg) % 18446744073709551616 := rfl
  have HX : RkW w x.w #[.slice ia m ic, .slice ra n rc, .int .u64 lv] #[.slice none 0 0, .slice none 0 0, .int .u64 0] g n R := HW.out.below x.2
  have d1 := HX.r.cell hi
  have d2 := HX.r.soft (j := i)
  have HP := Lib.hid (HX.put (v := (lv + wg) % 18446744073709551616) hi)
  clear HX k p2 HW
  rw [hv]
  clear hv
  generalize hnv : (lv + wg) % 18446744073709551616 = nv at *
  have HNV := Lib.hid hnv
  clear hnv
  go_wp2_with fail
  refine forget (fun W => RkW w W #[.slice ia m ic, .slice ra n rc, .int .u64 lv] #[.slice none 0 0, .slice none 0 0, .int .u64 0] g n (setI R i nv)) HP.out ?_
  clear HP d1 d2 x W
  intro W hW
  have ko := fun w iL => ref18_without (a := ia) (cap := ic) (k := i) hL (by omega) w iL
  have KO := Lib.hid ko
  clear ko hgn hw0
  have hgl := hW.r.lt
  have hdr : W.drew.heap.size = W.heap.size := rfl
  have hlf : (L.filter fun x => x != i).length + 1 ≤ 1000000 := by
    have := List.length_filter_le (fun x => x != i) L
    omega
  have hW1 := hW.below (Below.refl W.heap.size W).drew
  have hS0 := rank_S hW1
  have HR0 := Lib.hid hW1
  clear hW hW1
  generalize hR' : setI R i nv = R' at *
  have HRR := Lib.hid hR'
  clear hR'
  go_region_held3 (fun W => W.cell? ⟨w.heap.size, 0, none⟩ = some (.slice ia m ic) ∧ W.cell? ⟨w.heap.size, 2, none⟩ = some (.int .u64 lv) ∧ Hid (∃ av, RkW w W #[.slice ia m ic, .slice ra n rc, .int .u64 lv] av g n R'))
    (first | assumption | exact rank_A (by assumption) _ | exact rank_S (RkW.ans HR3.out _ _ _))
    (first
      | (go_at_call 45; refine (KO.out _ (IL.out.below (rank_H (by assumption)).choose_spec.on)).mono ?_; rintro e w2 ⟨v2, rfl, hO2, hb2⟩; have HO2 := Lib.hid hO2; clear hO2; have HR2 := Lib.hid (show RkW w w2 #[.slice ia m ic, .slice ra n rc, .int .u64 lv] #[.slice none 0 0, .slice none 0 0, .int .u64 0] g n R' by first | exact HR0.out.below hb2 | exact (HR0.out.below ((Below.refl _ _).alloc (Nat.le_refl _) _)).below hb2); have hS' := rank_S HR2.out)
      | (refine step_snoc _ (by rfl) _ _ _ (by rfl) (by kernel_rfl) _ v2 _ i w2.heap.size (by rfl) (OwnL.alloc HO2.out _) (by rfl) (heap_alloc_new w2 _) (by omega) (by have := hb2.size; simp; omega) ?_; intro g3 c3 w3 hO3 hg3; have HR3 := Lib.hid ((HR2.out.below ((Below.refl _ _).alloc (Nat.le_refl _) _)).grown hg3 (own_ge HO2.out) (by simp; omega) (by have := hb2.size; simp; omega)); have HO3 := Lib.hid hO3; have hS3 := rank_S HR3.out; obtain ⟨y0, y1, y2, y3, y4, y5⟩ := HR3.out.cells; clear hO3 hg3)
      | (refine step_snoc _ (by rfl) _ _ _ (by rfl) (by kernel_rfl) _ v2 _ i W.drew.heap.size (by rfl) HO2.out (by rfl) ((hb2.block _ (by simp)).trans (heap_alloc_new W.drew _)) (by omega) hb2.size ?_; intro g3 c3 w3 hO3 hg3; have HR3 := Lib.hid (HR2.out.grown hg3 (own_ge HO2.out) (by simp; omega) hb2.size); have HO3 := Lib.hid hO3; have hS3 := rank_S HR3.out; obtain ⟨y0, y1, y2, y3, y4, y5⟩ := HR3.out.cells; clear hO3 hg3))
  all_goals
    have HA := Lib.hid (HR3.out.ans (.slice (some ⟨g3, 0, none⟩) ((L.filter fun x => x != i).length + 1) c3) (.slice (some ⟨g, 0, none⟩) n gc) (.int .u64 lv))
    have HO4 := Lib.hid (((HO3.out.set (k := w.heap.size + 1) (by have h := HR0.out.r.1; simp; omega) 0 (.slice (some ⟨g3, 0, none⟩) ((L.filter fun x => x != i).length + 1) c3)).set (k := w.heap.size + 1) (by have h := HR0.out.r.1; simp; omega) 1 (.slice (some ⟨g, 0, none⟩) n gc)).set (k := w.heap.size + 1) (by have h := HR0.out.r.1; simp; omega) 2 (.int .u64 lv))
    obtain ⟨x0, x1, x2, _⟩ := HA.out.cells
    clear HR3 HO3 hS3 y0 y1 y2 y3 y4 y5 hS' HR2 HO2 hb2
    go_wp2_with fail
    have hr : ∀ (tmps : Array Value) (w : World) (g : Nat) (cs : Array Value), tmps.getD 8 undef = .pointer (some ⟨g, 0, none⟩) → w.heap[g]? = some (.cells cs 56 (0, 0)) → cs.size = 3 → (results Try.f42 tmps).run Try.prog w = .ok (.agg cs) w := fun _ _ _ _ => ret_cache (by kernel_rfl)
    obtain ⟨hkl, hfl⟩ := HO4.out.isL
    refine bodyPost_ret (hr _ _ (w.heap.size + 1) _ rfl HA.out.d rfl) rfl ?_
    have hg0 := HR0.out.r.1
    have hgb := own_ge HO4.out g3 (by simp [Value.ownBlock])
    have hbs := HR0.out.on.size
    refine ⟨_, _, _, _, by rw [hkl], hfl, ?_, HA.out.on, (fun k o e => by cases e; simp at hgb; omega), (fun k o e => by cases e; omega)⟩
    rw [HWG.out, HNV.out, HRR.out]
    exact HA.out.r.isK (by omega)
end Go.Proofs.Ytlhjacgocggbcaa
