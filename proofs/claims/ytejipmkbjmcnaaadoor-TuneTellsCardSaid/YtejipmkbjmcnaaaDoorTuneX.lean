/- Plain laws of the layer tune: a window with a request more, by those ahead and those behind; requests of unlike keys. Nothing of the program is walked. -/
import Derived.Test.YtejipmkbjmcnaaaDoorTuneH
set_option linter.unusedVariables false
namespace Go.Proofs.YtejipmkbjmcnaaaDoor

def ltS (s t : Sn) : Prop := ltB s.key t.key = true
theorem wAt_mem {l : List Sn} {i : Nat} (h : i < l.length) : wAt l i ∈ l := List.mem_of_getElem? (wAt_get h)
theorem mem_wAt {l : List Sn} {s : Sn} (h : s ∈ l) : ∃ i, i < l.length ∧ wAt l i = s := by
  obtain ⟨i, hi⟩ := List.mem_iff_getElem?.1 h
  exact ⟨i, (List.getElem?_eq_some_iff.1 hi).1, wAt_of hi⟩
theorem mayW_iff (l : List Sn) : mayW l ↔ l.length ≤ 1000 ∧ (∀ s ∈ l, okNum s) ∧ l.Pairwise ltS := by
  constructor
  · intro h
    refine ⟨h.1, fun s hs => ?_, ?_⟩
    · obtain ⟨i, hi, rfl⟩ := mem_wAt hs
      exact (h.2 i hi).1
    · rw [List.pairwise_iff_getElem]
      intro i j hi hj hij
      have e := mayW_sorted h hij hj
      have e1 : wAt l i = l[i] := wAt_of (List.getElem?_eq_getElem hi)
      have e2 : wAt l j = l[j] := wAt_of (List.getElem?_eq_getElem hj)
      rw [e1, e2] at e
      exact e
  · rintro ⟨h1, h2, h3⟩
    refine ⟨h1, fun j hj => ⟨h2 _ (wAt_mem hj), fun h0 => ?_⟩⟩
    rw [List.pairwise_iff_getElem] at h3
    have e := h3 (j - 1) j (by omega) hj (by omega)
    have e1 : wAt l (j - 1) = l[j - 1]'(by omega) := wAt_of (List.getElem?_eq_getElem _)
    have e2 : wAt l j = l[j] := wAt_of (List.getElem?_eq_getElem hj)
    rw [e1, e2]
    exact e
/-- The N of a request more. -/
def nxtN (key : ByteArray) : List Sn → Int → Int
  | [], n => n
  | s :: l, n => nxtN key l (if eqB s.key key = true then s.n + 1 else n)
theorem nxtN_none {key : ByteArray} : ∀ {l : List Sn} {n : Int}, (∀ s ∈ l, s.key ≠ key) → nxtN key l n = n
  | [], _, _ => rfl
  | s :: l, n, h => by
    have h1 : ¬ eqB s.key key = true := fun e => h s (List.mem_cons_self ..) (eqB_iff.1 e)
    rw [nxtN, if_neg h1]
    exact nxtN_none fun t ht => h t (List.mem_cons_of_mem _ ht)
theorem ltS_ne {s t : Sn} (h : ltS s t) : s.key ≠ t.key := fun e => by
  unfold ltS at h
  rw [e, ltB_irrefl] at h
  cases h
theorem nxtN_some {key : ByteArray} : ∀ {l : List Sn} {n : Int} {s : Sn}, l.Pairwise ltS → s ∈ l → s.key = key → nxtN key l n = s.n + 1
  | t :: l, n, s, hp, hs, hk => by
    obtain ⟨h1, h2⟩ := List.pairwise_cons.1 hp
    rcases List.mem_cons.1 hs with rfl | hs
    · rw [nxtN, if_pos (eqB_iff.2 hk)]
      exact nxtN_none fun u hu => fun e => ltS_ne (h1 u hu) (hk.trans e.symm)
    · rw [nxtN, nxtN_some h2 hs hk]
/-- With one request more: those ahead, it, those behind. -/
def putW (l : List Sn) (key : ByteArray) (size : Int) : List Sn := l.filter (fun s => ltB s.key key) ++ ⟨key, size, nxtN key l 1⟩ :: l.filter (fun s => ltB key s.key)
theorem filter_take {l : List Sn} {key : ByteArray} (h : mayW l) : l.filter (fun s => ltB s.key key) = l.take (posW l key) := by
  have e : l = l.take (posW l key) ++ l.drop (posW l key) := (List.take_append_drop _ _).symm
  have h1 : ∀ s ∈ l.take (posW l key), ltB s.key key = true := fun s hs => by
    obtain ⟨i, hi⟩ := List.mem_iff_getElem?.1 hs
    rw [List.getElem?_take] at hi
    split at hi
    · rename_i hlt
      have := posW_lo (l := l) (key := key) hlt
      rwa [wAt_of hi] at this
    · cases hi
  have h2 : ∀ s ∈ l.drop (posW l key), ¬ ltB s.key key = true := fun s hs => by
    obtain ⟨i, hi⟩ := List.mem_iff_getElem?.1 hs
    rw [List.getElem?_drop] at hi
    have hl := (List.getElem?_eq_some_iff.1 hi).1
    have := posW_hi (key := key) h (show posW l key ≤ posW l key + i by omega) hl
    rw [wAt_of hi] at this
    rw [this]; decide
  conv => lhs; rw [e]
  rw [List.filter_append, List.filter_eq_self.2 h1, List.filter_eq_nil_iff.2 h2, List.append_nil]
theorem filter_drop {l : List Sn} {key : ByteArray} (h : mayW l) : l.filter (fun s => ltB key s.key) = l.drop (posW l key + if hitW l key = true then 1 else 0) := by
  obtain ⟨d, hd, hd2⟩ : ∃ d, (if hitW l key = true then 1 else 0) = d ∧ ((hitW l key = true ∧ d = 1) ∨ (hitW l key = false ∧ d = 0)) := by
    refine ⟨_, rfl, ?_⟩
    cases hitW l key
    · exact Or.inr ⟨rfl, rfl⟩
    · exact Or.inl ⟨rfl, rfl⟩
  rw [hd]
  have e : l = l.take (posW l key + d) ++ l.drop (posW l key + d) := (List.take_append_drop _ _).symm
  have h1 : ∀ s ∈ l.take (posW l key + d), ¬ ltB key s.key = true := fun s hs => by
    obtain ⟨i, hi⟩ := List.mem_iff_getElem?.1 hs
    rw [List.getElem?_take] at hi
    by_cases hlt : i < posW l key + d
    · rw [if_pos hlt] at hi
      rcases Nat.lt_or_ge i (posW l key) with h3 | h3
      · have := posW_lo (l := l) (key := key) h3
        rw [wAt_of hi] at this
        rw [ltB_asymm this]; decide
      · rcases hd2 with ⟨hh, rfl⟩ | ⟨hh, rfl⟩
        · unfold hitW at hh
          rw [Bool.and_eq_true] at hh
          have h5 := eqB_iff.1 hh.2
          obtain rfl : i = posW l key := by omega
          rw [wAt_of hi] at h5
          rw [h5, ltB_irrefl]; decide
        · omega
    · rw [if_neg hlt] at hi; cases hi
  have h2 : ∀ s ∈ l.drop (posW l key + d), ltB key s.key = true := fun s hs => by
    obtain ⟨i, hi⟩ := List.mem_iff_getElem?.1 hs
    rw [List.getElem?_drop] at hi
    have hl := (List.getElem?_eq_some_iff.1 hi).1
    have h3 := posW_hi (key := key) h (show posW l key ≤ posW l key + d + i by omega) hl
    rw [wAt_of hi] at h3
    rcases hd2 with ⟨hh, rfl⟩ | ⟨hh, rfl⟩
    · have hp := (rawW_hit (size := 0) hh).1
      have h4 := mayW_sorted h (show posW l key < posW l key + 1 + i by omega) hl
      rw [wAt_of hi] at h4
      unfold hitW at hh
      rw [Bool.and_eq_true] at hh
      rw [eqB_iff.1 hh.2] at h4
      exact h4
    · cases h5 : ltB key s.key
      · exfalso
        have h7 : s.key = key := ltB_tri h3 h5
        rw [Nat.add_zero] at hi hl
        rcases Nat.eq_zero_or_pos i with h0 | h0
        · subst h0
          rw [Nat.add_zero] at hi hl
          unfold hitW at hh
          rw [wAt_of hi, decide_eq_true hl, eqB_iff.2 h7] at hh
          cases hh
        · have h8 := mayW_sorted h (show posW l key < posW l key + i by omega) hl
          rw [wAt_of hi, h7] at h8
          rw [posW_at (show posW l key < l.length by omega)] at h8
          cases h8
      · rfl
  conv => lhs; rw [e]
  rw [List.filter_append, List.filter_eq_nil_iff.2 h1, List.filter_eq_self.2 h2, List.nil_append]
theorem rawW_put {l : List Sn} {key : ByteArray} {size : Int} (h : mayW l) : rawW l key size = putW l key size := by
  have hm := (mayW_iff l).1 h
  unfold putW
  rw [filter_take h, filter_drop h]
  by_cases hh : hitW l key = true
  · obtain ⟨hp, hr⟩ := rawW_hit (size := size) hh
    have hk : (wAt l (posW l key)).key = key := by
      unfold hitW at hh
      rw [Bool.and_eq_true] at hh
      exact eqB_iff.1 hh.2
    rw [hr, if_pos hh, nxtN_some hm.2.2 (wAt_mem hp) hk, hk, List.set_eq_take_append_cons_drop, if_pos hp]
  · have hh' : hitW l key = false := by simpa using hh
    rw [rawW_miss hh', if_neg hh, Nat.add_zero]
    congr 2
    have hn : ∀ s ∈ l, s.key ≠ key := fun s hs hk => by
      obtain ⟨i, hi, rfl⟩ := mem_wAt hs
      apply hh
      have h1 : ¬ i < posW l key := fun h1 => by
        have := posW_lo (l := l) (key := key) h1
        rw [hk, ltB_irrefl] at this; cases this
      have h2 : posW l key = i := by
        rcases Nat.lt_or_ge (posW l key) i with h3 | h3
        · have h4 := mayW_sorted h h3 hi
          rw [hk, posW_at (by omega)] at h4; cases h4
        · omega
      unfold hitW
      rw [h2, decide_eq_true hi, eqB_iff.2 hk]; rfl
    rw [nxtN_none hn]
theorem putW_pairwise {l : List Sn} {key : ByteArray} {size : Int} (h : l.Pairwise ltS) : (putW l key size).Pairwise ltS := by
  unfold putW
  rw [List.pairwise_append, List.pairwise_cons]
  refine ⟨h.filter _, ⟨fun t ht => ?_, h.filter _⟩, fun s hs t ht => ?_⟩
  · exact (List.mem_filter.1 ht).2
  · have h1 : ltB s.key key = true := (List.mem_filter.1 hs).2
    rcases List.mem_cons.1 ht with rfl | ht
    · exact h1
    · exact ltB_trans h1 (List.mem_filter.1 ht).2
theorem putW_mem {l : List Sn} {key : ByteArray} {size : Int} (s : Sn) : s ∈ putW l key size ↔ (s ∈ l ∧ s.key ≠ key) ∨ s = ⟨key, size, nxtN key l 1⟩ := by
  unfold putW
  rw [List.mem_append, List.mem_cons, List.mem_filter, List.mem_filter]
  constructor
  · rintro (⟨h1, h2⟩ | h | ⟨h1, h2⟩)
    · refine Or.inl ⟨h1, fun e => ?_⟩
      rw [e, ltB_irrefl] at h2; cases h2
    · exact Or.inr h
    · refine Or.inl ⟨h1, fun e => ?_⟩
      rw [e, ltB_irrefl] at h2; cases h2
  · rintro (⟨h1, h2⟩ | h)
    · cases h3 : ltB s.key key
      · cases h4 : ltB key s.key
        · exact absurd (ltB_tri h3 h4) h2
        · exact Or.inr (Or.inr ⟨h1, rfl⟩)
      · exact Or.inl ⟨h1, rfl⟩
    · exact Or.inr (Or.inl h)
theorem sorted_ext : ∀ {l k : List Sn}, l.Pairwise ltS → k.Pairwise ltS → (∀ s, s ∈ l ↔ s ∈ k) → l = k
  | [], [], _, _, _ => rfl
  | [], b :: k, _, _, h => absurd ((h b).2 (List.mem_cons_self ..)) (by simp)
  | a :: l, [], _, _, h => absurd ((h a).1 (List.mem_cons_self ..)) (by simp)
  | a :: l, b :: k, hl, hk, h => by
    obtain ⟨l1, l2⟩ := List.pairwise_cons.1 hl
    obtain ⟨k1, k2⟩ := List.pairwise_cons.1 hk
    have irr : ∀ s, ¬ ltS s s := fun s hs => ltS_ne hs rfl
    have hab : a = b := by
      rcases List.mem_cons.1 ((h a).1 (List.mem_cons_self ..)) with e | e
      · exact e
      · rcases List.mem_cons.1 ((h b).2 (List.mem_cons_self ..)) with f | f
        · exact f.symm
        · exact absurd (ltB_trans (l1 b f) (k1 a e)) (irr a)
    subst hab
    congr 1
    refine sorted_ext l2 k2 fun s => ⟨fun hs => ?_, fun hs => ?_⟩
    · rcases List.mem_cons.1 ((h s).1 (List.mem_cons_of_mem _ hs)) with rfl | e
      · exact absurd (l1 _ hs) (irr _)
      · exact e
    · rcases List.mem_cons.1 ((h s).2 (List.mem_cons_of_mem _ hs)) with rfl | e
      · exact absurd (k1 _ hs) (irr _)
      · exact e
theorem putW_len {l : List Sn} {key : ByteArray} {size : Int} (h : mayW l) : l.length ≤ (putW l key size).length ∧ (putW l key size).length ≤ l.length + 1 := by
  rw [← rawW_put h]
  have hp := posW_le l key
  unfold rawW
  split
  · rw [List.length_set]; omega
  · rw [List.length_append, List.length_take, List.length_cons, List.length_drop]; omega
theorem mayW_put {l : List Sn} {key : ByteArray} {size : Int} (h : mayW l) (hl : l.length < 1000) : mayW (putW l key size) ↔ okNum ⟨key, size, nxtN key l 1⟩ := by
  have hm := (mayW_iff l).1 h
  rw [mayW_iff]
  constructor
  · rintro ⟨_, h2, _⟩
    exact h2 _ ((putW_mem _).2 (Or.inr rfl))
  · intro h2
    refine ⟨by have := (putW_len (key := key) (size := size) h).2; omega, fun s hs => ?_, putW_pairwise hm.2.2⟩
    rcases (putW_mem _).1 hs with h3 | rfl
    · exact hm.2.1 s h3.1
    · exact h2
theorem noteW_put {l : List Sn} {key : ByteArray} {size : Int} (h : mayW l) (hl : l.length < 1000) : noteW l key size = if 1 ≤ size ∧ size ≤ 4096 ∧ 1 ≤ nxtN key l 1 ∧ nxtN key l 1 ≤ 1000 then putW l key size else l := by
  unfold noteW
  rw [rawW_put h]
  by_cases hc : 1 ≤ size ∧ size ≤ 4096 ∧ 1 ≤ nxtN key l 1 ∧ nxtN key l 1 ≤ 1000
  · rw [if_pos hc, if_pos ⟨h, (mayW_put h hl).2 hc⟩]
  · rw [if_neg hc, if_neg (fun hh => hc ((mayW_put h hl).1 hh.2))]
theorem noteW_may {l : List Sn} {key : ByteArray} {size : Int} (h : mayW l) : mayW (noteW l key size) := by
  unfold noteW
  split
  · rename_i hh; exact hh.2
  · exact h
theorem noteW_len {l : List Sn} {key : ByteArray} {size : Int} (h : mayW l) : l.length ≤ (noteW l key size).length ∧ (noteW l key size).length ≤ l.length + 1 := by
  unfold noteW
  split
  · rw [rawW_put h]; exact putW_len h
  · omega
theorem nxtN_put {l : List Sn} {a b : ByteArray} {n : Int} (h : l.Pairwise ltS) (hab : a ≠ b) : nxtN b (putW l a n) 1 = nxtN b l 1 := by
  by_cases hx : ∃ s ∈ l, s.key = b
  · obtain ⟨s, hs, hk⟩ := hx
    rw [nxtN_some h hs hk, nxtN_some (putW_pairwise h) ((putW_mem s).2 (Or.inl ⟨hs, fun e => hab (e.symm.trans hk)⟩)) hk]
  · have h1 : ∀ s ∈ l, s.key ≠ b := fun s hs hk => hx ⟨s, hs, hk⟩
    rw [nxtN_none h1, nxtN_none]
    intro s hs hk
    rcases (putW_mem s).1 hs with h2 | rfl
    · exact h1 s h2.1 hk
    · exact hab hk
/-- Requests of unlike keys: their order does not matter. -/
theorem noteW_turns {l : List Sn} {a b : ByteArray} {n m : Int} (h : mayW l) (hl : l.length < 900) (hab : a ≠ b) : noteW (noteW l a n) b m = noteW (noteW l b m) a n := by
  have hp := ((mayW_iff l).1 h).2.2
  have la := (noteW_len (key := a) (size := n) h).2
  have lb := (noteW_len (key := b) (size := m) h).2
  have ea := noteW_put (key := a) (size := n) h (by omega)
  have eb := noteW_put (key := b) (size := m) h (by omega)
  have fa := noteW_put (key := b) (size := m) (noteW_may (key := a) (size := n) h) (by omega)
  have fb := noteW_put (key := a) (size := n) (noteW_may (key := b) (size := m) h) (by omega)
  rw [fa, fb]
  by_cases ca : 1 ≤ n ∧ n ≤ 4096 ∧ 1 ≤ nxtN a l 1 ∧ nxtN a l 1 ≤ 1000
  · rw [if_pos ca] at ea
    by_cases cb : 1 ≤ m ∧ m ≤ 4096 ∧ 1 ≤ nxtN b l 1 ∧ nxtN b l 1 ≤ 1000
    · rw [if_pos cb] at eb
      rw [ea, eb, nxtN_put hp hab, nxtN_put hp (Ne.symm hab), if_pos ca, if_pos cb]
      refine sorted_ext (putW_pairwise (putW_pairwise hp)) (putW_pairwise (putW_pairwise hp)) fun s => ?_
      rw [putW_mem, putW_mem, putW_mem, putW_mem, nxtN_put hp hab, nxtN_put hp (Ne.symm hab)]
      constructor
      · rintro (⟨⟨h1, h2⟩ | rfl, h3⟩ | rfl)
        · exact Or.inl ⟨Or.inl ⟨h1, h3⟩, h2⟩
        · exact Or.inr rfl
        · exact Or.inl ⟨Or.inr rfl, Ne.symm hab⟩
      · rintro (⟨⟨h1, h2⟩ | rfl, h3⟩ | rfl)
        · exact Or.inl ⟨Or.inl ⟨h1, h3⟩, h2⟩
        · exact Or.inr rfl
        · exact Or.inl ⟨Or.inr rfl, hab⟩
    · rw [if_neg cb] at eb
      rw [ea, eb, nxtN_put hp hab, if_neg cb, if_pos ca]
  · rw [if_neg ca] at ea
    by_cases cb : 1 ≤ m ∧ m ≤ 4096 ∧ 1 ≤ nxtN b l 1 ∧ nxtN b l 1 ≤ 1000
    · rw [if_pos cb] at eb
      rw [ea, eb, nxtN_put hp (Ne.symm hab), if_neg ca, if_pos cb]
    · rw [if_neg cb] at eb
      rw [ea, eb, if_neg ca, if_neg cb]
end Go.Proofs.YtejipmkbjmcnaaaDoor
