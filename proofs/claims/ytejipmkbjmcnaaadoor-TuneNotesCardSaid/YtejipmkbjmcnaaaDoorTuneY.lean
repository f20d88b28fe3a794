/- Plain laws of the layer tune: requests one behind the other, from no window on. Nothing of the program is walked. -/
import Derived.Test.YtejipmkbjmcnaaaDoorTuneX
set_option linter.unusedVariables false
namespace Go.Proofs.YtejipmkbjmcnaaaDoor

/-- The size of a key's member. -/
def ofW (key : ByteArray) : List Sn → Int
  | [] => 0
  | s :: l => if eqB s.key key = true then s.size else ofW key l
theorem ofW_append {key : ByteArray} : ∀ {l : List Sn} (k : List Sn), (∀ s ∈ l, s.key ≠ key) → ofW key (l ++ k) = ofW key k
  | [], _, _ => rfl
  | s :: l, k, h => by
    show (if eqB s.key key = true then s.size else ofW key (l ++ k)) = _
    rw [if_neg (fun e => h s (List.mem_cons_self ..) (eqB_iff.1 e))]
    exact ofW_append k fun t ht => h t (List.mem_cons_of_mem _ ht)
theorem ofW_put {l : List Sn} {key : ByteArray} {size : Int} : ofW key (putW l key size) = size := by
  unfold putW
  rw [ofW_append]
  · show (if eqB key key = true then size else _) = size
    rw [if_pos (eqB_iff.2 rfl)]
  · intro s hs e
    have h := (List.mem_filter.1 hs).2
    rw [e, ltB_irrefl] at h
    cases h
/-- All Ns. -/
def sumN : List Sn → Int
  | [] => 0
  | s :: l => s.n + sumN l
theorem sumN_append : ∀ (l k : List Sn), sumN (l ++ k) = sumN l + sumN k
  | [], k => by show sumN k = 0 + sumN k; omega
  | s :: l, k => by show s.n + sumN (l ++ k) = s.n + sumN l + sumN k; rw [sumN_append l k]; omega
theorem sumN_parts {key : ByteArray} : ∀ {l : List Sn}, l.Pairwise ltS → sumN (l.filter (fun s => ltB s.key key)) + sumN (l.filter (fun s => ltB key s.key)) + (nxtN key l 1 - 1) = sumN l
  | [], _ => rfl
  | s :: l, hp => by
    obtain ⟨h1, h2⟩ := List.pairwise_cons.1 hp
    have ih := sumN_parts (key := key) h2
    by_cases hk : s.key = key
    · have e1 : ltB s.key key = false := by rw [hk]; exact ltB_irrefl _
      have e2 : ltB key s.key = false := by rw [hk]; exact ltB_irrefl _
      have hn : nxtN key l 1 = 1 := nxtN_none fun t ht e => ltS_ne (h1 t ht) (hk.trans e.symm)
      have hn2 : nxtN key (s :: l) 1 = s.n + 1 := nxtN_some hp (List.mem_cons_self ..) hk
      rw [List.filter_cons_of_neg (by rw [e1]; decide), List.filter_cons_of_neg (by rw [e2]; decide), hn2]
      rw [hn] at ih
      show _ = s.n + sumN l
      omega
    · have hn : nxtN key (s :: l) 1 = nxtN key l 1 := by
        show nxtN key l (if eqB s.key key = true then s.n + 1 else 1) = _
        rw [if_neg (fun e => hk (eqB_iff.1 e))]
      rw [hn]
      cases h3 : ltB s.key key
      · cases h4 : ltB key s.key
        · exact absurd (ltB_tri h3 h4) hk
        · rw [List.filter_cons_of_neg (by rw [h3]; decide), List.filter_cons_of_pos (p := fun s : Sn => ltB key s.key) h4]
          show _ + (s.n + sumN _) + _ = s.n + sumN l
          omega
      · rw [List.filter_cons_of_pos (p := fun s : Sn => ltB s.key key) h3, List.filter_cons_of_neg (by rw [ltB_asymm h3]; decide)]
        show s.n + sumN _ + _ + _ = s.n + sumN l
        omega
theorem sumN_put {l : List Sn} {key : ByteArray} {size : Int} (h : l.Pairwise ltS) : sumN (putW l key size) = sumN l + 1 := by
  have e := sumN_parts (key := key) h
  unfold putW
  rw [sumN_append]
  show _ + (nxtN key l 1 + sumN _) = _
  omega
theorem sumN_0 : ∀ {l : List Sn}, (∀ s ∈ l, 0 ≤ s.n) → 0 ≤ sumN l
  | [], _ => Int.le_refl _
  | s :: l, h => by
    have h1 := h s (List.mem_cons_self ..)
    have h2 := sumN_0 fun t ht => h t (List.mem_cons_of_mem _ ht)
    show 0 ≤ s.n + sumN l
    omega
theorem nxtN_le {l : List Sn} {key : ByteArray} (hp : l.Pairwise ltS) (h : ∀ s ∈ l, 1 ≤ s.n) : 1 ≤ nxtN key l 1 ∧ nxtN key l 1 ≤ sumN l + 1 := by
  have e := sumN_parts (key := key) hp
  have h1 := sumN_0 (l := l.filter (fun s => ltB s.key key)) fun s hs => by have := h s (List.mem_filter.1 hs).1; omega
  have h2 := sumN_0 (l := l.filter (fun s => ltB key s.key)) fun s hs => by have := h s (List.mem_filter.1 hs).1; omega
  refine ⟨?_, by omega⟩
  by_cases hx : ∃ s ∈ l, s.key = key
  · obtain ⟨s, hs, hk⟩ := hx
    rw [nxtN_some hp hs hk]
    have := h s hs; omega
  · rw [nxtN_none fun s hs hk => hx ⟨s, hs, hk⟩]; exact Int.le_refl _
/-- Requests, one behind the other; how many were not refused. -/
def runW (K : Nat → ByteArray) (Z : Nat → Int) : Nat → List Sn
  | 0 => []
  | i + 1 => noteW (runW K Z i) (K i) (Z i)
def manyW (Z : Nat → Int) : Nat → Nat
  | 0 => 0
  | i + 1 => manyW Z i + if 1 ≤ Z i ∧ Z i ≤ 4096 then 1 else 0
theorem manyW_le (Z : Nat → Int) : ∀ i, manyW Z i ≤ i
  | 0 => Nat.le_refl _
  | i + 1 => by have := manyW_le Z i; unfold manyW; split <;> omega
structure RunS (K : Nat → ByteArray) (Z : Nat → Int) (i : Nat) : Prop where
  may : mayW (runW K Z i)
  len : (runW K Z i).length ≤ i
  sum : sumN (runW K Z i) = manyW Z i
theorem runW_step {K : Nat → ByteArray} {Z : Nat → Int} {i : Nat} (h : RunS K Z i) (hi : i < 900) : runW K Z (i + 1) = if 1 ≤ Z i ∧ Z i ≤ 4096 then putW (runW K Z i) (K i) (Z i) else runW K Z i := by
  have hm := (mayW_iff _).1 h.may
  have hn := nxtN_le (key := K i) hm.2.2 fun s hs => (hm.2.1 s hs).2.2.1
  have hml := manyW_le Z i
  have hs := h.sum
  have hl := h.len
  show noteW (runW K Z i) (K i) (Z i) = _
  rw [noteW_put h.may (by omega)]
  by_cases hc : 1 ≤ Z i ∧ Z i ≤ 4096
  · rw [if_pos hc, if_pos ⟨hc.1, hc.2, hn.1, by omega⟩]
  · rw [if_neg hc, if_neg (fun hh => hc ⟨hh.1, hh.2.1⟩)]
theorem runS {K : Nat → ByteArray} {Z : Nat → Int} : ∀ {i : Nat}, i ≤ 900 → RunS K Z i
  | 0, _ => ⟨⟨by show (0 : Nat) ≤ 1000; omega, fun j hj => absurd hj (Nat.not_lt_zero j)⟩, Nat.le_refl _, rfl⟩
  | i + 1, hi => by
    have ih := runS (K := K) (Z := Z) (i := i) (by omega)
    have hm := (mayW_iff _).1 ih.may
    have hst := runW_step ih (by omega)
    have hl := ih.len
    refine ⟨noteW_may ih.may, ?_, ?_⟩
    · have := (noteW_len (key := K i) (size := Z i) ih.may).2
      show (noteW (runW K Z i) (K i) (Z i)).length ≤ i + 1
      omega
    · rw [hst]
      unfold manyW
      by_cases hc : 1 ≤ Z i ∧ Z i ≤ 4096
      · rw [if_pos hc, if_pos hc, sumN_put hm.2.2, ih.sum]; omega
      · rw [if_neg hc, if_neg hc, ih.sum]; omega
theorem sumN_take {l : List Sn} {i : Nat} (hi : i < l.length) : sumN (l.take (i + 1)) = sumN (l.take i) + (wAt l i).n := by
  rw [List.take_add_one, wAt_get hi, sumN_append]
  show _ + ((wAt l i).n + 0) = _
  omega
theorem sumN_take_le {l : List Sn} (h : ∀ s ∈ l, 0 ≤ s.n) (i : Nat) : 0 ≤ sumN (l.take i) ∧ sumN (l.take i) ≤ sumN l := by
  have h1 := sumN_0 (l := l.take i) fun s hs => h s (List.mem_of_mem_take hs)
  have h2 := sumN_0 (l := l.drop i) fun s hs => h s (List.mem_of_mem_drop hs)
  have e : sumN l = sumN (l.take i) + sumN (l.drop i) := by rw [← sumN_append, List.take_append_drop]
  omega
end Go.Proofs.YtejipmkbjmcnaaaDoor
