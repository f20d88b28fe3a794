/- Plain words of the layer tune: windows, their order, their sums. Nothing of the program is walked. -/
import Derived.Test.YtejipmkbjmcnaaaDoorExpoC
set_option linter.unusedVariables false
namespace Go.Proofs.YtejipmkbjmcnaaaDoor

/-- A member of a window. -/
structure Sn where
  key : ByteArray
  size : Int
  n : Int
def sn0 : Sn := ⟨ByteArray.empty, 0, 0⟩
def wAt (l : List Sn) (j : Nat) : Sn := l.getD j sn0
theorem wAt_get {l : List Sn} {j : Nat} (h : j < l.length) : l[j]? = some (wAt l j) := by
  unfold wAt; rw [List.getD_eq_getElem?_getD, List.getElem?_eq_getElem h]; rfl
theorem wAt_of {l : List Sn} {j : Nat} {s : Sn} (h : l[j]? = some s) : wAt l j = s := by
  unfold wAt; rw [List.getD_eq_getElem?_getD, h]; rfl
def ltB (a b : ByteArray) : Bool := Op.bytesLess a.toList b.toList
def eqB (a b : ByteArray) : Bool := a.toList == b.toList
theorem eqB_iff {a b : ByteArray} : eqB a b = true ↔ a = b := by
  unfold eqB
  rw [beq_iff_eq, ByteArray.toList_eq, ByteArray.toList_eq]
  constructor
  · intro h
    cases a; cases b
    congr 1
    exact Array.ext' h
  · rintro rfl; rfl
theorem bytes_lt : ∀ (x y : List UInt8), Op.bytesLess x y = decide (x < y)
  | [], [] => by simp [Op.bytesLess]
  | _ :: _, [] => by simp [Op.bytesLess]
  | [], _ :: _ => by simp [Op.bytesLess]
  | a :: x, b :: y => by
    rw [Op.bytesLess, bytes_lt x y]
    simp only [List.cons_lt_cons_iff]
    by_cases h1 : a < b <;> by_cases h2 : a = b <;> by_cases h3 : x < y <;> simp [h1, h2, h3]
theorem ltB_iff {a b : ByteArray} : ltB a b = true ↔ a.toList < b.toList := by
  unfold ltB; rw [bytes_lt]; simp
theorem ltB_irrefl (a : ByteArray) : ltB a a = false := by
  cases h : ltB a a
  · rfl
  · exact absurd (ltB_iff.1 h) (List.lt_irrefl _)
theorem ltB_trans {a b c : ByteArray} (h : ltB a b = true) (k : ltB b c = true) : ltB a c = true :=
  ltB_iff.2 (List.lt_trans (ltB_iff.1 h) (ltB_iff.1 k))
theorem ltB_asymm {a b : ByteArray} (h : ltB a b = true) : ltB b a = false := by
  cases k : ltB b a
  · rfl
  · have := ltB_irrefl a; rw [ltB_trans h k] at this; cases this
theorem ltB_tri {a b : ByteArray} (h : ltB a b = false) (k : ltB b a = false) : a = b := by
  have h1 : ¬ a.toList < b.toList := fun hh => by rw [ltB_iff.2 hh] at h; cases h
  have h2 : ¬ b.toList < a.toList := fun hh => by rw [ltB_iff.2 hh] at k; cases k
  have e : a.toList = b.toList := List.le_antisymm (List.not_lt.1 h2) (List.not_lt.1 h1)
  exact eqB_iff.1 (by unfold eqB; rw [e]; simp)
/-- A member may be, in its place. -/
def okNum (s : Sn) : Prop := 1 ≤ s.size ∧ s.size ≤ 4096 ∧ 1 ≤ s.n ∧ s.n ≤ 1000
def okAt (l : List Sn) (j : Nat) : Prop := okNum (wAt l j) ∧ (0 < j → ltB (wAt l (j - 1)).key (wAt l j).key = true)
instance (l : List Sn) (j : Nat) : Decidable (okAt l j) := by unfold okAt okNum; infer_instance
def mayW (l : List Sn) : Prop := l.length ≤ 1000 ∧ ∀ j, j < l.length → okAt l j
instance (l : List Sn) : Decidable (mayW l) := by unfold mayW; infer_instance
theorem mayW_sorted {l : List Sn} (h : mayW l) {i : Nat} : ∀ {j : Nat}, i < j → j < l.length → ltB (wAt l i).key (wAt l j).key = true
  | 0, hij, _ => absurd hij (Nat.not_lt_zero i)
  | j + 1, hij, hj => by
    have h1 := (h.2 (j + 1) hj).2 (by omega)
    rw [show j + 1 - 1 = j from by omega] at h1
    rcases Nat.lt_succ_iff_lt_or_eq.1 hij with h2 | rfl
    · exact ltB_trans (mayW_sorted h h2 (by omega)) h1
    · exact h1
/-- Where a key is, or would be. -/
def posW (l : List Sn) (key : ByteArray) : Nat := (l.takeWhile fun s => ltB s.key key).length
theorem posW_le (l : List Sn) (key : ByteArray) : posW l key ≤ l.length := (List.takeWhile_sublist _).length_le
theorem posW_lo {l : List Sn} {key : ByteArray} : ∀ {j : Nat}, j < posW l key → ltB (wAt l j).key key = true := by
  induction l with
  | nil => intro j hj; simp [posW] at hj
  | cons s l ih =>
    intro j hj
    unfold posW at hj
    rw [List.takeWhile_cons] at hj
    by_cases hs : ltB s.key key = true
    · rw [if_pos hs, List.length_cons] at hj
      cases j with
      | zero => exact hs
      | succ j => exact ih (j := j) (by unfold posW; omega)
    · rw [if_neg hs] at hj; simp at hj
theorem posW_at {l : List Sn} {key : ByteArray} : posW l key < l.length → ltB (wAt l (posW l key)).key key = false := by
  induction l with
  | nil => intro hj; simp at hj
  | cons s l ih =>
    intro hj
    unfold posW at hj ⊢
    rw [List.takeWhile_cons] at hj ⊢
    by_cases hs : ltB s.key key = true
    · rw [if_pos hs, List.length_cons, List.length_cons] at hj
      rw [if_pos hs, List.length_cons]
      exact ih (by unfold posW; omega)
    · rw [if_neg hs]
      show ltB s.key key = false
      simpa using hs
theorem posW_hi {l : List Sn} {key : ByteArray} (h : mayW l) {j : Nat} (hj : posW l key ≤ j) (hl : j < l.length) : ltB (wAt l j).key key = false := by
  have h0 := posW_at (l := l) (key := key) (by omega)
  rcases Nat.lt_or_ge (posW l key) j with h1 | h1
  · cases h2 : ltB (wAt l j).key key
    · rfl
    · rw [ltB_trans (mayW_sorted h h1 hl) h2] at h0; cases h0
  · rw [show j = posW l key by omega]; exact h0
def hitW (l : List Sn) (key : ByteArray) : Bool := decide (posW l key < l.length) && eqB (wAt l (posW l key)).key key
/-- With one request more, whatever it is. -/
def rawW (l : List Sn) (key : ByteArray) (size : Int) : List Sn :=
  if hitW l key = true then l.set (posW l key) ⟨key, size, (wAt l (posW l key)).n + 1⟩
  else l.take (posW l key) ++ ⟨key, size, 1⟩ :: l.drop (posW l key)
def noteW (l : List Sn) (key : ByteArray) (size : Int) : List Sn := if mayW l ∧ mayW (rawW l key size) then rawW l key size else l
/-- What cmp.Compare tells of keys. -/
def cmpB (a b : ByteArray) : Int := if ltB a b = true then -1 else if eqB a b = true then 0 else 1
theorem cmpB_lt (a b : ByteArray) : decide (cmpB a b < 0) = ltB a b := by
  unfold cmpB
  cases ltB a b <;> cases eqB a b <;> rfl
theorem cmpB_eq {a b : ByteArray} (h : ltB a b = false) : (cmpB a b == 0) = eqB a b := by
  unfold cmpB
  rw [h]
  cases eqB a b <;> rfl
/-- A member's odds at the time 1; its part, of such odds. -/
def oddsW (s : Sn) (limit : Int) : Int := if s.size < 1 ∨ s.n < 1 then 0 else mulS (exR (ofS s.size) limit) (ofS s.n)
def capO (o t : Int) : Int := min (mulS o t) 9223372036854775808
def partO (o t : Int) : Int := fxV (capO o t) (4294967296 + capO o t)
/-- Sums, held. -/
def sumW (F : Nat → Int) : Nat → Int
  | 0 => 0
  | i + 1 => addS (sumW F i) (F i)
def fillF (l : List Sn) (limit t : Int) (i : Nat) : Int := mulS (ofS (wAt l i).size) (partO (oddsW (wAt l i) limit) t)
def fillW (l : List Sn) (limit t : Int) : Int := sumW (fillF l limit t) l.length
def scoreF (l : List Sn) (limit t : Int) (i : Nat) : Int := mulS (ofS (wAt l i).n) (partO (oddsW (wAt l i) limit) t)
/-- How many of the numbers from i on, f of them, are at most room, one behind the other. -/
def leadG (F : Nat → Int) (room : Int) : Nat → Nat → Nat
  | i, 0 => i
  | i, f + 1 => if F i ≤ room then leadG F room (i + 1) f else i
def roomW (most : Int) : Int := mulS most 4294967296
def timeW (l : List Sn) (limit most : Int) : Nat := leadG (fun n => fillW l limit (2 ^ n)) (roomW most) 0 33 - 1
def scoreW (l : List Sn) (limit most : Int) : Int := if mayW l then sumW (scoreF l limit (2 ^ timeW l limit most)) l.length else 0
/-- The best one of the first i of a grid, its score, and if there is one. -/
def bestG (G : Nat → Int) (S : Int → Int) : Nat → Int × Int × Bool
  | 0 => (0, 0, false)
  | i + 1 => let r := bestG G S i
    if G i < 1 then r
    else if r.2.2 = false ∨ r.2.1 < S (G i) ∨ (S (G i) = r.2.1 ∧ G i < r.1) then (G i, S (G i), true) else r
theorem oddsW_bd {s : Sn} {limit : Int} (hl : 0 ≤ limit) (h1 : s.size < 9223372036854775808) (h2 : s.n < 9223372036854775808) : 0 ≤ oddsW s limit ∧ oddsW s limit < 18446744073709551616 := by
  unfold oddsW
  split
  · omega
  · refine mulS_bd _ _ ?_ (ofS_bd _ h2).1
    unfold exR
    split
    · exact (exV_bd _).1
    · omega
theorem capO_bd {o t : Int} (h0 : 0 ≤ o) (h1 : 0 ≤ t) : 0 ≤ capO o t ∧ capO o t ≤ 9223372036854775808 := by
  have := mulS_bd o t h0 h1
  unfold capO; omega
theorem partO_bd {o t : Int} (h0 : 0 ≤ o) (h1 : 0 ≤ t) : 0 ≤ partO o t ∧ partO o t < 18446744073709551616 := by
  have := capO_bd h0 h1
  exact fx_bd _ _ this.1 (by omega)
theorem sumW_bd {F : Nat → Int} (h : ∀ i, 0 ≤ F i) : ∀ i, 0 ≤ sumW F i ∧ sumW F i < 18446744073709551616
  | 0 => by show (0 : Int) ≤ 0 ∧ (0 : Int) < _; omega
  | i + 1 => addS_bd _ _ (sumW_bd h i).1 (h i)
end Go.Proofs.YtejipmkbjmcnaaaDoor
