/- The walks of the reference's has, taken, without. -/
import Derived.Test.YtlhjacgocggbcaaGdsRA
set_option linter.unusedVariables false
set_option maxRecDepth 100000
set_option maxHeartbeats 2000000
namespace Go.Proofs.Ytlhjacgocggbcaa
open Go.RowKit Go.Shelf
attribute [local go_sem ↓] lt_alloc

/-- Numbers as a slice of ints. -/
def nthI (L : List Nat) (j : Nat) : Int := (L.getD j 0 : Nat)
def IsL (w : World) (a : Option Addr) (L : List Nat) : Prop := IsK .i64 w a L.length (nthI L)
theorem IsL.below {w w' : World} {a : Option Addr} {L : List Nat} (h : IsL w a L) (hb : Below w.heap.size w w') : IsL w' a L := IsK.below h hb
theorem nthI_mem {L : List Nat} {j : Nat} (h : j < L.length) : ∃ x ∈ L, nthI L j = (x : Nat) := by
  refine ⟨L[j], List.getElem_mem h, ?_⟩
  unfold nthI
  rw [List.getD_eq_getElem?_getD, List.getElem?_eq_getElem h]; rfl
theorem nthI_of {L : List Nat} {x : Nat} (h : x ∈ L) : ∃ j, j < L.length ∧ nthI L j = (x : Nat) := by
  obtain ⟨j, hj, rfl⟩ := List.getElem_of_mem h
  refine ⟨j, hj, ?_⟩
  unfold nthI
  rw [List.getD_eq_getElem?_getD, List.getElem?_eq_getElem hj]; rfl
theorem ref18_has {a : Option Addr} {m cap k : Nat} {L : List Nat} (hL : L.length = m) (w : World) (iL : IsL w a L) :
    Calls Try.prog 41 #[.slice a m cap, .int .i64 k] w fun e w' => e = .returned (.bool (decide (k ∈ L))) ∧ Below w.heap.size w w' := by
  obtain ⟨r, hr⟩ : ∃ r, decide (k ∈ L) = r := ⟨_, rfl⟩
  rw [hr]
  have YES := Lib.hid (show ∀ j, j < m → nthI L j = (k : Nat) → r = true from fun j hj e => by
    obtain ⟨x, hx, ex⟩ := nthI_mem (L := L) (j := j) (by omega)
    rw [← hr]; exact decide_eq_true (by have : x = k := by omega
                                        rwa [← this]))
  have NO := Lib.hid (show (∀ j, j < m → nthI L j ≠ (k : Nat)) → r = false from fun h => by
    rw [← hr]; exact decide_eq_false fun hk => by
      obtain ⟨j, hj, e⟩ := nthI_of hk
      exact h j (by omega) e)
  have IL := Lib.hid (show IsK .i64 w a m (nthI L) by rw [← hL]; exact iL)
  clear hr iL hL
  generalize nthI L = F at *
  generalize ((k : Nat) : Int) = c at *
  go_enter Try.func41, Try.ntmps41
  go_wp2_with fail
  go_loopw [5] (fun iv W => ∃ i : Nat, i ≤ m ∧ iv = .int .i64 i ∧ Hid (∀ j, j < i → F j ≠ c) ∧ Below w.heap.size w W) (fun iv _ => m - (intOf iv).toNat)
  case atStart => exact ⟨0, Nat.zero_le _, rfl, Lib.hid (fun j hj => absurd hj (Nat.not_lt_zero j)), Below.refl _ _⟩
  case round =>
    obtain ⟨i, hi, rfl, hall, hB⟩ := hrel
    by_cases hlt : i < m
    · obtain ⟨gb, go, rfl, h63, q0⟩ := (IL.out.below hB).row hlt
      have YI := Lib.hid (YES.out i hlt)
      by_cases he : F i = c
      · have HT := Lib.hid (YI.out he)
        have e1 : (F i == c) = true := by simpa using he
        clear he
        generalize F i = z at *
        go_wp2_with fail
        go_ret
        exact ⟨by rw [HT.out]; rfl, hB⟩
      · have NXT := Lib.hid (show ∀ j, j < i + 1 → F j ≠ c from fun j hj => by
          rcases Nat.lt_succ_iff_lt_or_eq.1 hj with h | rfl
          · exact hall.out j h
          · exact he)
        have e1 : (F i == c) = false := by simpa using he
        clear he hall
        generalize F i = z at *
        go_wp2_with fail
        exact ⟨⟨i + 1, by omega, by go_num, NXT, hB⟩, by simp [intOf]; omega⟩
    · obtain rfl : m = i := by omega
      have HF := Lib.hid (NO.out hall.out)
      go_wp2_with fail
      go_ret
      exact ⟨by rw [HF.out]; rfl, hB⟩
/-- What the first i of them take. -/
def sumZ (Z : Nat → Int) (L : List Nat) : Nat → Int
  | 0 => 0
  | i + 1 => sumZ Z L i + Z (L.getD i 0)
theorem ref18_taken {a sa : Option Addr} {m n cap cs : Nat} {Z : Nat → Int} {L : List Nat} (hL : L.length = m) (hm : m ≤ 100000) (hn : ∀ x ∈ L, x < n) (hZ : ∀ j, j < n → 0 ≤ Z j ∧ Z j ≤ 4096) (w : World) (iZ : IsK .i64 w sa n Z) (iL : IsL w a L) :
    Calls Try.prog 43 #[.slice sa n cs, .slice a m cap] w fun e w' => e = .returned (.int .i64 (sumZ Z L m)) ∧ Below w.heap.size w w' := by
  have hb : ∀ i, i ≤ m → 0 ≤ sumZ Z L i ∧ sumZ Z L i ≤ 4096 * i := by
    intro i
    induction i with
    | zero => intro _; exact ⟨Int.le_refl _, by show (0 : Int) ≤ _; omega⟩
    | succ i ih =>
      intro h
      have h1 := ih (by omega)
      have h2 := hZ (L.getD i 0) (hn _ (by rw [List.getD_eq_getElem?_getD, List.getElem?_eq_getElem (by omega)]; exact List.getElem_mem _))
      show 0 ≤ sumZ Z L i + Z (L.getD i 0) ∧ _
      exact ⟨by omega, by show sumZ Z L i + Z (L.getD i 0) ≤ _; omega⟩
  have HB := Lib.hid hb
  have HX := Lib.hid (show ∀ i, i < m → L.getD i 0 < n from fun i h => hn _ (by rw [List.getD_eq_getElem?_getD, List.getElem?_eq_getElem (by omega)]; exact List.getElem_mem _))
  have IL := Lib.hid (show IsK .i64 w a m (nthI L) by rw [← hL]; exact iL)
  have IZ := Lib.hid iZ
  have HZ := Lib.hid hZ
  clear hb hZ hn iL iZ hL
  go_enter Try.func43, Try.ntmps43
  go_wp2_with fail
  go_loopw [5, 6] (fun sv iv W => ∃ i : Nat, i ≤ m ∧ iv = .int .i64 i ∧ sv = .int .i64 (sumZ Z L i) ∧ Below w.heap.size w W) (fun _ iv _ => m - (intOf iv).toNat)
  case atStart => exact ⟨0, Nat.zero_le _, rfl, rfl, Below.refl _ _⟩
  case round =>
    obtain ⟨i, hi, rfl, rfl, hB⟩ := hrel
    by_cases hlt : i < m
    · obtain ⟨gb, go, rfl, h63, q0⟩ := (IL.out.below hB).row hlt
      have hx := HX.out i hlt
      obtain ⟨zb, zo, rfl, hz63, q1⟩ := (IZ.out.below hB).row hx
      have hb1 := HB.out i hi
      have hz1 := HZ.out _ hx
      have HS := Lib.hid (show sumZ Z L (i + 1) = sumZ Z L i + Z (L.getD i 0) from rfl)
      have e0 : nthI L i = ((L.getD i 0 : Nat) : Int) := rfl
      rw [e0] at q0
      clear e0
      generalize L.getD i 0 = x at *
      generalize sumZ Z L i = s at *
      generalize Z x = z at *
      have p0 := Under.cell q0
      have p1 := Under.cell q1
      have hw : wrap64 (s + z) = s + z := Go.IntWalk.wrap64_in _ ⟨by omega, by omega⟩
      clear hb1 hz1
      go_wp2_with fail
      exact ⟨⟨i + 1, by omega, by go_num, by rw [HS.out, hw], hB⟩, by simp [intOf]; omega⟩
    · obtain rfl : m = i := by omega
      go_wp2_with fail
      go_ret
      exact ⟨rfl, hB⟩
def woF (L : List Nat) (k i : Nat) : List Nat := (L.take i).filter fun x => x != k
theorem woF_succ {L : List Nat} {k i : Nat} (h : i < L.length) : woF L k (i + 1) = woF L k i ++ if nthI L i = (k : Nat) then [] else [L.getD i 0] := by
  have e : L.take (i + 1) = L.take i ++ [L.getD i 0] := by
    rw [List.take_add_one, List.getD_eq_getElem?_getD, List.getElem?_eq_getElem h]; rfl
  unfold woF nthI
  rw [e, List.filter_append]
  congr 1
  generalize L.getD i 0 = x
  rw [List.filter_cons]
  by_cases hx : x = k
  · subst hx; simp
  · have h1 : ¬ ((x : Nat) : Int) = (k : Nat) := by omega
    rw [if_neg h1]
    simp [hx]
theorem woF_le (L : List Nat) (k i : Nat) : (woF L k i).length ≤ i := by
  unfold woF; exact Nat.le_trans (List.length_filter_le ..) (by rw [List.length_take]; omega)
def OwnL (base : Nat) (W : World) (v : Value) (L : List Nat) : Prop := W.ownsRow base 3 1 v L.length (listK .i64 (nthI L) L.length)
theorem nthI_snoc {L : List Nat} {x : Nat} : nthI (L ++ [x]) L.length = (x : Nat) := by
  unfold nthI; simp [List.getD_eq_getElem?_getD]
theorem nthI_app {L K : List Nat} {j : Nat} (h : j < L.length) : nthI (L ++ K) j = nthI L j := by
  unfold nthI; rw [List.getD_eq_getElem?_getD, List.getD_eq_getElem?_getD, List.getElem?_append_left h]
theorem ownL_pre {base : Nat} {W : World} {v : Value} {L : List Nat} (x : Nat) (h : OwnL base W v L) : W.ownsRow base 3 1 v L.length (listK .i64 (nthI (L ++ [x])) L.length) := by
  rw [listK_congr (fun j hj => nthI_app hj)]; exact h
theorem ownL_snoc {base : Nat} {W : World} {v : Value} {L : List Nat} {x : Nat} (h : W.ownsRow base 3 1 v (L.length + 1) (listK .i64 (nthI (L ++ [x])) (L.length + 1))) : OwnL base W v (L ++ [x]) := by
  unfold OwnL; rw [List.length_append]; exact h
theorem ref18_without {a : Option Addr} {m cap k : Nat} {L : List Nat} (hL : L.length = m) (hm : m ≤ 100000) (w : World) (iL : IsL w a L) :
    Calls Try.prog 45 #[.slice a m cap, .int .i64 k] w fun e w' => ∃ v, e = .returned v ∧ OwnL w.heap.size w' v (L.filter fun x => x != k) ∧ Below w.heap.size w w' := by
  obtain ⟨ti, ti1, ti2, ti3, ti4⟩ := info_parts int_info
  have HE := Lib.hid (show woF L k m = L.filter fun x => x != k by unfold woF; rw [← hL, List.take_length])
  have HS := Lib.hid (show ∀ i, i < m → woF L k (i + 1) = woF L k i ++ if nthI L i = (k : Nat) then [] else [L.getD i 0] from fun i h => woF_succ (by omega))
  have IL := Lib.hid (show IsK .i64 w a m (nthI L) by rw [← hL]; exact iL)
  have HD := Lib.hid (show ∀ i, nthI L i = ((L.getD i 0 : Nat) : Int) from fun i => rfl)
  clear iL hL
  rw [← HE.out]
  generalize hc : ((k : Nat) : Int) = c at *
  go_enter Try.func45, Try.ntmps45
  go_wp2_with fail
  go_loopw [5, 6] (fun sv iv W => ∃ i : Nat, i ≤ m ∧ iv = .int .i64 i ∧ OwnL w.heap.size W sv (woF L k i) ∧ Below w.heap.size w W) (fun _ iv _ => m - (intOf iv).toNat)
  case atStart => exact ⟨0, Nat.zero_le _, rfl, World.ownsRow_nil _ _ _ _, Below.refl _ _⟩
  case round =>
    obtain ⟨i, hi, rfl, hO, hB⟩ := hrel
    have HO := Lib.hid hO
    clear hO
    by_cases hlt : i < m
    · obtain ⟨gb, go, rfl, h63, q0⟩ := (IL.out.below hB).row hlt
      have hs := HS.out i hlt
      have hle := woF_le L k i
      have ez := HD.out i
      generalize L.getD i 0 = x at *
      generalize nthI L i = z at *
      by_cases he : z = c
      · rw [if_pos he, List.append_nil] at hs
        have HS2 := Lib.hid hs
        have e1 : (z == c) = true := by simpa using he
        clear he hs ez
        go_wp2_with fail
        exact ⟨⟨i + 1, by omega, by go_num, by rw [HS2.out]; exact HO.out, hB⟩, by simp [intOf]; omega⟩
      · rw [if_neg he] at hs
        have HS2 := Lib.hid hs
        have HZ := Lib.hid (show z = nthI (woF L k i ++ [x]) (woF L k i).length by rw [nthI_snoc]; exact ez)
        have e1 : (z == c) = false := by simpa using he
        clear he hs ez
        go_wp2_with (at_builtin; refine wpList_append_one wr rfl _ _ _ rfl .i64 w.heap.size 3 ti 8 (by kernel_rfl) ti1 ti2 ti3 ti4 u5 _ (nthI (woF L k i ++ [x])) z rfl rfl (ownL_pre x HO.out) HZ.out (by omega) (by decide) hB.size ?_; intro v1 W1 g1; have HO3 := Lib.hid (ownL_snoc g1.own); have HB3 := Lib.hid (hB.trans (g1.below (ownL_pre x HO.out) hB.size)); clear g1)
        exact ⟨⟨i + 1, by omega, by go_num, by rw [HS2.out]; exact HO3.out, HB3.out⟩, by simp [intOf]; omega⟩
    · obtain rfl : m = i := by omega
      go_wp2_with fail
      go_ret
      exact ⟨_, rfl, HO.out, hB⟩
end Go.Proofs.Ytlhjacgocggbcaa
