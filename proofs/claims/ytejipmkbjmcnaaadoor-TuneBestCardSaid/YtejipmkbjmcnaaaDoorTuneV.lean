/- Plain laws of the layer tune: what rises, and what has room. Nothing of the program is walked. -/
import Derived.Test.YtejipmkbjmcnaaaDoorTuneO
set_option linter.unusedVariables false
namespace Go.Proofs.YtejipmkbjmcnaaaDoor

theorem partO_eq {o t : Int} (h0 : 0 ≤ o) (h1 : 0 ≤ t) : partO o t = capO o t * 4294967296 / (4294967296 + capO o t) ∧ partO o t < 4294967296 := by
  have hc := capO_bd h0 h1
  have hd : 0 < 4294967296 + capO o t := by omega
  have hq : capO o t * 4294967296 / (4294967296 + capO o t) < 4294967296 := by
    apply Int.ediv_lt_of_lt_mul hd
    rw [Int.mul_comm]
    exact Int.mul_lt_mul_of_pos_left (by omega) (by decide)
  have e : partO o t = capO o t * 4294967296 / (4294967296 + capO o t) := by
    unfold partO fxV partV
    have hz : ¬ 4294967296 + capO o t = 0 := by omega
    rw [if_neg hz, if_neg (by omega)]
  exact ⟨e, by rw [e]; exact hq⟩
theorem part_rises {c c' : Int} (h0 : 0 ≤ c) (h : c ≤ c') : c * 4294967296 / (4294967296 + c) ≤ c' * 4294967296 / (4294967296 + c') := by
  have hd : 0 < 4294967296 + c := by omega
  have hd' : 0 < 4294967296 + c' := by omega
  rw [Int.le_ediv_iff_mul_le hd']
  have h1 := Int.ediv_mul_le (c * 4294967296) (show 4294967296 + c ≠ 0 by omega)
  have hq : c * 4294967296 / (4294967296 + c) ≤ 4294967296 := by
    apply Int.le_of_lt
    apply Int.ediv_lt_of_lt_mul hd
    rw [Int.mul_comm]
    exact Int.mul_lt_mul_of_pos_left (by omega) (by decide)
  have h2 := Int.mul_le_mul_of_nonneg_right hq (show 0 ≤ c' - c by omega)
  have e : c * 4294967296 / (4294967296 + c) * (4294967296 + c') = c * 4294967296 / (4294967296 + c) * (4294967296 + c) + c * 4294967296 / (4294967296 + c) * (c' - c) := by
    rw [← Int.mul_add]; congr 1; omega
  rw [e]
  have e2 : 4294967296 * (c' - c) = c' * 4294967296 - c * 4294967296 := by omega
  omega
theorem mulT_mono {a b c d : Int} (ha : 0 ≤ a) (hb : 0 ≤ b) (h1 : a ≤ c) (h2 : b ≤ d) : mulS a b ≤ mulS c d := by
  have := Int.mul_le_mul h1 h2 hb (by omega)
  unfold mulS
  split <;> split <;> omega
theorem addT_mono {a b c d : Int} (h1 : a ≤ c) (h2 : b ≤ d) : addS a b ≤ addS c d := by
  unfold addS
  split <;> split <;> omega
theorem partO_mono {o o' t t' : Int} (h0 : 0 ≤ o) (h1 : 0 ≤ t) (ho : o ≤ o') (ht : t ≤ t') : partO o t ≤ partO o' t' := by
  rw [(partO_eq h0 h1).1, (partO_eq (show 0 ≤ o' by omega) (show 0 ≤ t' by omega)).1]
  refine part_rises (capO_bd h0 h1).1 ?_
  have := mulT_mono h0 h1 ho ht
  unfold capO; omega
theorem sumW_mono {F G : Nat → Int} : ∀ {n : Nat}, (∀ i, i < n → F i ≤ G i) → sumW F n ≤ sumW G n
  | 0, _ => Int.le_refl _
  | n + 1, h => addT_mono (sumW_mono fun i hi => h i (by omega)) (h n (by omega))
theorem fillW_mono {l : List Sn} {limit t t' : Int} (hi : InW l) (l0 : 0 ≤ limit) (h1 : 0 ≤ t) (ht : t ≤ t') : fillW l limit t ≤ fillW l limit t' := by
  refine sumW_mono fun i h => ?_
  have ho := oddsL_bd (limit := limit) rfl hi l0 i h
  exact mulT_mono (ofS_bd _ (hi i h).1.2).1 (partO_bd ho.1 h1).1 (Int.le_refl _) (partO_mono ho.1 h1 (Int.le_refl _) ht)
theorem ofS_mono {a b : Int} (h : a ≤ b) : ofS a ≤ ofS b := by unfold ofS; split <;> split <;> omega
theorem oddsW_more {s : Sn} {limit m : Int} (l0 : 0 ≤ limit) (h1 : s.size < 9223372036854775808) (h2 : m < 9223372036854775808) (hm : s.n ≤ m) : oddsW s limit ≤ oddsW ⟨s.key, s.size, m⟩ limit := by
  have hb := oddsW_bd (s := ⟨s.key, s.size, m⟩) (limit := limit) l0 h1 h2
  by_cases h : s.size < 1 ∨ s.n < 1
  · have e : oddsW s limit = 0 := by unfold oddsW; rw [if_pos h]
    rw [e]; exact hb.1
  · unfold oddsW
    rw [if_neg h, if_neg (show ¬ (s.size < 1 ∨ m < 1) by omega)]
    exact mulT_mono (exR_bd _ _).1 (ofS_bd _ (by omega)).1 (Int.le_refl _) (ofS_mono hm)
/-- What leads is at most room; what comes behind is not. -/
theorem leadG_spec {F : Nat → Int} {room : Int} : ∀ f i, (∀ j, i ≤ j → j < leadG F room i f → F j ≤ room) ∧ (leadG F room i f < i + f → ¬ F (leadG F room i f) ≤ room) ∧ i ≤ leadG F room i f
  | 0, i => ⟨fun j h1 h2 => by have e : leadG F room i 0 = i := rfl; omega, fun h => by have e : leadG F room i 0 = i := rfl; omega, Nat.le_refl _⟩
  | f + 1, i => by
    rw [leadG_step]
    obtain ⟨a, b, c⟩ := leadG_spec (F := F) (room := room) f (i + 1)
    by_cases h : F i ≤ room
    · rw [if_pos h]
      refine ⟨fun j h1 h2 => ?_, fun h2 => b (by omega), by omega⟩
      rcases Nat.lt_or_ge i j with h3 | h3
      · exact a j (by omega) h2
      · rw [show j = i by omega]; exact h
    · rw [if_neg h]
      exact ⟨fun j h1 h2 => by omega, fun _ => h, Nat.le_refl _⟩
theorem pow_le {i j : Nat} (h : i ≤ j) : (2 : Int) ^ i ≤ 2 ^ j := by
  have h1 : 2 ^ i ≤ 2 ^ j := Nat.pow_le_pow_right (by decide) h
  have h4 : ((2 ^ i : Nat) : Int) = (2 : Int) ^ i := by rw [Int.natCast_pow]; rfl
  have h5 : ((2 ^ j : Nat) : Int) = (2 : Int) ^ j := by rw [Int.natCast_pow]; rfl
  omega
theorem time_fits {l : List Sn} {limit most : Int} (hi : InW l) (l0 : 0 ≤ limit) :
    (fillW l limit (2 ^ timeW l limit most) ≤ roomW most ∨ timeW l limit most = 0) ∧ (timeW l limit most = 32 ∨ roomW most < fillW l limit (2 ^ (timeW l limit most + 1))) := by
  obtain ⟨a, b, c⟩ := leadG_spec (F := fun n => fillW l limit (2 ^ n)) (room := roomW most) 33 0
  have d := leadG_le (fun n => fillW l limit (2 ^ n)) (roomW most) 33 0
  have e : timeW l limit most = leadG (fun n => fillW l limit (2 ^ n)) (roomW most) 0 33 - 1 := rfl
  generalize leadG (fun n => fillW l limit (2 ^ n)) (roomW most) 0 33 = R at *
  rw [e]
  rcases Nat.eq_zero_or_pos R with h | h
  · subst h
    refine ⟨Or.inr rfl, Or.inr ?_⟩
    have h1 := b (by decide)
    have h2 := fillW_mono (limit := limit) hi l0 (show (0 : Int) ≤ 2 ^ 0 by decide) (pow_le (show 0 ≤ 0 - 1 + 1 by decide))
    omega
  · refine ⟨Or.inl (a (R - 1) (Nat.zero_le _) (by omega)), ?_⟩
    rcases Nat.lt_or_ge R 33 with h3 | h3
    · right
      have h1 := b (by omega)
      rw [show R - 1 + 1 = R from by omega]
      omega
    · left; omega
end Go.Proofs.YtejipmkbjmcnaaaDoor
