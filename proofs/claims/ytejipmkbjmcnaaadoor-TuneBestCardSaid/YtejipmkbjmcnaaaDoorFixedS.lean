/- Plain numbers of the layer fixed. Nothing of the program is in sight. -/
import Derived.Test.YtejipmkbjmcnaaaDoorRatioS
import Derived.Test.YtejipmkbjmcnaaaDoorWordS
set_option linter.unusedVariables false
namespace Go.Proofs.YtejipmkbjmcnaaaDoor

def fxV (a b : Int) : Int := partV (a * 4294967296 / b) b
def fxE (a b : Int) : Int := partE (a * 4294967296 / b) b
def mulF (a b : Int) : Int := min (a * b / 4294967296) 18446744073709551615
def mixF (a b w : Int) : Int := (b * min w 4294967296 + a * (4294967296 - min w 4294967296)) / 4294967296
/-- The sum of the first n, held. -/
def sumF (Z : Nat → Int) : Nat → Int
  | 0 => 0
  | n + 1 => addS (sumF Z n) (Z n)
theorem sumF_bd {Z : Nat → Int} (h : ∀ i, 0 ≤ Z i) : ∀ n, 0 ≤ sumF Z n ∧ sumF Z n < 18446744073709551616
  | 0 => by unfold sumF; omega
  | n + 1 => addS_bd _ _ (sumF_bd h n).1 (h n)
theorem mulF_of {a b : Int} (a0 : 0 ≤ a) (b0 : 0 ≤ b) :
    (partE (a * b / 4294967296) 4294967296 = 0 → partV (a * b / 4294967296) 4294967296 = mulF a b) ∧ (¬ partE (a * b / 4294967296) 4294967296 = 0 → 18446744073709551615 = mulF a b) := by
  have h := Int.mul_nonneg a0 b0
  unfold partE partV mulF
  generalize a * b / 4294967296 = q
  constructor <;> intro h' <;> (repeat' split at h') <;> (repeat' split) <;> omega
theorem mulF_bd {a b : Int} (a0 : 0 ≤ a) (b0 : 0 ≤ b) : 0 ≤ mulF a b ∧ mulF a b < 18446744073709551616 := by
  have h := Int.mul_nonneg a0 b0
  have : 0 ≤ a * b / 4294967296 := Int.ediv_nonneg h (by decide)
  unfold mulF; omega
/-- What is mixed, before it is divided. -/
theorem mix_bd {a b w : Int} (a0 : 0 ≤ a) (a1 : a < 18446744073709551616) (b0 : 0 ≤ b) (b1 : b < 18446744073709551616) (w0 : 0 ≤ w) :
    0 ≤ b * min w 4294967296 ∧ 0 ≤ a * (4294967296 - min w 4294967296) ∧ b * min w 4294967296 + a * (4294967296 - min w 4294967296) ≤ max a b * 4294967296 ∧ min a b * 4294967296 ≤ b * min w 4294967296 + a * (4294967296 - min w 4294967296) := by
  have m0 : 0 ≤ min w 4294967296 := by omega
  have m1 : 0 ≤ 4294967296 - min w 4294967296 := by omega
  have h1 := Int.mul_nonneg b0 m0
  have h2 := Int.mul_nonneg a0 m1
  have h3 : b * min w 4294967296 ≤ max a b * min w 4294967296 := Int.mul_le_mul_of_nonneg_right (by omega) m0
  have h4 : a * (4294967296 - min w 4294967296) ≤ max a b * (4294967296 - min w 4294967296) := Int.mul_le_mul_of_nonneg_right (by omega) m1
  have h5 : min a b * min w 4294967296 ≤ b * min w 4294967296 := Int.mul_le_mul_of_nonneg_right (by omega) m0
  have h6 : min a b * (4294967296 - min w 4294967296) ≤ a * (4294967296 - min w 4294967296) := Int.mul_le_mul_of_nonneg_right (by omega) m1
  have e1 : max a b * 4294967296 = max a b * min w 4294967296 + max a b * (4294967296 - min w 4294967296) := by grind
  have e2 : min a b * 4294967296 = min a b * min w 4294967296 + min a b * (4294967296 - min w 4294967296) := by grind
  exact ⟨h1, h2, by omega, by omega⟩
theorem mixF_bd {a b w : Int} (a0 : 0 ≤ a) (a1 : a < 18446744073709551616) (b0 : 0 ≤ b) (b1 : b < 18446744073709551616) (w0 : 0 ≤ w) :
    min a b ≤ mixF a b w ∧ mixF a b w ≤ max a b := by
  obtain ⟨h1, h2, h3, h4⟩ := mix_bd a0 a1 b0 b1 w0
  unfold mixF
  generalize b * min w 4294967296 + a * (4294967296 - min w 4294967296) = s at *
  omega
theorem wShr_32 (x : Int) : wShr x 32 = x / 4294967296 := rfl
end Go.Proofs.YtejipmkbjmcnaaaDoor
