/- Plain numbers of the layer expo: products of a table's powers, by the bits of a number. Nothing of the program is in sight. -/
set_option linter.unusedVariables false
namespace Go.Proofs.YtejipmkbjmcnaaaDoor

/-- The table: e to the minus 2^(k - 32), times 2^62, from below. -/
def pwTab : List Int := [4611686017353646080, 4611686016279904256, 4611686014132420609, 4611686009837453319, 4611686001247518751, 4611685984067649663, 4611685949707911679, 4611685880988436479,
  4611685743549489151, 4611685468671606783, 4611684918915891199, 4611683819404656639, 4611681620382973951, 4611677222342754298, 4611668426274897877, 4611650834189516458, 4611615650220078421,
  4611545283086494378, 4611404552040437079, 4611123102832306901, 4610560255948314623, 4609434768280048980, 4607184617107619805, 4602687609541841169, 4593706758521714574, 4575797593107614194,
  4540188453729421604, 4469799356029710114, 4332278087304955804, 4069798626954855183, 3591584682430698960, 2797128963144291324, 1696544475317221318, 624123833502197199, 84465975781740359, 1547048310802923, 518976891834]
def pw (k : Nat) : Int := pwTab.getD k 0
/-- One step: times a power, if the bit is set. -/
def exStep (l p bit : Int) : Int := if bit = 1 then l * p / 4611686018427387904 else l
/-- What is left behind the bits from the highest one (36) on down to k. -/
def exG : Nat → Nat → Int → Int
  | 0, _, _ => 4611686018427387904
  | n + 1, j, x => exStep (exG n (j + 1) (x / 2)) (pw j) (x % 2)
/-- The exponential of x, as the program tells it. -/
def exV (x : Int) : Int := if 137438953472 ≤ x then 0 else exG 37 0 x / 1073741824

theorem pw_bd : ∀ k, k < 37 → 0 ≤ pw k ∧ pw k < 4611686018427387904 := by decide
theorem pw_sq : ∀ k, k < 36 → -4611686018427387904 * 4 ≤ pw k * pw k - pw (k + 1) * 4611686018427387904 ∧ pw k * pw k - pw (k + 1) * 4611686018427387904 ≤ 4611686018427387904 * 4 := by decide
theorem mul_div_bd {l p : Int} (l0 : 0 ≤ l) (l1 : l ≤ 4611686018427387904) (p0 : 0 ≤ p) (p1 : p ≤ 4611686018427387904) :
    0 ≤ l * p / 4611686018427387904 ∧ l * p / 4611686018427387904 ≤ l := by
  have h0 := Int.mul_nonneg l0 p0
  have h1 : l * p ≤ l * 4611686018427387904 := Int.mul_le_mul_of_nonneg_left p1 l0
  generalize l * p = m at *
  omega
theorem exStep_bd {l p b : Int} (l0 : 0 ≤ l) (l1 : l ≤ 4611686018427387904) (p0 : 0 ≤ p) (p1 : p ≤ 4611686018427387904) : 0 ≤ exStep l p b ∧ exStep l p b ≤ l := by
  unfold exStep; split
  · exact mul_div_bd l0 l1 p0 p1
  · omega
theorem pw_bd' (k : Nat) : 0 ≤ pw k ∧ pw k ≤ 4611686018427387904 := by
  by_cases h : k < 37
  · have := pw_bd k h; omega
  · unfold pw; have : pwTab[k]? = none := List.getElem?_eq_none (by simp [pwTab]; omega)
    rw [List.getD_eq_getElem?_getD, this]; decide
theorem exG_bd : ∀ (n j : Nat) (x : Int), 0 ≤ exG n j x ∧ exG n j x ≤ 4611686018427387904
  | 0, _, _ => by unfold exG; omega
  | n + 1, j, x => by
    have h := exG_bd n (j + 1) (x / 2)
    have p := pw_bd' j
    have := @exStep_bd _ _ (x % 2) h.1 h.2 p.1 p.2
    unfold exG; omega

/-! Sums: what is told of a sum is the product of what is told of both, nearly. -/
def Nr (x e : Int) : Prop := -e ≤ x ∧ x ≤ e
theorem Nr.add {x y e f : Int} (h : Nr x e) (k : Nr y f) : Nr (x + y) (e + f) := by unfold Nr at *; omega
theorem Nr.sub {x y e f : Int} (h : Nr x e) (k : Nr y f) : Nr (x - y) (e + f) := by unfold Nr at *; omega
theorem Nr.mul {x y e f : Int} (h : Nr x e) (y0 : 0 ≤ y) (y1 : y ≤ f) : Nr (x * y) (e * f) := by
  obtain ⟨h1, h2⟩ := h
  have e0 : 0 ≤ e := by omega
  have a1 : x * y ≤ e * y := Int.mul_le_mul_of_nonneg_right h2 y0
  have a2 : e * y ≤ e * f := Int.mul_le_mul_of_nonneg_left y1 e0
  have a3 : -e * y ≤ x * y := Int.mul_le_mul_of_nonneg_right h1 y0
  rw [Int.neg_mul] at a3
  constructor <;> omega
theorem Nr.of_eq {x y e f : Int} (h : Nr x e) (k : x = y) (k' : e = f) : Nr y f := by rw [← k, ← k']; exact h
theorem Nr.cancel {x e s : Int} (s0 : 0 < s) (h : Nr (x * s) (e * s)) : Nr x e := by
  obtain ⟨h1, h2⟩ := h
  constructor
  · refine Int.le_of_mul_le_mul_right (a := s) ?_ s0; rw [Int.neg_mul]; exact h1
  · exact Int.le_of_mul_le_mul_right h2 s0
def tt (c p S : Int) : Int := if c = 1 then p else S
/-- the step, in plain letters -/
theorem sum_step {A B G p q S ga gb R r s c v c' E : Int} (S0 : 0 < S) (A0 : 0 ≤ A) (A1 : A ≤ S) (B0 : 0 ≤ B) (B1 : B ≤ S) (p0 : 0 ≤ p) (p1 : p ≤ S)
    (gb0 : 0 ≤ gb) (gb1 : gb ≤ S)
    (ha : Nr (ga * S - A * tt r p S) S) (hb : Nr (gb * S - B * tt s p S) S) (hR : Nr (R * S - G * tt v p S) S)
    (ih : Nr (G * (S * S) - A * B * tt c' q S) (E * (S * S)))
    (ht : Nr (tt c' q S * tt v p S * S - tt r p S * tt s p S * tt c p S) (4 * (S * S))) :
    Nr (R * (S * S) - ga * gb * tt c p S) ((E + 7) * (S * S)) := by
  have t0 : ∀ x, 0 ≤ tt x p S ∧ tt x p S ≤ S := fun x => by unfold tt; split <;> omega
  obtain ⟨r0, r1⟩ := t0 r
  obtain ⟨s0, s1⟩ := t0 s
  obtain ⟨c0, c1⟩ := t0 c
  obtain ⟨v0, v1⟩ := t0 v
  generalize tt r p S = tr at *
  generalize tt s p S = ts at *
  generalize tt c p S = tc at *
  generalize tt v p S = tv at *
  generalize tt c' q S = u at *
  have SS : 0 ≤ S * S := Int.mul_nonneg (by omega) (by omega)
  have SSS : 0 ≤ S * S * S := Int.mul_nonneg SS (by omega)
  have h1 : Nr ((R * S - G * tv) * (S * S * S)) (S * (S * S * S)) := hR.mul SSS (Int.le_refl _)
  have Atr0 : 0 ≤ A * tr := Int.mul_nonneg A0 r0
  have Atr1 : A * tr ≤ S * S := Int.le_trans (Int.mul_le_mul_of_nonneg_right A1 r0) (Int.mul_le_mul_of_nonneg_left r1 (by omega))
  have gS0 : 0 ≤ gb * S := Int.mul_nonneg gb0 (by omega)
  have gS1 : gb * S ≤ S * S := Int.mul_le_mul_of_nonneg_right gb1 (by omega)
  have h2 : Nr ((ga * S - A * tr) * (gb * S) * tc) (S * (S * S) * S) := (ha.mul gS0 gS1).mul c0 c1
  have h3 : Nr ((gb * S - B * ts) * (A * tr) * tc) (S * (S * S) * S) := (hb.mul Atr0 Atr1).mul c0 c1
  have h4 : Nr ((G * (S * S) - A * B * u) * tv * S) (E * (S * S) * S * S) := (ih.mul v0 v1).mul (by omega) (Int.le_refl _)
  have h5 : Nr ((u * tv * S - tr * ts * tc) * A * B) (4 * (S * S) * S * S) := (ht.mul A0 A1).mul B0 B1
  refine Nr.cancel (s := S * S) (Int.mul_pos S0 S0) (((((h1.add h4).add h5).sub h2).sub h3).of_eq ?_ ?_)
  · grind
  · grind

theorem exStep_tt {l p b : Int} : Nr (exStep l p b * 4611686018427387904 - l * tt b p 4611686018427387904) 4611686018427387904 := by
  unfold exStep tt Nr
  split
  · generalize l * p = m; omega
  · omega
theorem tab_cases {p q S r s c : Int} (S0 : 0 ≤ S) (p0 : 0 ≤ p) (p1 : p ≤ S) (hr : r = 0 ∨ r = 1) (hs : s = 0 ∨ s = 1) (hc : c = 0 ∨ c = 1) (h : (r + s + c) / 2 = 1 → Nr (q * S - p * p) (4 * S)) :
    Nr (tt ((r + s + c) / 2) q S * tt ((r + s + c) % 2) p S * S - tt r p S * tt s p S * tt c p S) (4 * (S * S)) := by
  have z0 : 0 ≤ S * S := Int.mul_nonneg S0 S0
  have z : ∀ x, x = 0 → Nr x (4 * (S * S)) := fun x hx => by unfold Nr; omega
  have k : ∀ y, 0 ≤ y → y ≤ S → (r + s + c) / 2 = 1 → Nr ((q * S - p * p) * y) (4 * (S * S)) := fun y y0 y1 h' => ((h h').mul y0 y1).of_eq rfl (by grind)
  have k1 := k S S0 (Int.le_refl _)
  have k2 := k p p0 p1
  clear k h
  rcases hr with rfl | rfl <;> rcases hs with rfl | rfl <;> rcases hc with rfl | rfl
  · exact z _ (by simp [tt])
  · exact z _ (by simp [tt] <;> grind)
  · exact z _ (by simp [tt] <;> grind)
  · exact (k1 (by decide)).of_eq (by simp [tt] <;> grind) rfl
  · exact z _ (by simp [tt] <;> grind)
  · exact (k1 (by decide)).of_eq (by simp [tt] <;> grind) rfl
  · exact (k1 (by decide)).of_eq (by simp [tt] <;> grind) rfl
  · exact (k2 (by decide)).of_eq (by simp [tt] <;> grind) rfl
theorem exG_sum : ∀ (n j : Nat) (a b c : Int), n + j = 37 → 0 ≤ a → 0 ≤ b → (c = 0 ∨ c = 1) → a + b + c < 2 ^ n →
    Nr (exG n j (a + b + c) * (4611686018427387904 * 4611686018427387904) - exG n j a * exG n j b * tt c (pw j) 4611686018427387904) (7 * n * (4611686018427387904 * 4611686018427387904))
  | 0, j, a, b, c, hj, ha, hb, hc, h => by
    obtain rfl : c = 0 := by simp at h; omega
    unfold exG tt Nr; simp
  | n + 1, j, a, b, c, hj, ha, hb, hc, h => by
    have hp2 : (2 : Int) ^ (n + 1) = 2 * 2 ^ n := by rw [Int.pow_succ, Int.mul_comm]
    rw [hp2] at h
    have h1 : (a + b + c) / 2 = a / 2 + b / 2 + (a % 2 + b % 2 + c) / 2 := by omega
    have h2 : (a + b + c) % 2 = (a % 2 + b % 2 + c) % 2 := by omega
    have hc' : (a % 2 + b % 2 + c) / 2 = 0 ∨ (a % 2 + b % 2 + c) / 2 = 1 := by omega
    have ih := exG_sum n (j + 1) (a / 2) (b / 2) ((a % 2 + b % 2 + c) / 2) (by omega) (by omega) (by omega) hc' (by omega)
    have e : ∀ x, exG (n + 1) j x = exStep (exG n (j + 1) (x / 2)) (pw j) (x % 2) := fun _ => rfl
    have bA := exG_bd n (j + 1) (a / 2)
    have bB := exG_bd n (j + 1) (b / 2)
    have bp := pw_bd' j
    have bq := pw_bd' (j + 1)
    have bgb := exG_bd (n + 1) j b
    have htab : (a % 2 + b % 2 + c) / 2 = 1 → Nr (pw (j + 1) * 4611686018427387904 - pw j * pw j) (4 * 4611686018427387904) := by
      intro h'
      have hn : 1 ≤ n := by
        rcases Nat.eq_zero_or_pos n with rfl | h''
        · simp at h; omega
        · exact h''
      have := pw_sq j (by omega)
      unfold Nr; omega
    have sa := @exStep_tt (exG n (j + 1) (a / 2)) (pw j) (a % 2)
    have sb := @exStep_tt (exG n (j + 1) (b / 2)) (pw j) (b % 2)
    have sr := @exStep_tt (exG n (j + 1) (a / 2 + b / 2 + (a % 2 + b % 2 + c) / 2)) (pw j) ((a % 2 + b % 2 + c) % 2)
    rw [← e] at sa sb
    rw [← h1, ← h2, ← e, h1, h2] at sr
    exact (sum_step (E := 7 * n) (c := c) (by decide) bA.1 bA.2 bB.1 bB.2 bp.1 bp.2 bgb.1 bgb.2 sa sb sr ih (tab_cases (by decide) bp.1 bp.2 (by omega) (by omega) hc htab)).of_eq rfl (by simp; omega)
/-- What is told of a sum, and of both, without a carry. -/
theorem exG_sum' {a b : Int} (ha : 0 ≤ a) (hb : 0 ≤ b) (h : a + b < 137438953472) :
    Nr (exG 37 0 (a + b) * 4611686018427387904 - exG 37 0 a * exG 37 0 b) (259 * 4611686018427387904) := by
  have k := exG_sum 37 0 a b 0 rfl ha hb (Or.inl rfl) (by simpa using h)
  rw [Int.add_zero] at k
  refine Nr.cancel (s := 4611686018427387904) (by decide) (k.of_eq ?_ (by decide))
  simp only [tt, if_neg (show ¬ (0 : Int) = 1 by decide)]
  grind
theorem exV_bd (x : Int) : 0 ≤ exV x ∧ exV x ≤ 4294967296 := by
  have := exG_bd 37 0 x
  unfold exV; split <;> omega
theorem exV_falls {a d : Int} (ha : 0 ≤ a) (hd : 0 ≤ d) : exV (a + d) ≤ exV a + 1 := by
  have ba := exV_bd a
  by_cases h : a + d < 137438953472
  · have k := exG_sum' ha hd h
    have b0 := exG_bd 37 0 a
    have b1 := exG_bd 37 0 d
    have b2 := exG_bd 37 0 (a + d)
    unfold exV
    rw [if_neg (by omega), if_neg (by omega)]
    have m := Int.mul_le_mul_of_nonneg_left b1.2 b0.1
    unfold Nr at k
    generalize exG 37 0 a * exG 37 0 d = p at *
    omega
  · have : exV (a + d) = 0 := by unfold exV; rw [if_pos (by omega)]
    omega
theorem exV_sums {a b : Int} (ha : 0 ≤ a) (hb : 0 ≤ b) (h : a + b < 137438953472) :
    exV (a + b) ≤ exV a * exV b / 4294967296 + 256 ∧ exV a * exV b / 4294967296 ≤ exV (a + b) + 256 := by
  have k := exG_sum' ha hb h
  have b0 := exG_bd 37 0 a
  have b1 := exG_bd 37 0 b
  have b2 := exG_bd 37 0 (a + b)
  unfold exV
  rw [if_neg (by omega), if_neg (by omega), if_neg (by omega)]
  generalize exG 37 0 a = P at *
  generalize exG 37 0 b = Q at *
  generalize exG 37 0 (a + b) = R at *
  obtain ⟨x, p, hx, p0, p1⟩ : ∃ x p, P = x * 1073741824 + p ∧ 0 ≤ p ∧ p < 1073741824 := ⟨P / 1073741824, P % 1073741824, by omega, by omega, by omega⟩
  obtain ⟨y, q, hy, q0, q1⟩ : ∃ y q, Q = y * 1073741824 + q ∧ 0 ≤ q ∧ q < 1073741824 := ⟨Q / 1073741824, Q % 1073741824, by omega, by omega, by omega⟩
  have ex : P / 1073741824 = x := by omega
  have ey : Q / 1073741824 = y := by omega
  rw [ex, ey]
  have x0 : 0 ≤ x ∧ x ≤ 4294967296 := by omega
  have y0 : 0 ≤ y ∧ y ≤ 4294967296 := by omega
  have e : P * Q = x * y * 1152921504606846976 + (x * q + y * p) * 1073741824 + p * q := by rw [hx, hy]; grind
  rw [e] at k
  have u1 := Int.mul_nonneg x0.1 q0
  have u2 := Int.mul_nonneg y0.1 p0
  have u3 := Int.mul_nonneg p0 q0
  have u4 : x * q ≤ 4294967296 * 1073741824 := Int.le_trans (Int.mul_le_mul_of_nonneg_right x0.2 q0) (Int.mul_le_mul_of_nonneg_left (by omega) (by decide))
  have u5 : y * p ≤ 4294967296 * 1073741824 := Int.le_trans (Int.mul_le_mul_of_nonneg_right y0.2 p0) (Int.mul_le_mul_of_nonneg_left (by omega) (by decide))
  have u6 : p * q ≤ 1073741824 * 1073741824 := Int.le_trans (Int.mul_le_mul_of_nonneg_right (by omega) q0) (Int.mul_le_mul_of_nonneg_left (by omega) (by decide))
  unfold Nr at k
  generalize x * y = z at *
  generalize x * q = v at *
  generalize y * p = t at *
  generalize p * q = s at *
  omega
/-! The loop of the program, and of the document: from the highest bit down. -/
/-- What is left behind the bits from the highest one (36) on down to k: told from above. -/
def exH (x : Int) : Nat → Int
  | 0 => 4611686018427387904
  | i + 1 => exStep (exH x i) (pw (36 - i)) (x / 2 ^ (36 - i) % 2)
theorem exH_eq (x : Int) : ∀ i, i ≤ 37 → exH x i = exG i (37 - i) (x / 2 ^ (37 - i))
  | 0, _ => rfl
  | i + 1, h => by
    have ih := exH_eq x i (by omega)
    have e : 37 - i = 37 - (i + 1) + 1 := by omega
    rw [exH, ih, exG, show 36 - i = 37 - (i + 1) from by omega, e, Int.pow_succ, Int.ediv_ediv_of_nonneg (Int.pow_nonneg (by decide))]
theorem exH_bd (x : Int) (i : Nat) (h : i ≤ 37) : 0 ≤ exH x i ∧ exH x i ≤ 4611686018427387904 := by rw [exH_eq x i h]; exact exG_bd _ _ _
theorem exH_fin (x : Int) : exH x 37 = exG 37 0 x := by rw [exH_eq x 37 (Nat.le_refl _)]; simp
/-- Where nothing is left of the number, the rest of the bits change nothing. -/
theorem exH_stop (x : Int) {i : Nat} (hi : i ≤ 37) (h : x % 2 ^ (37 - i) = 0) : ∀ k, i + k ≤ 37 → exH x (i + k) = exH x i
  | 0, _ => rfl
  | k + 1, hk => by
    rw [show i + (k + 1) = (i + k) + 1 from rfl, exH, exH_stop x hi h k (by omega)]
    have e : x / 2 ^ (36 - (i + k)) % 2 = 0 := by
      have e1 : (2 : Int) ^ (37 - i) = 2 ^ (36 - (i + k)) * (2 * 2 ^ k) := by rw [← Int.pow_succ', ← Int.pow_add]; congr 1; omega
      have e2 := Int.emod_add_mul_ediv x (2 ^ (37 - i))
      rw [h, e1] at e2
      have p0 : (0 : Int) < 2 ^ (36 - (i + k)) := Int.pow_pos (by decide)
      have e3 : x = (2 ^ k * (x / (2 ^ (36 - (i + k)) * (2 * 2 ^ k))) * 2) * 2 ^ (36 - (i + k)) := by grind
      rw [e3, Int.mul_ediv_cancel _ (by omega), Int.mul_emod_left]
    unfold exStep; rw [e, if_neg (by decide)]
end Go.Proofs.YtejipmkbjmcnaaaDoor
