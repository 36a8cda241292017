/- Exact amounts N / D (in units of 2^-1074) rounded to a rung: down, up, to the nearest with ties to even; Ieee's own rounding is the last of them. (plain; no program) -/
import Derived.Test.YtjdccbigaahkeaaFl1
namespace Go.Proofs.Ytjdccbigaahkeaa.Fl
set_option linter.unusedSimpArgs false
set_option linter.unusedVariables false

/-- The greatest rung up to b that is not above N / D. -/
def flrTo (N D : Nat) : Nat → Nat
  | 0 => 0
  | b + 1 => if G (b + 1) * D ≤ N then b + 1 else flrTo N D b

theorem flrTo_spec (N D : Nat) : ∀ b, flrTo N D b ≤ b ∧ G (flrTo N D b) * D ≤ N ∧ (flrTo N D b = b ∨ N < G (flrTo N D b + 1) * D)
  | 0 => by simp [flrTo, G_zero]
  | b + 1 => by
    unfold flrTo
    split
    · rename_i h; exact ⟨Nat.le_refl _, h, Or.inl rfl⟩
    · rename_i h
      obtain ⟨h1, h2, h3⟩ := flrTo_spec N D b
      refine ⟨by omega, h2, Or.inr ?_⟩
      rcases h3 with h3 | h3
      · rw [h3]; omega
      · exact h3

/-- Below infinity. -/
def flr (N D : Nat) : Nat := flrTo N D (INFR - 1)

theorem flr_spec (N D : Nat) : flr N D < INFR ∧ G (flr N D) * D ≤ N ∧ (flr N D + 1 = INFR ∨ N < G (flr N D + 1) * D) := by
  obtain ⟨h1, h2, h3⟩ := flrTo_spec N D (INFR - 1)
  unfold flr
  generalize flrTo N D (INFR - 1) = r at *
  have : 0 < INFR := by decide
  refine ⟨by omega, h2, ?_⟩
  rcases h3 with h3 | h3
  · left; omega
  · exact Or.inr h3

attribute [irreducible] flr

theorem flr_eq {N D r : Nat} (h1 : r < INFR) (h2 : G r * D ≤ N) (h3 : r + 1 = INFR ∨ N < G (r + 1) * D) : flr N D = r := by
  obtain ⟨k1, k2, k3⟩ := flr_spec N D
  generalize flr N D = q at *
  rcases Nat.lt_trichotomy q r with h | h | h
  · exfalso
    rcases k3 with k3 | k3
    · omega
    · have := Nat.mul_le_mul_right D (G_le (show q + 1 ≤ r by omega)); omega
  · exact h
  · exfalso
    rcases h3 with h3 | h3
    · omega
    · have := Nat.mul_le_mul_right D (G_le (show r + 1 ≤ q by omega)); omega

/-- An exact amount, rounded: dir below 0 down, above 0 up, 0 to the nearest. -/
def rungOf (N D : Nat) (dir : Int) : Nat :=
  if G (flr N D) * D = N then flr N D
  else if dir < 0 then flr N D
  else if 0 < dir then flr N D + 1
  else if 2 * N < (G (flr N D) + G (flr N D + 1)) * D then flr N D
  else if (G (flr N D) + G (flr N D + 1)) * D < 2 * N then flr N D + 1
  else if flr N D % 2 = 0 then flr N D else flr N D + 1

theorem rungOf_le (N D : Nat) (dir : Int) : rungOf N D dir ≤ INFR := by
  have := (flr_spec N D).1
  unfold rungOf
  repeat' split
  all_goals omega

/-- What a number at a scale stands for: k 2^E, k of 53 bits. -/
theorem G_fit {E k : Nat} (hk : k ≤ 2 * BIN) (hE : E = 0 ∨ BIN ≤ k) : G (E * BIN + k) = k * 2 ^ E := by
  unfold G
  by_cases h0 : E * BIN + k < BIN
  · have : E = 0 := by
      rcases hE with h | h
      · exact h
      · exfalso; omega
    subst this
    rw [if_pos h0]; simp
  · rw [if_neg h0]
    by_cases h1 : k = 2 * BIN
    · subst h1
      have e1 : (E * BIN + 2 * BIN) % BIN = 0 := by rw [← Nat.add_mul]; exact Nat.mul_mod_left _ _
      have e2 : (E * BIN + 2 * BIN) / BIN = E + 2 := by rw [← Nat.add_mul]; exact Nat.mul_div_cancel _ (by decide)
      rw [e1, e2, show E + 2 - 1 = E + 1 by omega, Nat.pow_succ]
      generalize 2 ^ E = p
      unfold BIN; omega
    · by_cases h2 : k < BIN
      · have : E = 0 := by
          rcases hE with h | h
          · exact h
          · exfalso; omega
        subst this
        exfalso; omega
      · have e0 : E * BIN + k = (E + 1) * BIN + (k - BIN) := by rw [Nat.add_mul]; omega
        have e1 : (E * BIN + k) % BIN = k - BIN := by rw [e0, Nat.add_comm, Nat.add_mul_mod_self_right]; exact Nat.mod_eq_of_lt (by omega)
        have e2 : (E * BIN + k) / BIN = E + 1 := by
          rw [e0, Nat.add_comm, Nat.add_mul_div_right _ _ (by decide), Nat.div_eq_of_lt (by omega)]; omega
        rw [e1, e2, show BIN + (k - BIN) = k by omega, show E + 1 - 1 = E by omega]

theorem flr_at {N D E k : Nat} (hk : k < 2 * BIN) (hE : E = 0 ∨ BIN ≤ k) (lo : k * 2 ^ E * D ≤ N) (hi : N < (k + 1) * 2 ^ E * D) (hlt : E * BIN + k < INFR) : flr N D = E * BIN + k :=
  flr_eq hlt (by rw [G_fit (by omega) hE]; exact lo) (Or.inr (by rw [Nat.add_assoc, G_fit (by omega) (by omega)]; exact hi))

theorem flr_over {N D : Nat} (h : G INFR * D ≤ N) : flr N D = INFR - 1 := by
  have := Nat.mul_le_mul_right D (G_le (show INFR - 1 ≤ INFR by omega))
  exact flr_eq (by decide) (by omega) (Or.inl (by decide))

/-- Rounding at a scale. -/
theorem rungOf_at {N D E k : Nat} (dir : Int) (hD : 0 < D) (hk : k < 2 * BIN) (hE : E = 0 ∨ BIN ≤ k) (lo : k * 2 ^ E * D ≤ N) (hi : N < (k + 1) * 2 ^ E * D) :
    rungOf N D dir = if INFR ≤ E * BIN + k then (if dir < 0 then INFR - 1 else INFR)
      else E * BIN + (if k * 2 ^ E * D = N then k else if dir < 0 then k else if 0 < dir then k + 1
        else if 2 * N < (2 * k + 1) * 2 ^ E * D then k else if (2 * k + 1) * 2 ^ E * D < 2 * N then k + 1 else if k % 2 = 0 then k else k + 1) := by
  by_cases ho : INFR ≤ E * BIN + k
  · rw [if_pos ho]
    have g1 : G INFR * D ≤ N := by
      have := Nat.mul_le_mul_right D (G_le ho)
      rw [G_fit (by omega) hE] at this
      omega
    have f := flr_over g1
    have g2 : G (INFR - 1) * D < N := by
      have := Nat.mul_lt_mul_of_pos_right (G_lt (show INFR - 1 < INFR by decide)) hD
      omega
    unfold rungOf
    rw [f, show INFR - 1 + 1 = INFR by decide]
    rw [if_neg (by omega)]
    by_cases hd : dir < 0
    · rw [if_pos hd, if_pos hd]
    · rw [if_neg hd, if_neg hd]
      by_cases hd2 : 0 < dir
      · rw [if_pos hd2]
      · rw [if_neg hd2, Nat.add_mul, if_neg (by omega), if_pos (by omega)]
  · rw [if_neg ho]
    have f := flr_at hk hE lo hi (by omega)
    unfold rungOf
    rw [f, G_fit (by omega) hE, Nat.add_assoc, G_fit (by omega) (by omega)]
    have e3 : (k * 2 ^ E + (k + 1) * 2 ^ E) * D = (2 * k + 1) * 2 ^ E * D := by rw [← Nat.add_mul]; congr 2; omega
    rw [e3]
    have e4 : (E * BIN + k) % 2 = k % 2 := by unfold BIN; omega
    rw [e4]
    repeat' split
    all_goals omega

/-! ### Ieee's rounding -/

/-- 'n / 2^drop' to the nearest, ties to even. -/
theorem cut_even (neg : Bool) (n drop : Nat) : Ieee.Toward.even.cut neg n drop =
    if 2 * n < (2 * (n / 2 ^ drop) + 1) * 2 ^ drop then n / 2 ^ drop else if (2 * (n / 2 ^ drop) + 1) * 2 ^ drop < 2 * n then n / 2 ^ drop + 1 else if n / 2 ^ drop % 2 = 0 then n / 2 ^ drop else n / 2 ^ drop + 1 := by
  have small : ∀ d, n.log2 + 2 ≤ d → 2 * n < 2 ^ d := by
    intro d h
    have h1 : n < 2 ^ (n.log2 + 1) := Nat.lt_log2_self
    have h2 : 2 ^ (n.log2 + 2) ≤ 2 ^ d := Nat.pow_le_pow_right (by decide) h
    rw [show n.log2 + 2 = (n.log2 + 1) + 1 by omega, Nat.pow_succ] at h2
    omega
  unfold Ieee.Toward.cut
  simp only [Nat.one_shiftLeft]
  by_cases hd : drop ≤ n.log2 + 2
  · rw [Nat.min_eq_left hd]
    have e := Nat.div_add_mod n (2 ^ drop)
    have l := Nat.mod_lt n (Nat.two_pow_pos drop)
    generalize 2 ^ drop = p at *
    generalize n / p = q at *
    generalize n % p = r at *
    have e5 : (2 * q + 1) * p = 2 * (p * q) + p := by rw [Nat.add_mul, Nat.one_mul, Nat.mul_assoc, Nat.mul_comm q p]
    rw [e5]
    by_cases c1 : p < 2 * r
    · rw [if_neg (by omega), if_pos (by omega)]; simp [c1]
    · by_cases c2 : p = 2 * r
      · rw [if_neg (by omega), if_neg (by omega)]
        by_cases c3 : q % 2 = 0
        · rw [if_pos c3]; simp [c1, c2, c3]
        · have : q % 2 = 1 := by omega
          rw [if_neg c3]; simp [c1, c2, this]
      · rw [if_pos (by omega)]; simp [c1, c2]
  · rw [Nat.min_eq_right (by omega)]
    have s1 := small (n.log2 + 2) (Nat.le_refl _)
    have s2 := small drop (by omega)
    have z1 : n / 2 ^ (n.log2 + 2) = 0 := Nat.div_eq_of_lt (by omega)
    have z2 : n / 2 ^ drop = 0 := Nat.div_eq_of_lt (by omega)
    have z3 : n % 2 ^ (n.log2 + 2) = n := Nat.mod_eq_of_lt (by omega)
    rw [z1, z2, z3, if_pos (by omega)]
    have c1 : ¬ 2 ^ (n.log2 + 2) < 2 * n := by omega
    have c2 : ¬ 2 ^ (n.log2 + 2) = 2 * n := by omega
    simp [c1, c2]

theorem word_eq (neg : Bool) (r : Nat) : FloatKind.f64.format.word neg r = if neg then SW + r else r := by
  unfold Ieee.Format.word; rw [fmt_sw]

theorem fmt_frac : FloatKind.f64.format.fractionBits = 52 := rfl

/-- **Ieee rounds to the nearest rung.** 'place + 1074 = a - b': the amount is mag 2^a / 2^b = N / D. -/
theorem nearest_eq (neg : Bool) (mag a b N D : Nat) (hm : 0 < mag) (hD : 0 < D) (h : N * 2 ^ b = mag * 2 ^ a * D) :
    FloatKind.f64.format.nearest neg mag (-1074 + (a : Int) - (b : Int)) = FloatKind.f64.format.word neg (rungOf N D 0) := by
  unfold Ieee.Format.nearest
  rw [if_neg (by omega)]
  simp only [fmt_frac, fmt_least, fmt_bin, fmt_inf]
  congr 1
  have l1 : 2 ^ mag.log2 ≤ mag := Nat.log2_self_le (by omega)
  have l2 : mag < 2 ^ (mag.log2 + 1) := Nat.lt_log2_self
  generalize hL : mag.log2 = L at *
  -- the scale
  obtain ⟨E, hE⟩ : ∃ E : Nat, max (-1074 + (a : Int) - (b : Int) + (L : Nat) - ((52 : Nat) : Int)) (-1074) = -1074 + (E : Int) ∧ (E : Int) = max ((a : Int) - b + L - 52) 0 := ⟨(max ((a : Int) - b + L - 52) 0).toNat, by omega, by omega⟩
  rw [hE.1]
  have t1 : ((-1074 + (E : Int)) - -1074).toNat = E := by omega
  have t2 : ((-1074 + (a : Int) - (b : Int)) - (-1074 + (E : Int))).toNat = a - (b + E) := by omega
  have t3 : ((-1074 + (E : Int)) - (-1074 + (a : Int) - (b : Int))).toNat = (b + E) - a := by omega
  rw [t1, t2, t3, cut_even, Nat.shiftLeft_eq]
  have hE2 := hE.2
  clear hE t1 t2 t3
  -- n / 2^drop is the amount at the scale
  generalize hu : a - (b + E) = u at *
  generalize hd : (b + E) - a = d at *
  have eud : a + d = b + E + u := by omega
  -- (mag 2^u) 2^E D 2^b = N 2^b 2^d ..
  have key : mag * 2 ^ u * 2 ^ E * D = N * 2 ^ d := by
    have e1 : (mag * 2 ^ u * 2 ^ E * D) * 2 ^ b = (N * 2 ^ d) * 2 ^ b := by
      have : N * 2 ^ d * 2 ^ b = (N * 2 ^ b) * 2 ^ d := by rw [Nat.mul_assoc, Nat.mul_comm (2 ^ d), ← Nat.mul_assoc]
      rw [this, h]
      have e2 : mag * 2 ^ u * 2 ^ E * D * 2 ^ b = mag * D * 2 ^ (u + E + b) := by rw [Nat.pow_add, Nat.pow_add]; simp only [Nat.mul_assoc, Nat.mul_comm, Nat.mul_left_comm]
      have e3 : mag * 2 ^ a * D * 2 ^ d = mag * D * 2 ^ (a + d) := by rw [Nat.pow_add]; simp only [Nat.mul_assoc, Nat.mul_comm, Nat.mul_left_comm]
      rw [e2, e3]; congr 2; omega
    exact Nat.eq_of_mul_eq_mul_right (Nat.two_pow_pos b) e1
  have pd := Nat.two_pow_pos d
  generalize hn : mag * 2 ^ u = n at *
  -- n / 2^d < 2^53; and 2^52 or more, or E = 0
  have hdu : d = 0 ∨ u = 0 := by omega
  have up : n < 2 ^ 53 * 2 ^ d := by
    rw [← hn, ← Nat.pow_add]
    have : mag * 2 ^ u < 2 ^ (L + 1) * 2 ^ u := Nat.mul_lt_mul_of_pos_right l2 (Nat.two_pow_pos _)
    rw [← Nat.pow_add] at this
    exact Nat.lt_of_lt_of_le this (Nat.pow_le_pow_right (by decide) (by omega))
  have dn : E = 0 ∨ 2 ^ 52 * 2 ^ d ≤ n := by
    by_cases h0 : E = 0
    · exact Or.inl h0
    · right
      rw [← hn, ← Nat.pow_add]
      have : 2 ^ L * 2 ^ u ≤ mag * 2 ^ u := Nat.mul_le_mul_right _ l1
      rw [← Nat.pow_add] at this
      exact Nat.le_trans (Nat.pow_le_pow_right (by decide) (by omega)) this
  have kn := Nat.div_add_mod n (2 ^ d)
  have kl := Nat.mod_lt n pd
  generalize hk : n / 2 ^ d = k at *
  have klo : k * 2 ^ d ≤ n := by rw [Nat.mul_comm]; omega
  have khi : n < (k + 1) * 2 ^ d := by rw [Nat.add_mul, Nat.mul_comm k]; omega
  have k53 : k < 2 * BIN := by
    have : k * 2 ^ d < 2 ^ 53 * 2 ^ d := by omega
    have := Nat.lt_of_mul_lt_mul_right this
    unfold BIN; omega
  have k52 : E = 0 ∨ BIN ≤ k := by
    rcases dn with h0 | h0
    · exact Or.inl h0
    · right
      rw [← hk, Nat.le_div_iff_mul_le pd]
      unfold BIN
      exact h0
  have p2E := Nat.two_pow_pos E
  -- inequalities between n and 2^d are those between N and 2^E D
  have tr : ∀ c m : Nat, (c * 2 ^ d ≤ m * n) ↔ c * 2 ^ E * D ≤ m * N := by
    intro c m
    have e1 : m * n * (2 ^ E * D) = m * N * 2 ^ d := by
      have : m * n * (2 ^ E * D) = m * (n * 2 ^ E * D) := by simp only [Nat.mul_assoc]
      rw [this, key]; simp only [Nat.mul_assoc]
    have e2 : c * 2 ^ d * (2 ^ E * D) = c * 2 ^ E * D * 2 ^ d := by simp only [Nat.mul_assoc, Nat.mul_comm, Nat.mul_left_comm]
    constructor
    · intro hh
      have := Nat.mul_le_mul_right (2 ^ E * D) hh
      rw [e1, e2] at this
      exact Nat.le_of_mul_le_mul_right this pd
    · intro hh
      have := Nat.mul_le_mul_right (2 ^ d) hh
      rw [← e1, ← e2] at this
      exact Nat.le_of_mul_le_mul_right this (Nat.mul_pos p2E hD)
  have tlo := (tr k 1).1 (by omega)
  have thi : N < (k + 1) * 2 ^ E * D := by
    have := (tr (k + 1) 1)
    omega
  rw [rungOf_at 0 hD k53 k52 (by omega) thi]
  have c1 := tr (2 * k + 1) 2
  have c2 : (2 * k + 1) * 2 ^ d = 2 * n ↔ (2 * k + 1) * 2 ^ E * D = 2 * N := by
    have e1 : 2 * n * (2 ^ E * D) = 2 * N * 2 ^ d := by
      have : 2 * n * (2 ^ E * D) = 2 * (n * 2 ^ E * D) := by simp only [Nat.mul_assoc]
      rw [this, key]; simp only [Nat.mul_assoc]
    have e2 : (2 * k + 1) * 2 ^ d * (2 ^ E * D) = (2 * k + 1) * 2 ^ E * D * 2 ^ d := by simp only [Nat.mul_assoc, Nat.mul_comm, Nat.mul_left_comm]
    constructor
    · intro hh
      have this : (2 * k + 1) * 2 ^ d * (2 ^ E * D) = 2 * n * (2 ^ E * D) := by rw [hh]
      rw [e1, e2] at this
      exact Nat.eq_of_mul_eq_mul_right pd this
    · intro hh
      have this : (2 * k + 1) * 2 ^ E * D * 2 ^ d = 2 * N * 2 ^ d := by rw [hh]
      rw [← e1, ← e2] at this
      exact Nat.eq_of_mul_eq_mul_right (Nat.mul_pos p2E hD) this
  have c3 : k * 2 ^ E * D = N → 2 * n < (2 * k + 1) * 2 ^ d := by
    intro hh
    have := tr k 1
    have e6 : k * 2 ^ d = n := by
      have e7 : n * (2 ^ E * D) = k * 2 ^ d * (2 ^ E * D) := by
        have : n * (2 ^ E * D) = n * 2 ^ E * D := by simp only [Nat.mul_assoc]
        rw [this, key, ← hh]; simp only [Nat.mul_assoc, Nat.mul_comm, Nat.mul_left_comm]
      exact (Nat.eq_of_mul_eq_mul_right (Nat.mul_pos p2E hD) e7).symm
    rw [Nat.add_mul, Nat.mul_assoc, e6]; omega
  generalize (2 * k + 1) * 2 ^ E * D = W at *
  generalize (2 * k + 1) * 2 ^ d = V at *
  generalize k * 2 ^ E * D = U at *
  have hbin : BIN < INFR := by decide
  by_cases ho : INFR ≤ E * BIN + k
  · rw [if_pos ho, if_neg (show ¬ ((0 : Int) < 0) by omega), Nat.min_eq_right]
    repeat' split
    all_goals omega
  · rw [if_neg ho]
    have em : ∀ j, j ≤ k + 1 → min (E * BIN + j) INFR = E * BIN + j := fun j hj => Nat.min_eq_left (by omega)
    rw [em _ (by repeat' split
                 all_goals omega)]
    congr 1
    by_cases hx : U = N
    · rw [if_pos hx, if_pos (c3 hx)]
    · rw [if_neg hx, if_neg (show ¬ ((0 : Int) < 0) by omega), if_neg (show ¬ ((0 : Int) < 0) by omega)]
      repeat' split
      all_goals omega

end Go.Proofs.Ytjdccbigaahkeaa.Fl
