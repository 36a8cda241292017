/- Amounts far above, and far below, all floats: where exponents are cut. (plain; no program) -/
import Derived.Test.YtjdccbigaahkeaaFl15
namespace Go.Proofs.Ytjdccbigaahkeaa.Fl
set_option linter.unusedSimpArgs false
set_option linter.unusedVariables false

theorem rung_over {N D : Nat} (dir : Int) (hD : 0 < D) (h : G INFR * D ≤ N) : rungOf N D dir = if dir < 0 then INFR - 1 else INFR := by
  have f := flr_over h
  have e : INFR - 1 + 1 = INFR := by decide
  have g : G (INFR - 1) * D < G INFR * D := Nat.mul_lt_mul_of_pos_right (G_lt (by decide)) hD
  have g2 : (G (INFR - 1) + G INFR) * D = G (INFR - 1) * D + G INFR * D := Nat.add_mul _ _ _
  unfold rungOf
  rw [f, e, g2]
  generalize G (INFR - 1) * D = x at *
  generalize G INFR * D = y at *
  rw [if_neg (by omega)]
  by_cases h1 : dir < 0
  · rw [if_pos h1, if_pos h1]
  · rw [if_neg h1, if_neg h1]
    by_cases h2 : 0 < dir
    · rw [if_pos h2]
    · rw [if_neg h2, if_neg (by omega), if_pos (by omega)]

theorem rung_under {N D : Nat} (dir : Int) (hN : 0 < N) (h : 2 * N < D) : rungOf N D dir = if 0 < dir then 1 else 0 := by
  have g1 : G (0 + 1) = 1 := by decide
  have f : flr N D = 0 := flr_eq (by decide) (by rw [G_zero]; omega) (Or.inr (by rw [g1]; omega))
  unfold rungOf
  rw [f, G_zero, g1]
  rw [if_neg (by omega)]
  by_cases h1 : dir < 0
  · rw [if_pos h1, if_neg (by omega)]
  · rw [if_neg h1]
    by_cases h2 : 0 < dir
    · rw [if_pos h2, if_pos h2]
    · rw [if_neg h2, if_neg h2, if_pos (by omega)]

theorem plc_same {S T : Int} {D E : Nat} (hs : S < 0 ↔ T < 0) (h : ∀ dir, rungOf S.natAbs D dir = rungOf T.natAbs E dir) (dir : Int) : rnd S D dir = rnd T E dir := by
  rw [rnd_eq, rnd_eq]
  unfold plc
  rw [h, h]
  by_cases c : S < 0
  · rw [if_pos c, if_pos (hs.1 c)]
  · rw [if_neg c, if_neg (fun hh => c (hs.2 hh))]

def sgM (neg : Bool) (m : Nat) : Int := if neg then -(m : Int) else (m : Int)

theorem sgM_mul (neg : Bool) (m p : Nat) : sgM neg m * (p : Int) = sgM neg (m * p) := by unfold sgM; cases neg <;> simp [Int.neg_mul]
theorem sgM_abs (neg : Bool) (m : Nat) : (sgM neg m).natAbs = m := by unfold sgM; cases neg <;> simp
theorem sgM_neg (neg : Bool) (m : Nat) : sgM neg m < 0 ↔ neg = true ∧ m ≠ 0 := by unfold sgM; cases neg <;> simp <;> omega

theorem G_INFR : G INFR = pw (1024 + 1074) := by
  have := G_normal' (K := 2046) (m := 0) (by decide)
  rw [show (2046 + 1) * BIN + 0 = INFR by decide, Nat.add_zero] at this
  rw [this, show BIN = pw 52 by rw [pw_eq], ← pw_add]
theorem pw_mono {a b : Nat} (h : a ≤ b) : pw a ≤ pw b := by rw [pw_eq, pw_eq]; exact Nat.pow_le_pow_right (by decide) h

/-- Exponents are cut: to whichever of both bounds. -/
theorem clip_eq (neg : Bool) {m : Nat} (hm : m < pw 64) (e : Int) (dir : Int) :
    rnd (sgM neg m * (pw (min (max e (-4000)) 4000 + 1074).toNat : Nat)) (pw (-(min (max e (-4000)) 4000 + 1074)).toNat) dir = rnd (sgM neg m * (pw (min (max e (-5000)) 5000 + 6075).toNat : Nat)) (2 * pw 5000) dir := by
  have p2 : 2 * pw 5000 = pw 5001 := by rw [show 5001 = 1 + 5000 by rfl, pw_add, pw_eq 1]
  rw [p2, sgM_mul, sgM_mul]
  by_cases h0 : m = 0
  · subst h0
    rw [Nat.zero_mul, Nat.zero_mul]
    refine plc_same Iff.rfl ?_ dir
    intro d
    rw [sgM_abs, rungOf_zero _ (pw_pos _), rungOf_zero _ (pw_pos _)]
  · have hpos : ∀ k, m * pw k ≠ 0 := fun k => by have := Nat.mul_pos (Nat.pos_of_ne_zero h0) (pw_pos k); omega
    refine plc_same ?_ ?_ dir
    · rw [sgM_neg, sgM_neg]; simp [hpos]
    · intro d
      rw [sgM_abs, sgM_abs]
      by_cases c1 : 4000 < e
      · rw [show min (max e (-4000)) 4000 = 4000 by omega]
        have o : ∀ a b : Nat, b + 2098 ≤ a → G INFR * pw b ≤ m * pw a := by
          intro a b h
          rw [G_INFR, ← pw_add]
          have := pw_mono h
          have : pw a ≤ m * pw a := Nat.le_mul_of_pos_left _ (Nat.pos_of_ne_zero h0)
          rw [show 1024 + 1074 + b = b + 2098 by omega]; omega
        rw [rung_over d (pw_pos _) (o _ _ (by omega)), rung_over d (pw_pos _) (o _ _ (by omega))]
      · by_cases c2 : e < -4000
        · rw [show min (max e (-4000)) 4000 = -4000 by omega]
          have u : ∀ a b : Nat, a + 65 ≤ b → 2 * (m * pw a) < pw b := by
            intro a b h
            have h1 := pw_mono h
            have h2 : m * pw a < pw 64 * pw a := Nat.mul_lt_mul_of_pos_right hm (pw_pos _)
            have h3 : pw (a + 65) = 2 * (pw 64 * pw a) := by rw [show a + 65 = 1 + (64 + a) by omega, pw_add, pw_add 64, pw_eq 1]
            omega
          rw [rung_under d (Nat.pos_of_ne_zero (hpos _)) (u _ _ (by omega)), rung_under d (Nat.pos_of_ne_zero (hpos _)) (u _ _ (by omega))]
        · rw [show min (max e (-4000)) 4000 = e by omega, show min (max e (-5000)) 5000 = e by omega]
          refine rungOf_ratio d (pw_pos _) (pw_pos _) ?_
          rw [Nat.mul_assoc, Nat.mul_assoc, ← pw_add, ← pw_add]
          congr 2; omega
end Go.Proofs.Ytjdccbigaahkeaa.Fl
