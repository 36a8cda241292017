/- Products of floats, as the machine makes them; an exact amount by its ratio alone. (plain; no program) -/
import Derived.Test.YtjdccbigaahkeaaFl4
namespace Go.Proofs.Ytjdccbigaahkeaa.Fl
set_option linter.unusedSimpArgs false
set_option linter.unusedVariables false

theorem flr_scale (N D c : Nat) (hc : 0 < c) : flr (N * c) (D * c) = flr N D := by
  obtain ⟨h1, h2, h3⟩ := flr_spec N D
  refine flr_eq h1 ?_ ?_
  · rw [← Nat.mul_assoc]; exact Nat.mul_le_mul_right c h2
  · rcases h3 with h3 | h3
    · exact Or.inl h3
    · right; rw [← Nat.mul_assoc]; exact Nat.mul_lt_mul_of_pos_right h3 hc

theorem rungOf_scale (N D c : Nat) (dir : Int) (hc : 0 < c) : rungOf (N * c) (D * c) dir = rungOf N D dir := by
  unfold rungOf
  rw [flr_scale N D c hc]
  have e1 : (G (flr N D) * (D * c) = N * c) ↔ (G (flr N D) * D = N) := by
    rw [← Nat.mul_assoc]
    exact ⟨fun h => Nat.eq_of_mul_eq_mul_right hc h, fun h => by rw [h]⟩
  have e2 : (2 * (N * c) < (G (flr N D) + G (flr N D + 1)) * (D * c)) ↔ (2 * N < (G (flr N D) + G (flr N D + 1)) * D) := by
    rw [← Nat.mul_assoc, ← Nat.mul_assoc]
    exact Nat.mul_lt_mul_right hc
  have e3 : ((G (flr N D) + G (flr N D + 1)) * (D * c) < 2 * (N * c)) ↔ ((G (flr N D) + G (flr N D + 1)) * D < 2 * N) := by
    rw [← Nat.mul_assoc, ← Nat.mul_assoc]
    exact Nat.mul_lt_mul_right hc
  simp only [e1, e2, e3]

theorem rungOf_ratio {N D N' D' : Nat} (dir : Int) (hD : 0 < D) (hD' : 0 < D') (h : N * D' = N' * D) : rungOf N D dir = rungOf N' D' dir := by
  rw [← rungOf_scale N D D' dir hD', ← rungOf_scale N' D' D dir hD, h, Nat.mul_comm D' D]

/-- 2^n for the n of the least place. -/
def pw (n : Nat) : Nat := 2 ^ n
theorem pw_pos (n : Nat) : 0 < pw n := Nat.two_pow_pos n
theorem pw_add (m n : Nat) : pw (m + n) = pw m * pw n := Nat.pow_add 2 m n
theorem pw_eq (n : Nat) : pw n = 2 ^ n := rfl
attribute [irreducible] pw

theorem product_num (s t : Bool) (r q : Nat) :
    (Ieee.Datum.number s (mag r) (-1074 + (exn r : Nat))).product (.number t (mag q) (-1074 + (exn q : Nat))) =
      some (.number (s ^^ t) (mag r * mag q) (-1074 + ((exn r + exn q : Nat) : Int) - ((1074 : Nat) : Int))) := by
  unfold Ieee.Datum.product
  simp only []
  congr 2
  omega

/-- **A product of finite floats.** -/
theorem fmul_eq {a b : Nat} (ha : rung a < INFR) (hb : rung b < INFR) : FloatKind.f64.format.mul a b = some (word (sgn a ^^ sgn b) (rungOf (G (rung a) * G (rung b)) (pw 1074) 0)) := by
  unfold Ieee.Format.mul
  rw [read_eq, read_eq, if_pos ha, if_pos hb, product_num]
  simp only [Option.map_some]
  congr 1
  unfold Ieee.Format.write
  simp only []
  generalize 1074 = t
  refine nearest_all _ _ _ _ _ _ (pw_pos _) ?_
  rw [G_eq, G_eq, Nat.pow_add, pw_eq]
  simp only [Nat.mul_assoc, Nat.mul_comm, Nat.mul_left_comm]

theorem fop_mul {a b : Nat} (w : World) (ha : rung a < INFR) (hb : rung b < INFR) : fop .mul a b w = word (sgn a ^^ sgn b) (rungOf (G (rung a) * G (rung b)) (pw 1074) 0) := fop_some w (fmul_eq ha hb)
theorem fop_add {a b : Nat} (w : World) (ha : rung a < INFR) (hb : rung b < INFR) : fop .add a b w = word (sumNeg a b) (rungOf (val a + val b).natAbs 1 0) := fop_some w (fadd_eq ha hb)

/-- A normal float by its parts. -/
theorem G_normal {K m : Nat} (hm : m < BIN) : G ((K + 1) * BIN + m) = (BIN + m) * 2 ^ K := by
  have e : (K + 1) * BIN + m = K * BIN + (BIN + m) := by rw [Nat.add_mul, Nat.one_mul, Nat.add_assoc]
  rw [e]
  exact G_fit (by omega) (Or.inr (Nat.le_add_right _ _))

theorem G_normal' {K m : Nat} (hm : m < BIN) : G ((K + 1) * BIN + m) = (BIN + m) * pw K := by rw [pw_eq]; exact G_normal hm

end Go.Proofs.Ytjdccbigaahkeaa.Fl
