/- Plain: halves, greater and smaller ones, rungs in order. -/
import Derived.Test.YtjdccbigaahkeaaFlE
set_option linter.unusedSimpArgs false
set_option linter.unusedVariables false
namespace Go.Proofs.Ytjdccbigaahkeaa.Fl
open Go

theorem rungOf_le_of {N D r : Nat} (dir : Int) (hD : 0 < D) (hr : r < INFR) (h : N ≤ G r * D) : rungOf N D dir ≤ r := by
  obtain ⟨f1, f2, f3⟩ := flr_spec N D
  have hk : flr N D ≤ r := by
    apply Nat.le_of_not_lt
    intro hlt
    have := Nat.mul_lt_mul_of_pos_right (G_lt hlt) hD
    omega
  rcases Nat.lt_or_eq_of_le hk with h1 | h1
  · unfold rungOf; repeat' split
    all_goals omega
  · unfold rungOf
    rw [h1] at f2
    rw [if_pos (by rw [h1]; omega)]
    exact hk

theorem mono_same {N M D : Nat} (dir : Int) (hD : 0 < D) (h : N ≤ M) : rungOf N D dir ≤ rungOf M D dir := by
  obtain ⟨f1, f2, f3⟩ := flr_spec N D
  obtain ⟨g1, g2, g3⟩ := flr_spec M D
  have hk : flr N D ≤ flr M D := by
    apply Nat.le_of_not_lt
    intro hlt
    rcases g3 with g3 | g3
    · omega
    · have := Nat.mul_le_mul_right D (G_le (show flr M D + 1 ≤ flr N D from hlt))
      omega
  unfold rungOf
  rcases Nat.lt_or_eq_of_le hk with h1 | h1
  · generalize flr N D = k at *
    generalize flr M D = l at *
    repeat' split
    all_goals omega
  · rw [← h1] at g1 g2 g3 ⊢
    generalize flr N D = k at *
    generalize (G k + G (k + 1)) * D = s at *
    generalize G k * D = t at *
    repeat' split
    all_goals omega

/-- **Rounding keeps the order.** -/
theorem rungOf_mono {N D M E : Nat} (dir : Int) (hD : 0 < D) (hE : 0 < E) (h : N * E ≤ M * D) : rungOf N D dir ≤ rungOf M E dir := by
  rw [← rungOf_scale N D E dir hE, ← rungOf_scale M E D dir hD, Nat.mul_comm E D]
  exact mono_same dir (Nat.mul_pos hD hE) h

theorem plc_mono {S T : Int} {D E : Nat} (dir : Int) (hD : 0 < D) (hE : 0 < E) (h : S * (E : Int) ≤ T * (D : Int)) : plc S D dir ≤ plc T E dir := by
  unfold plc
  by_cases hS : S < 0
  · rw [if_pos hS]
    by_cases hT : T < 0
    · rw [if_pos hT]
      have : rungOf T.natAbs E (-dir) ≤ rungOf S.natAbs D (-dir) := by
        refine rungOf_mono _ hE hD ?_
        have e1 : ((T.natAbs * D : Nat) : Int) = -(T * (D : Int)) := by
          rw [Int.natCast_mul, Int.ofNat_natAbs_of_nonpos (by omega), Int.neg_mul]
        have e2 : ((S.natAbs * E : Nat) : Int) = -(S * (E : Int)) := by
          rw [Int.natCast_mul, Int.ofNat_natAbs_of_nonpos (by omega), Int.neg_mul]
        omega
      omega
    · rw [if_neg hT]; omega
  · have hT : ¬ T < 0 := by
      intro hT
      have h1 : 0 ≤ S * (E : Int) := Int.mul_nonneg (by omega) (by omega)
      have h2 : T * (D : Int) < 0 := Int.mul_neg_of_neg_of_pos hT (by omega)
      omega
    rw [if_neg hS, if_neg hT]
    have : rungOf S.natAbs D dir ≤ rungOf T.natAbs E dir := by
      refine rungOf_mono _ hD hE ?_
      have e1 : ((T.natAbs * D : Nat) : Int) = T * (D : Int) := by
        rw [Int.natCast_mul, Int.natAbs_of_nonneg (by omega)]
      have e2 : ((S.natAbs * E : Nat) : Int) = S * (E : Int) := by
        rw [Int.natCast_mul, Int.natAbs_of_nonneg (by omega)]
      omega
    omega

theorem val_pv (x : Nat) : val x = pv (idx x) := by
  unfold val idx
  cases sgn x
  · simp only [Bool.false_eq_true, if_false]
    rw [pv_pos (by omega)]; simp
  · simp only [if_true]
    by_cases h : rung x = 0
    · rw [h]; rfl
    · rw [pv_neg (by omega)]; simp

theorem pv_le {i j : Int} : pv i ≤ pv j ↔ i ≤ j := by
  by_cases hi : i < 0
  · by_cases hj : j < 0
    · rw [pv_neg hi, pv_neg hj]
      have := @G_le_iff (-j).toNat (-i).toNat
      omega
    · have := pv_lt hi
      have := pv_ge (show 0 ≤ j by omega)
      omega
  · by_cases hj : j < 0
    · have := pv_lt hj
      have := pv_ge (show 0 ≤ i by omega)
      omega
    · rw [pv_pos (by omega), pv_pos (by omega)]
      have := @G_le_iff i.toNat j.toNat
      omega
theorem val_le {a b : Nat} : val a ≤ val b ↔ idx a ≤ idx b := by rw [val_pv, val_pv, pv_le]

/-! ### Halves -/

theorem G_half : G 4602678819172646912 * 2 = pw 1074 := by
  have h := G_normal' (K := 1021) (m := 0) (by decide)
  rw [show (1021 + 1) * BIN + 0 = 4602678819172646912 by decide] at h
  rw [h, show BIN + 0 = pw 52 from (pw_eq 52).symm, ← pw_add, show (1074 : Nat) = 52 + 1021 + 1 from rfl, pw_add (52 + 1021) 1]
  rw [pw_eq 1]

theorem quot_two (s : Bool) (m : Nat) (i : Int) (hm : m < 9007199254740992) :
    ∃ k : Nat, 54 ≤ k ∧ (Ieee.Datum.number s m i).quotient 54 (.number false 4503599627370496 (-51)) = some (.number s (2 * (m * 2 ^ (k - 52))) (i + 51 - (k : Int) - 1)) := by
  have hl : m.log2 ≤ 52 := by
    rcases Nat.eq_zero_or_pos m with h | h
    · subst h; decide
    · have := (Nat.log2_lt (by omega : m ≠ 0) (k := 53)).2 (by omega)
      omega
  refine ⟨54 + 52 - m.log2, by omega, ?_⟩
  unfold Ieee.Datum.quotient
  simp only [Bool.xor_false, show Nat.log2 4503599627370496 = 52 by decide]
  rw [if_neg (by decide)]
  have e : m <<< (54 + 52 - m.log2) = m * 2 ^ (54 + 52 - m.log2 - 52) * 4503599627370496 := by
    rw [Nat.shiftLeft_eq, Nat.mul_assoc]
    congr 1
    rw [show (4503599627370496 : Nat) = 2 ^ 52 by decide, ← Nat.pow_add]
    congr 1; omega
  rw [e, Nat.mul_mod_left, Nat.mul_div_cancel _ (by decide)]
  simp

/-- **Half of a finite float**, by the machine. -/
theorem fdiv_two {a : Nat} (ha : rung a < INFR) : floatBits .quo .f64 a 4611686018427387904 = some (word (sgn a) (rungOf (G (rung a)) 2 0)) := by
  show FloatKind.f64.format.div a 4611686018427387904 = _
  unfold Ieee.Format.div
  rw [read_eq, read_eq, if_pos ha, if_pos (by decide), fmt_frac]
  have hm : mag (rung a) < 9007199254740992 := by unfold mag BIN; split <;> omega
  obtain ⟨k, hk, e⟩ := quot_two (sgn a) (mag (rung a)) (-1074 + (exn (rung a) : Nat)) hm
  rw [show sgn 4611686018427387904 = false by decide, show mag (rung 4611686018427387904) = 4503599627370496 by decide, show (-1074 + ((exn (rung 4611686018427387904) : Nat) : Int)) = -51 by decide]
  rw [e]
  simp only [Option.map_some]
  congr 1
  unfold Ieee.Format.write
  simp only []
  rw [show (-1074 + ((exn (rung a) : Nat) : Int) + 51 - (k : Int) - 1) = -1074 + ((exn (rung a) : Nat) : Int) - ((k - 50 + 1074 - 1074 : Nat) : Int) by omega]
  refine nearest_all _ _ _ _ _ _ (by decide) ?_
  rw [G_eq, show k - 50 + 1074 - 1074 = k - 52 + 2 by omega, Nat.pow_add]
  generalize 2 ^ (k - 52) = u
  generalize 2 ^ exn (rung a) = v
  generalize mag (rung a) = m
  rw [show (2 : Nat) ^ 2 = 4 from rfl]
  have : m * v * (u * 4) = 2 * (m * u) * v * 2 := by
    rw [show u * 4 = u * (2 * 2) from rfl]
    ac_rfl
  exact this

/-- The half of a finite float. -/
def halfF (a : Nat) : Nat := word (sgn a) (rungOf (G (rung a)) 2 0)

theorem half_rung {a : Nat} (ha : rung a < INFR) : rungOf (G (rung a)) 2 0 < INFR := by
  have := rungOf_le_of (N := G (rung a)) (D := 2) 0 (by decide) ha (by omega)
  omega
theorem half_idx {a : Nat} (ha : rung a < INFR) : idx (halfF a) = plc (val a) 2 0 := by
  unfold halfF
  have h := half_rung ha
  rw [idx_word _ (by unfold INFR at h; unfold SW; omega)]
  unfold plc
  rw [val_abs]
  by_cases h0 : rung a = 0
  · rw [h0, G_zero, rungOf_zero 2 (by decide) 0, rungOf_zero 2 (by decide) (-0)]; simp
  · have := val_neg a h0
    cases hs : sgn a
    · rw [hs] at this
      rw [if_neg (by simp), if_neg (by simpa using this)]
    · rw [if_pos rfl, if_pos (this.2 hs)]; rfl
theorem half_num {a : Nat} (ha : rung a < INFR) : rung (halfF a) < INFR := by
  have h := half_rung ha
  unfold halfF
  rw [rung_word _ (by unfold INFR at h; unfold SW; omega)]
  exact h

theorem val_half : val 4602678819172646912 * 2 = (pw 1074 : Nat) := by
  have e : val 4602678819172646912 = (G 4602678819172646912 : Nat) := by
    unfold val
    rw [show sgn 4602678819172646912 = false by decide, show rung 4602678819172646912 = 4602678819172646912 by decide]; rfl
  rw [e, ← G_half]; omega

theorem mulS_half {a : Nat} (ha : rung a < INFR) : idx (mulS a 4602678819172646912 0) = plc (val a) 2 0 ∧ nan (mulS a 4602678819172646912 0) = false := by
  have hn : nan a = false := nan_false.2 (by omega)
  unfold mulS
  rw [hn, show nan 4602678819172646912 = false by decide]
  simp only [Bool.or_self, Bool.false_eq_true, if_false]
  by_cases h0 : rung a = 0
  · rw [if_pos (Or.inl h0)]
    have : val a = 0 := (val_eq_zero a).2 h0
    rw [this]
    refine ⟨?_, by decide⟩
    unfold plc
    rw [if_neg (by omega)]
    rw [show (0 : Int).natAbs = 0 from rfl, rungOf_zero 2 (by decide) 0]; rfl
  · rw [if_neg (by rintro (h | h); exact h0 h; exact absurd h (by decide)), finB_rung.2 ha, show finB 4602678819172646912 = true by decide]
    simp only [Bool.and_self, if_true]
    rw [rnd_eq]
    have l := plc_le (val a * val 4602678819172646912) (pw 1074) 0
    have b := nan_bits l.1 l.2
    refine ⟨?_, b.1⟩
    rw [b.2.1]
    refine plc_ratio _ (pw_pos _) (by decide) ?_
    rw [← val_half, Int.mul_assoc]
    rfl

/-- The machine's own sum, by places. -/
theorem sum_idx {a b : Nat} (ha : rung a < INFR) (hb : rung b < INFR) : idx (word (sumNeg a b) (rungOf (val a + val b).natAbs 1 0)) = plc (val a + val b) 1 0 ∧ nan (word (sumNeg a b) (rungOf (val a + val b).natAbs 1 0)) = false := by
  have l := rungOf_le (val a + val b).natAbs 1 0
  refine ⟨?_, nan_word _ l⟩
  rw [idx_word _ (by unfold INFR at l; unfold SW; omega)]
  unfold sumNeg plc
  by_cases h : val a + val b = 0
  · rw [h]
    simp [rungOf_zero 1 (by decide) 0]
  · rw [if_neg h]
    by_cases h2 : val a + val b < 0
    · rw [if_pos (by simpa using h2), if_pos h2]; rfl
    · rw [if_neg (by simpa using h2), if_neg h2]

/-! ### Greater and smaller ones, whatever they are -/

def decNeg (x : Nat) : Bool := (FloatKind.f64.decode x).neg
def maxG (a b : Nat) : Nat := if flt a b then b else if flt b a then a else if decNeg a then b else a
def minG (a b : Nat) : Nat := if flt b a then b else if flt a b then a else if decNeg a then a else b
theorem run_max_g {P : Program} (w : World) (ts : Array TypeId) (t : TypeId) (a b : Nat) (ha : nan a = false) (hb : nan b = false) :
    (Builtin.max_ ts t #[.float .f64 a, .float .f64 b]).run P w = .ok (.float .f64 (maxG a b)) w := by
  have o := order_eq a b
  rw [ha, hb] at o
  unfold maxG flt
  rw [ha, hb]
  simp only [compare, compareOfLessAndEq, Bool.false_or, Bool.or_self, Bool.false_eq_true, if_false] at o
  by_cases h1 : idx a < idx b
  · rw [if_pos h1] at o
    simp [Builtin.max_, Builtin.max2, o, h1]
  · by_cases h2 : idx a = idx b
    · rw [if_neg h1, if_pos h2] at o
      have h3 : ¬ idx b < idx a := by omega
      cases hd : (FloatKind.f64.decode a).neg <;> simp [Builtin.max_, Builtin.max2, o, h1, h3, decNeg, hd]
    · rw [if_neg h1, if_neg h2] at o
      have h3 : idx b < idx a := by omega
      simp [Builtin.max_, Builtin.max2, o, h1, h3]
theorem run_min_g {P : Program} (w : World) (ts : Array TypeId) (t : TypeId) (a b : Nat) (ha : nan a = false) (hb : nan b = false) :
    (Builtin.min_ ts t #[.float .f64 a, .float .f64 b]).run P w = .ok (.float .f64 (minG a b)) w := by
  have o := order_eq a b
  rw [ha, hb] at o
  unfold minG flt
  rw [ha, hb]
  simp only [compare, compareOfLessAndEq, Bool.false_or, Bool.or_self, Bool.false_eq_true, if_false] at o
  by_cases h1 : idx a < idx b
  · rw [if_pos h1] at o
    have h3 : ¬ idx b < idx a := by omega
    simp [Builtin.min_, Builtin.min2, o, h1, h3]
  · by_cases h2 : idx a = idx b
    · rw [if_neg h1, if_pos h2] at o
      have h3 : ¬ idx b < idx a := by omega
      cases hd : (FloatKind.f64.decode a).neg <;> simp [Builtin.min_, Builtin.min2, o, h1, h3, decNeg, hd]
    · rw [if_neg h1, if_neg h2] at o
      have h3 : idx b < idx a := by omega
      simp [Builtin.min_, Builtin.min2, o, h1, h3]
theorem maxG_or (a b : Nat) : maxG a b = a ∨ maxG a b = b := by
  unfold maxG
  split
  · exact Or.inr rfl
  · split
    · exact Or.inl rfl
    · split
      · exact Or.inr rfl
      · exact Or.inl rfl
theorem minG_or (a b : Nat) : minG a b = a ∨ minG a b = b := by
  unfold minG
  split
  · exact Or.inr rfl
  · split
    · exact Or.inl rfl
    · split
      · exact Or.inl rfl
      · exact Or.inr rfl
theorem maxG_idx {a b : Nat} (ha : nan a = false) (hb : nan b = false) : idx (maxG a b) = max (idx a) (idx b) := by
  unfold maxG flt
  rw [ha, hb]
  simp only [Bool.not_false, Bool.true_and, decide_eq_true_eq]
  repeat' split
  all_goals omega
theorem minG_idx {a b : Nat} (ha : nan a = false) (hb : nan b = false) : idx (minG a b) = min (idx a) (idx b) := by
  unfold minG flt
  rw [ha, hb]
  simp only [Bool.not_false, Bool.true_and, decide_eq_true_eq]
  repeat' split
  all_goals omega
theorem maxG_nan {a b : Nat} (ha : nan a = false) (hb : nan b = false) : nan (maxG a b) = false := by rcases maxG_or a b with h | h <;> rw [h] <;> assumption
theorem minG_nan {a b : Nat} (ha : nan a = false) (hb : nan b = false) : nan (minG a b) = false := by rcases minG_or a b with h | h <;> rw [h] <;> assumption
theorem maxG_lt {a b : Nat} (ha : a < 18446744073709551616) (hb : b < 18446744073709551616) : maxG a b < 18446744073709551616 := by rcases maxG_or a b with h | h <;> rw [h] <;> assumption
theorem minG_lt {a b : Nat} (ha : a < 18446744073709551616) (hb : b < 18446744073709551616) : minG a b < 18446744073709551616 := by rcases minG_or a b with h | h <;> rw [h] <;> assumption
end Go.Proofs.Ytjdccbigaahkeaa.Fl
