/- The reference's rounding: by the greatest place that is not above an exact amount. (plain; no program) -/
import Derived.Test.YtjdccbigaahkeaaFl11
namespace Go.Proofs.Ytjdccbigaahkeaa.Fl
set_option linter.unusedSimpArgs false
set_option linter.unusedVariables false

/-- The amount at a place, signed, in units of 2^-1074. -/
def pv (i : Int) : Int := if i < 0 then -(G (-i).toNat : Int) else (G i.toNat : Int)

theorem pv_neg {i : Int} (h : i < 0) : pv i = -(G (-i).toNat : Int) := if_pos h
theorem pv_pos {i : Int} (h : 0 ≤ i) : pv i = (G i.toNat : Int) := if_neg (by omega)
theorem pv_lt {i : Int} (h : i < 0) : pv i < 0 := by
  rw [pv_neg h]
  have := G_pos (r := (-i).toNat) (by omega)
  omega
theorem pv_ge {i : Int} (h : 0 ≤ i) : 0 ≤ pv i := by rw [pv_pos h]; omega

theorem val_bits {i : Int} (h1 : -9218868437227405312 ≤ i) (h2 : i ≤ 9218868437227405312) : val (bitsOf i) = pv i := by
  unfold val pv
  by_cases hi : i < 0
  · have e : bitsOf i = word true (-i).toNat := by unfold bitsOf word; simp [hi]
    rw [e, sgn_word true (by unfold SW; omega), rung_word true (by unfold SW; omega), if_pos hi]; rfl
  · have e : bitsOf i = word false i.toNat := by unfold bitsOf word; simp [hi]
    rw [e, sgn_word false (by unfold SW; omega), rung_word false (by unfold SW; omega), if_neg hi]; rfl

/-- The greatest place that is not above S / D; that of -infinity where none is. -/
def FloorAt (S : Int) (D : Nat) (d : Int) : Prop :=
  -9218868437227405312 ≤ d ∧ d ≤ 9218868437227405311 ∧ (d = -9218868437227405312 ∨ pv d * D ≤ S) ∧ (d = 9218868437227405311 ∨ S < pv (d + 1) * D)

/-- The place that the reference picks. -/
def pick (S : Int) (D : Nat) (d dir : Int) : Int :=
  if (d ≠ -9218868437227405312 ∧ pv d * D = S) ∨ dir < 0 then d
  else if 0 < dir then d + 1
  else if (pv d + pv (d + 1)) * D = 2 * S then (if d % 2 = 0 then d else d + 1)
  else if (pv d + pv (d + 1)) * D ≤ 2 * S then d + 1
  else d

theorem mul_nn {a : Int} {D : Nat} (h : 0 ≤ a) : 0 ≤ a * (D : Int) := Int.mul_nonneg h (by omega)
theorem mul_np {a : Int} {D : Nat} (h : a ≤ 0) : a * (D : Int) ≤ 0 := Int.mul_nonpos_of_nonpos_of_nonneg h (by omega)

theorem pick_pos {S : Int} {D : Nat} {d dir : Int} (h : FloorAt S D d) (hD : 0 < D) (hS : 0 ≤ S) : pick S D d dir = plc S D dir := by
  obtain ⟨h1, h2, h3, h4⟩ := h
  have hd : 0 ≤ d := by
    refine Int.le_of_not_gt fun hn => ?_
    rcases h4 with h4 | h4
    · omega
    · by_cases c : d + 1 < 0
      · have := mul_np (D := D) (Int.le_of_lt (pv_lt c)); omega
      · have : d + 1 = 0 := by omega
        rw [this] at h4
        have : pv 0 = 0 := by decide
        rw [this, Int.zero_mul] at h4; omega
  obtain ⟨r, rfl⟩ := Int.eq_ofNat_of_zero_le hd
  obtain ⟨N, rfl⟩ := Int.eq_ofNat_of_zero_le hS
  have p1 : pv (r : Int) = (G r : Int) := by rw [pv_pos (by omega)]; simp
  have p2 : pv ((r : Int) + 1) = (G (r + 1) : Int) := by
    rw [pv_pos (by omega)]; congr 1
  rw [p1] at h3
  rw [p2] at h4
  have f : flr N D = r := by
    refine flr_eq (by unfold INFR; omega) ?_ ?_
    · rcases h3 with h3 | h3
      · omega
      · exact Int.ofNat_le.1 (by rw [Int.natCast_mul]; exact h3)
    · rcases h4 with h4 | h4
      · left; unfold INFR; omega
      · right; exact Int.ofNat_lt.1 (by rw [Int.natCast_mul]; exact h4)
  unfold pick plc rungOf
  rw [if_neg (show ¬ ((N : Int) < 0) by omega), Int.natAbs_natCast, f, p1, p2]
  have e1 : ((G r : Int) * (D : Int) = (N : Int)) ↔ G r * D = N := by rw [← Int.natCast_mul]; omega
  have e2 : ((G r : Int) + (G (r + 1) : Int)) * (D : Int) = (((G r + G (r + 1)) * D : Nat) : Int) := by simp
  rw [e2]
  simp only [e1]
  generalize (G r + G (r + 1)) * D = X
  generalize G r * D = Y
  clear e1 e2 h3 h4 p1 p2 f
  have : (r : Int) ≠ -9218868437227405312 := by omega
  repeat' split
  all_goals omega

theorem pick_neg {S : Int} {D : Nat} {d dir : Int} (h : FloorAt S D d) (hD : 0 < D) (hS : S < 0) : pick S D d dir = plc S D dir := by
  obtain ⟨h1, h2, h3, h4⟩ := h
  have hd : d < 0 := by
    refine Int.lt_of_not_ge fun hn => ?_
    rcases h3 with h3 | h3
    · omega
    · have := mul_nn (D := D) (pv_ge hn); omega
  obtain ⟨q, hq, rfl⟩ : ∃ q : Nat, 1 ≤ q ∧ d = -(q : Int) := ⟨(-d).toNat, by omega, by omega⟩
  obtain ⟨N, hN, rfl⟩ : ∃ N : Nat, 1 ≤ N ∧ S = -(N : Int) := ⟨(-S).toNat, by omega, by omega⟩
  have p1 : pv (-(q : Int)) = -(G q : Int) := by rw [pv_neg (by omega)]; simp
  have p2 : pv (-(q : Int) + 1) = -(G (q - 1) : Int) := by
    by_cases c : q = 1
    · subst c; decide
    · rw [pv_neg (by omega)]; congr 3; omega
  rw [p1, Int.neg_mul, ← Int.natCast_mul] at h3
  rw [p2, Int.neg_mul, ← Int.natCast_mul] at h4
  have g4 : G (q - 1) * D < N := by rcases h4 with h4 | h4 <;> omega
  have e2 : (-(G q : Int) + -(G (q - 1) : Int)) * (D : Int) = -(((G (q - 1) + G q) * D : Nat) : Int) := by
    rw [← Int.neg_add, Int.neg_mul, Int.add_comm]; simp
  have e1 : -(G q : Int) * (D : Int) = -((G q * D : Nat) : Int) := by rw [Int.neg_mul, ← Int.natCast_mul]
  unfold pick plc rungOf
  rw [if_pos (show (-(N : Int) < 0) by omega), Int.natAbs_neg, Int.natAbs_natCast, p1, p2, e1, e2]
  by_cases c : q ≠ 9218868437227405312 ∧ G q * D = N
  · have f : flr N D = q := by
      refine flr_eq (by unfold INFR; omega) (by omega) (Or.inr ?_)
      rw [← c.2]; exact Nat.mul_lt_mul_of_pos_right (G_succ q) hD
    rw [f, if_pos (by omega), if_pos c.2]
  · have f : flr N D = q - 1 := by
      refine flr_eq (by unfold INFR; omega) (by omega) ?_
      rw [show q - 1 + 1 = q by omega]
      by_cases c2 : q = 9218868437227405312
      · left; exact c2
      · right
        rcases h3 with h3 | h3
        · omega
        · have : G q * D ≠ N := fun hh => c ⟨c2, hh⟩
          omega
    rw [f, show q - 1 + 1 = q by omega]
    generalize (G (q - 1) + G q) * D = X
    generalize G (q - 1) * D = Y at *
    generalize G q * D = Z at *
    clear e1 e2 p1 p2 f h4
    rcases h3 with h3 | h3
    · repeat' split
      all_goals omega
    · repeat' split
      all_goals omega

/-- **The reference's rounding is the exact amount's.** -/
theorem pick_eq {S : Int} {D : Nat} {d dir : Int} (h : FloorAt S D d) (hD : 0 < D) : bitsOf (pick S D d dir) = rnd S D dir := by
  rw [rnd_eq]
  congr 1
  by_cases hS : S < 0
  · exact pick_neg h hD hS
  · exact pick_pos h hD (by omega)

theorem plc_ratio {S T : Int} {D E : Nat} (dir : Int) (hD : 0 < D) (hE : 0 < E) (h : S * E = T * D) : plc S D dir = plc T E dir := by
  have hn : S.natAbs * E = T.natAbs * D := by
    rw [natAbs_scale, natAbs_scale, h]
  have hs : S < 0 ↔ T < 0 := by
    have d0 : (0 : Int) < (D : Int) := by omega
    have e0 : (0 : Int) < (E : Int) := by omega
    constructor
    · intro hh
      have := Int.mul_lt_mul_of_pos_right hh e0
      rw [h, Int.zero_mul] at this
      refine Int.lt_of_not_ge fun h' => ?_
      have := Int.mul_nonneg h' (Int.le_of_lt d0); omega
    · intro hh
      have := Int.mul_lt_mul_of_pos_right hh d0
      rw [← h, Int.zero_mul] at this
      refine Int.lt_of_not_ge fun h' => ?_
      have := Int.mul_nonneg h' (Int.le_of_lt e0); omega
  unfold plc
  rw [rungOf_ratio (-dir) hD hE hn, rungOf_ratio dir hD hE hn]
  by_cases c : S < 0
  · rw [if_pos c, if_pos (hs.1 c)]
  · rw [if_neg c, if_neg (fun hh => c (hs.2 hh))]

theorem rnd_ratio {S T : Int} {D E : Nat} (dir : Int) (hD : 0 < D) (hE : 0 < E) (h : S * E = T * D) : rnd S D dir = rnd T E dir := by
  rw [rnd_eq, rnd_eq, plc_ratio dir hD hE h]
end Go.Proofs.Ytjdccbigaahkeaa.Fl
