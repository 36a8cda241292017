/- Plain: quotients in order. -/
import Derived.Test.YtjdccbigaahkeaaFlF
set_option linter.unusedSimpArgs false
set_option linter.unusedVariables false
namespace Go.Proofs.Ytjdccbigaahkeaa.Fl
open Go

/-- A quotient's place, by a divisor above nought. -/
theorem div_pos {p q : Nat} (dir : Int) (np : nan p = false) (nq : nan q = false) (hq : 0 < idx q) :
    (finB p = true → finB q = true → nan (divS p q dir) = false ∧ idx (divS p q dir) = plc (val p * (pw 1074 : Nat)) (G (rung q)) dir) ∧
    (finB p = true → finB q = false → divS p q dir = 0) ∧
    (finB p = false → finB q = true → divS p q dir = infW (sgn p)) ∧
    (finB p = false → finB q = false → nan (divS p q dir) = true) := by
  have hs : sgn q = false := by
    unfold idx at hq
    cases h : sgn q
    · rfl
    · rw [h] at hq; simp at hq; omega
  have hr : rung q ≠ 0 := by
    intro h0
    have := (idx_zero_iff q).2 h0
    omega
  unfold divS
  rw [np, nq, if_neg (by simp), if_neg hr, hs]
  refine ⟨fun h1 h2 => ?_, fun h1 h2 => ?_, fun h1 h2 => ?_, fun h1 h2 => ?_⟩
  · rw [h1, h2]
    simp only [Bool.and_self, if_true, Bool.false_eq_true, if_false, Int.mul_one]
    rw [rnd_eq]
    have b := nan_bits (plc_le (val p * (pw 1074 : Nat)) (G (rung q)) dir).1 (plc_le (val p * (pw 1074 : Nat)) (G (rung q)) dir).2
    exact ⟨b.1, b.2.1⟩
  · rw [h1, h2]; simp
  · rw [h1, h2]; simp
  · rw [h1, h2]; simp [nan_QN]

theorem idx_inf_of {p : Nat} (np : nan p = false) (hf : finB p = false) : idx p = if sgn p then -9218868437227405312 else 9218868437227405312 := by
  have h1 := nan_false.1 np
  have h2 := finB_false.1 hf
  have : rung p = 9218868437227405312 := by unfold INFR at *; omega
  unfold idx; rw [this]; rfl
theorem idx_infW (s : Bool) : idx (infW s) = if s then -9218868437227405312 else 9218868437227405312 := by cases s <;> decide
theorem fin_idx {p : Nat} (hf : finB p = true) : -9218868437227405312 < idx p ∧ idx p < 9218868437227405312 := by
  have h := finB_rung.1 hf
  unfold INFR at h
  unfold idx
  cases sgn p <;> simp <;> omega

theorem G_rung_pos {q : Nat} (hq : 0 < idx q) : 0 < G (rung q) ∧ (val q = (G (rung q) : Nat)) := by
  have hs : sgn q = false := by
    unfold idx at hq
    cases h : sgn q
    · rfl
    · rw [h] at hq; simp at hq; omega
  have hr : rung q ≠ 0 := by
    intro h0
    have := (idx_zero_iff q).2 h0
    omega
  refine ⟨G_pos (by omega), ?_⟩
  unfold val; rw [hs]; rfl

theorem plc_zero (D : Nat) (hD : 0 < D) (dir : Int) : plc 0 D dir = 0 := by
  unfold plc
  rw [if_neg (by omega), show (0 : Int).natAbs = 0 from rfl, rungOf_zero D hD dir]; rfl
theorem plc_nn {S : Int} {D : Nat} (h : 0 ≤ S) (dir : Int) : 0 ≤ plc S D dir := by unfold plc; rw [if_neg (by omega)]; omega
theorem plc_np {S : Int} {D : Nat} (hD : 0 < D) (h : S ≤ 0) (dir : Int) : plc S D dir ≤ 0 := by
  rcases Int.lt_or_eq_of_le h with h | h
  · unfold plc; rw [if_pos h]; omega
  · rw [h, plc_zero D hD]; exact Int.le_refl _
theorem val_sign (p : Nat) : (0 ≤ val p ↔ 0 ≤ idx p) ∧ (val p ≤ 0 ↔ idx p ≤ 0) := by
  have z : val 0 = 0 := rfl
  have zi : idx 0 = 0 := by decide
  have h1 := @val_le 0 p
  have h2 := @val_le p 0
  rw [z, zi] at h1 h2
  exact ⟨h1, h2⟩

/-- The greater the dividend, the greater the quotient. -/
theorem div_mono_p {p p' q : Nat} (dir : Int) (np : nan p = false) (np' : nan p' = false) (nq : nan q = false) (hq : 0 < idx q) (h : idx p ≤ idx p')
    (x : nan (divS p q dir) = false) (x' : nan (divS p' q dir) = false) : idx (divS p q dir) ≤ idx (divS p' q dir) := by
  obtain ⟨a1, a2, a3, a4⟩ := div_pos dir np nq hq
  obtain ⟨b1, b2, b3, b4⟩ := div_pos dir np' nq hq
  cases fq : finB q
  · cases fp : finB p
    · rw [a4 fp fq] at x; cases x
    · cases fp' : finB p'
      · rw [b4 fp' fq] at x'; cases x'
      · rw [a2 fp fq, b2 fp' fq]; exact Int.le_refl _
  · have hG := (G_rung_pos hq).1
    cases fp : finB p
    · rw [a3 fp fq, idx_infW]
      have hi := idx_inf_of np fp
      cases fp' : finB p'
      · rw [b3 fp' fq, idx_infW]
        have hi' := idx_inf_of np' fp'
        rw [← hi, ← hi']; exact h
      · rw [(b1 fp' fq).2]
        have l := fin_idx fp'
        have := plc_le (val p' * (pw 1074 : Nat)) (G (rung q)) dir
        rw [← hi]
        split at hi <;> omega
    · rw [(a1 fp fq).2]
      cases fp' : finB p'
      · rw [b3 fp' fq, idx_infW]
        have hi' := idx_inf_of np' fp'
        have l := fin_idx fp
        have := plc_le (val p * (pw 1074 : Nat)) (G (rung q)) dir
        rw [← hi']
        split at hi' <;> omega
      · rw [(b1 fp' fq).2]
        refine plc_mono dir hG hG ?_
        have := val_le.2 h
        refine Int.mul_le_mul_of_nonneg_right (Int.mul_le_mul_of_nonneg_right this (by omega)) (by omega)

/-- The greater the divisor, the nearer to nought the quotient. -/
theorem div_mono_q {p q q' : Nat} (dir : Int) (np : nan p = false) (nq : nan q = false) (nq' : nan q' = false) (hq : 0 < idx q) (h : idx q ≤ idx q')
    (x : nan (divS p q dir) = false) (x' : nan (divS p q' dir) = false) :
    (idx p ≤ 0 → idx (divS p q dir) ≤ idx (divS p q' dir)) ∧ (0 ≤ idx p → idx (divS p q' dir) ≤ idx (divS p q dir)) := by
  have hq' : 0 < idx q' := by omega
  obtain ⟨a1, a2, a3, a4⟩ := div_pos dir np nq hq
  obtain ⟨b1, b2, b3, b4⟩ := div_pos dir np nq' hq'
  have hG := (G_rung_pos hq)
  have hG' := (G_rung_pos hq')
  have vs := val_sign p
  have zi : idx 0 = 0 := by decide
  cases fp : finB p
  · cases fq : finB q
    · rw [a4 fp fq] at x; cases x
    · cases fq' : finB q'
      · rw [b4 fp fq'] at x'; cases x'
      · rw [a3 fp fq, b3 fp fq']; exact ⟨fun _ => Int.le_refl _, fun _ => Int.le_refl _⟩
  · cases fq : finB q
    · have fq' : finB q' = false := by
        cases hh : finB q'
        · rfl
        · have := fin_idx hh
          have e := idx_inf_of nq fq
          split at e <;> omega
      rw [a2 fp fq, b2 fp fq']; exact ⟨fun _ => Int.le_refl _, fun _ => Int.le_refl _⟩
    · rw [(a1 fp fq).2]
      have hpw : (0 : Int) ≤ ((pw 1074 : Nat) : Int) := by omega
      cases fq' : finB q'
      · rw [b2 fp fq', zi]
        refine ⟨fun hp => plc_np hG.1 ?_ dir, fun hp => plc_nn ?_ dir⟩
        · exact Int.mul_nonpos_of_nonpos_of_nonneg (vs.2.2 hp) hpw
        · exact Int.mul_nonneg (vs.1.2 hp) hpw
      · rw [(b1 fp fq').2]
        have hv := val_le.2 h
        rw [hG.2, hG'.2] at hv
        have hv : ((G (rung q) : Nat) : Int) ≤ ((G (rung q') : Nat) : Int) := hv
        refine ⟨fun hp => plc_mono dir hG.1 hG'.1 ?_, fun hp => plc_mono dir hG'.1 hG.1 ?_⟩
        · have h1 : val p * ((pw 1074 : Nat) : Int) ≤ 0 := Int.mul_nonpos_of_nonpos_of_nonneg (vs.2.2 hp) hpw
          exact Int.mul_le_mul_of_nonpos_left h1 hv
        · have h1 : 0 ≤ val p * ((pw 1074 : Nat) : Int) := Int.mul_nonneg (vs.1.2 hp) hpw
          exact Int.mul_le_mul_of_nonneg_left hv h1

/-- Quotients' signs. -/
theorem div_sign {p q : Nat} (dir : Int) (np : nan p = false) (nq : nan q = false) (hq : 0 < idx q) (x : nan (divS p q dir) = false) :
    (idx p ≤ 0 → idx (divS p q dir) ≤ 0) ∧ (0 ≤ idx p → 0 ≤ idx (divS p q dir)) := by
  obtain ⟨a1, a2, a3, a4⟩ := div_pos dir np nq hq
  have hG := (G_rung_pos hq)
  have vs := val_sign p
  have hpw : (0 : Int) ≤ ((pw 1074 : Nat) : Int) := by omega
  have zi : idx 0 = 0 := by decide
  cases fp : finB p
  · cases fq : finB q
    · rw [a4 fp fq] at x; cases x
    · rw [a3 fp fq, idx_infW, ← idx_inf_of np fp]; exact ⟨id, id⟩
  · cases fq : finB q
    · rw [a2 fp fq, zi]; exact ⟨fun _ => Int.le_refl _, fun _ => Int.le_refl _⟩
    · rw [(a1 fp fq).2]
      exact ⟨fun hp => plc_np hG.1 (Int.mul_nonpos_of_nonpos_of_nonneg (vs.2.2 hp) hpw) dir, fun hp => plc_nn (Int.mul_nonneg (vs.1.2 hp) hpw) dir⟩
end Go.Proofs.Ytjdccbigaahkeaa.Fl
