/- Plain: quotients in order. -/
import Derived.Test.YtkmgfbhnioojhaaGreatPmFlC
import Derived.Test.YtkmgfbhnioojhaaGreatPmW41
set_option linter.unusedSimpArgs false
set_option linter.unusedVariables false
namespace Go.Proofs.YtkmgfbhnioojhaaGreat.Fl
open Go

/-- A quotient's place, by a divisor above nought. -/
theorem div_pos {p q : Nat} (dir : Int) (np : nan p = false) (nq : nan q = false) (hq : 0 < idx q) :
    (finB p = true → finB q = true → nan (divS p q dir) = false ∧ idx (divS p q dir) = plc (val p * (pw 1074 : Nat)) (G (rung q)) dir) ∧
    (finB p = true → finB q = false → divS p q dir = 0) ∧
    (finB p = false → finB q = true → divS p q dir = infW (sgn p)) ∧
    (finB p = false → finB q = false → nan (divS p q dir) = true) := by
  have hs : sgn q = false := by
    unfold idx at hq
    cases h : sgn q
    · rfl
    · rw [h] at hq; simp at hq; omega
  have hr : rung q ≠ 0 := by
    intro h0
    have := (idx_zero_iff q).2 h0
    omega
  unfold divS
  rw [np, nq, if_neg (by simp), if_neg hr, hs]
  refine ⟨fun h1 h2 => ?_, fun h1 h2 => ?_, fun h1 h2 => ?_, fun h1 h2 => ?_⟩
  · rw [h1, h2]
    simp only [Bool.and_self, if_true, Bool.false_eq_true, if_false, Int.mul_one]
    rw [rnd_eq]
    have b := nan_bits (plc_le (val p * (pw 1074 : Nat)) (G (rung q)) dir).1 (plc_le (val p * (pw 1074 : Nat)) (G (rung q)) dir).2
    exact ⟨b.1, b.2.1⟩
  · rw [h1, h2]; simp
  · rw [h1, h2]; simp
  · rw [h1, h2]; simp [nan_QN]

theorem idx_inf_of {p : Nat} (np : nan p = false) (hf : finB p = false) : idx p = if sgn p then -9218868437227405312 else 9218868437227405312 := by
  have h1 := nan_false.1 np
  have h2 := finB_false.1 hf
  have : rung p = 9218868437227405312 := by unfold INFR at *; omega
  unfold idx; rw [this]; rfl
theorem idx_infW (s : Bool) : idx (infW s) = if s then -9218868437227405312 else 9218868437227405312 := by cases s <;> decide
theorem fin_idx {p : Nat} (hf : finB p = true) : -9218868437227405312 < idx p ∧ idx p < 9218868437227405312 := by
  have h := finB_rung.1 hf
  unfold INFR at h
  unfold idx
  cases sgn p <;> simp <;> omega

theorem G_rung_pos {q : Nat} (hq : 0 < idx q) : 0 < G (rung q) ∧ (val q = (G (rung q) : Nat)) := by
  have hs : sgn q = false := by
    unfold idx at hq
    cases h : sgn q
    · rfl
    · rw [h] at hq; simp at hq; omega
  have hr : rung q ≠ 0 := by
    intro h0
    have := (idx_zero_iff q).2 h0
    omega
  refine ⟨G_pos (by omega), ?_⟩
  unfold val; rw [hs]; rfl

theorem plc_zero (D : Nat) (hD : 0 < D) (dir : Int) : plc 0 D dir = 0 := by
  unfold plc
  rw [if_neg (by omega), show (0 : Int).natAbs = 0 from rfl, rungOf_zero D hD dir]; rfl
theorem plc_nn {S : Int} {D : Nat} (h : 0 ≤ S) (dir : Int) : 0 ≤ plc S D dir := by unfold plc; rw [if_neg (by omega)]; omega
theorem plc_np {S : Int} {D : Nat} (hD : 0 < D) (h : S ≤ 0) (dir : Int) : plc S D dir ≤ 0 := by
  rcases Int.lt_or_eq_of_le h with h | h
  · unfold plc; rw [if_pos h]; omega
  · rw [h, plc_zero D hD]; exact Int.le_refl _
theorem val_sign (p : Nat) : (0 ≤ val p ↔ 0 ≤ idx p) ∧ (val p ≤ 0 ↔ idx p ≤ 0) := by
  have z : val 0 = 0 := rfl
  have zi : idx 0 = 0 := by decide
  have h1 := @val_le 0 p
  have h2 := @val_le p 0
  rw [z, zi] at h1 h2
  exact ⟨h1, h2⟩

/-- The greater the dividend, the greater the quotient. -/
theorem div_mono_p {p p' q : Nat} (dir : Int) (np : nan p = false) (np' : nan p' = false) (nq : nan q = false) (hq : 0 < idx q) (h : idx p ≤ idx p')
    (x : nan (divS p q dir) = false) (x' : nan (divS p' q dir) = false) : idx (divS p q dir) ≤ idx (divS p' q dir) := by
  obtain ⟨a1, a2, a3, a4⟩ := div_pos dir np nq hq
  obtain ⟨b1, b2, b3, b4⟩ := div_pos dir np' nq hq
  cases fq : finB q
  · cases fp : finB p
    · rw [a4 fp fq] at x; cases x
    · cases fp' : finB p'
      · rw [b4 fp' fq] at x'; cases x'
      · rw [a2 fp fq, b2 fp' fq]; exact Int.le_refl _
  · have hG := (G_rung_pos hq).1
    cases fp : finB p
    · rw [a3 fp fq, idx_infW]
      have hi := idx_inf_of np fp
      cases fp' : finB p'
      · rw [b3 fp' fq, idx_infW]
        have hi' := idx_inf_of np' fp'
        rw [← hi, ← hi']; exact h
      · rw [(b1 fp' fq).2]
        have l := fin_idx fp'
        have := plc_le (val p' * (pw 1074 : Nat)) (G (rung q)) dir
        rw [← hi]
        split at hi <;> omega
    · rw [(a1 fp fq).2]
      cases fp' : finB p'
      · rw [b3 fp' fq, idx_infW]
        have hi' := idx_inf_of np' fp'
        have l := fin_idx fp
        have := plc_le (val p * (pw 1074 : Nat)) (G (rung q)) dir
        rw [← hi']
        split at hi' <;> omega
      · rw [(b1 fp' fq).2]
        refine plc_mono dir hG hG ?_
        have := val_le.2 h
        refine Int.mul_le_mul_of_nonneg_right (Int.mul_le_mul_of_nonneg_right this (by omega)) (by omega)

/-- The greater the divisor, the nearer to nought the quotient. -/
theorem div_mono_q {p q q' : Nat} (dir : Int) (np : nan p = false) (nq : nan q = false) (nq' : nan q' = false) (hq : 0 < idx q) (h : idx q ≤ idx q')
    (x : nan (divS p q dir) = false) (x' : nan (divS p q' dir) = false) :
    (idx p ≤ 0 → idx (divS p q dir) ≤ idx (divS p q' dir)) ∧ (0 ≤ idx p → idx (divS p q' dir) ≤ idx (divS p q dir)) := by
  have hq' : 0 < idx q' := by omega
  obtain ⟨a1, a2, a3, a4⟩ := div_pos dir np nq hq
  obtain ⟨b1, b2, b3, b4⟩ := div_pos dir np nq' hq'
  have hG := (G_rung_pos hq)
  have hG' := (G_rung_pos hq')
  have vs := val_sign p
  have zi : idx 0 = 0 := by decide
  cases fp : finB p
  · cases fq : finB q
    · rw [a4 fp fq] at x; cases x
    · cases fq' : finB q'
      · rw [b4 fp fq'] at x'; cases x'
      · rw [a3 fp fq, b3 fp fq']; exact ⟨fun _ => Int.le_refl _, fun _ => Int.le_refl _⟩
  · cases fq : finB q
    · have fq' : finB q' = false := by
        cases hh : finB q'
        · rfl
        · have := fin_idx hh
          have e := idx_inf_of nq fq
          split at e <;> omega
      rw [a2 fp fq, b2 fp fq']; exact ⟨fun _ => Int.le_refl _, fun _ => Int.le_refl _⟩
    · rw [(a1 fp fq).2]
      have hpw : (0 : Int) ≤ ((pw 1074 : Nat) : Int) := by omega
      cases fq' : finB q'
      · rw [b2 fp fq', zi]
        refine ⟨fun hp => plc_np hG.1 ?_ dir, fun hp => plc_nn ?_ dir⟩
        · exact Int.mul_nonpos_of_nonpos_of_nonneg (vs.2.2 hp) hpw
        · exact Int.mul_nonneg (vs.1.2 hp) hpw
      · rw [(b1 fp fq').2]
        have hv := val_le.2 h
        rw [hG.2, hG'.2] at hv
        have hv : ((G (rung q) : Nat) : Int) ≤ ((G (rung q') : Nat) : Int) := hv
        refine ⟨fun hp => plc_mono dir hG.1 hG'.1 ?_, fun hp => plc_mono dir hG'.1 hG.1 ?_⟩
        · have h1 : val p * ((pw 1074 : Nat) : Int) ≤ 0 := Int.mul_nonpos_of_nonpos_of_nonneg (vs.2.2 hp) hpw
          exact Int.mul_le_mul_of_nonpos_left h1 hv
        · have h1 : 0 ≤ val p * ((pw 1074 : Nat) : Int) := Int.mul_nonneg (vs.1.2 hp) hpw
          exact Int.mul_le_mul_of_nonneg_left hv h1

end Go.Proofs.YtkmgfbhnioojhaaGreat.Fl

/- Plain: quotients of intervals: of all pairs of ends, and as the document says. -/
namespace Go.Proofs.YtkmgfbhnioojhaaGreat
set_option linter.unusedSimpArgs false
set_option linter.unusedVariables false
open Go.RowKit
open Fl

def minN (x d : Nat) : Nat := if nan d then x else minF x d
def maxN (x d u : Nat) : Nat := if nan d then x else maxF x u
def loD (a b c d : Nat) : Nat := minN (minN (minN (minN 9218868437227405312 (divS a c (-1))) (divS a d (-1))) (divS b c (-1))) (divS b d (-1))
def hiD (a b c d : Nat) : Nat := maxN (maxN (maxN (maxN 18442240474082181120 (divS a c (-1)) (divS a c 1)) (divS a d (-1)) (divS a d 1)) (divS b c (-1)) (divS b c 1)) (divS b d (-1)) (divS b d 1)

def leastF (p q : Nat) : Nat := if feq q 0 || feq p 18442240474082181120 then 18442240474082181120 else divS p q (-1)
def greatF (p q : Nat) (dir : Int) : Nat := if feq q 9218868437227405312 then 0 else divS p q dir
def lowF (c : Nat) : Nat := if flt c 0 then 0 else c
def overLo (a c d : Nat) : Nat := if flt a 0 then leastF a (lowF c) else greatF a d (-1)
def overHi (b c d : Nat) : Nat := if flt 0 b then cl (fneg (leastF (cl (fneg b)) (lowF c))) else cl (fneg (greatF (cl (fneg b)) d (-1)))

theorem nan_div (p q : Nat) (d1 d2 : Int) : nan (divS p q d1) = nan (divS p q d2) := by
  unfold divS
  repeat' split
  all_goals first | rfl | rw [nan_rnd, nan_rnd]
theorem can_div {p q : Nat} (dir : Int) (h : nan (divS p q dir) = false) : Can (divS p q dir) := by
  unfold divS at h ⊢
  split
  · rename_i h1; rw [if_pos h1] at h; exact absurd h (by decide)
  · rename_i h1
    rw [if_neg h1] at h
    split
    · rename_i h2; rw [if_pos h2] at h; exact absurd h (by decide)
    · rename_i h2
      rw [if_neg h2] at h
      split
      · exact can_rnd _ _ _
      · rename_i h3
        rw [if_neg h3] at h
        split
        · exact can_zero
        · rename_i h4
          rw [if_neg h4] at h
          split
          · exact can_inf _
          · rename_i h5
            rw [if_neg h5] at h
            exact absurd h (by decide)

theorem minF_idx {x y : Nat} (hx : nan x = false) (hy : nan y = false) : idx (minF x y) = min (idx x) (idx y) := by
  unfold minF flt
  rw [hx, hy]
  simp only [Bool.not_false, Bool.true_and, decide_eq_true_eq]
  split <;> omega
theorem maxF_idx {x y : Nat} (hx : nan x = false) (hy : nan y = false) : idx (maxF x y) = max (idx x) (idx y) := by
  unfold maxF flt
  rw [hx, hy]
  simp only [Bool.not_false, Bool.true_and, decide_eq_true_eq]
  split <;> omega
theorem can_minN {x d : Nat} (hx : Can x) (hd : nan d = false → Can d) : Can (minN x d) := by
  unfold minN
  split
  · exact hx
  · rename_i h; exact can_min hx (hd (by simpa using h))
theorem can_maxN {x d u : Nat} (hx : Can x) (hd : nan d = false → Can u) : Can (maxN x d u) := by
  unfold maxN
  split
  · exact hx
  · rename_i h; exact can_max hx (hd (by simpa using h))
theorem minN_idx {x d : Nat} (hx : Can x) : idx (minN x d) = if nan d then idx x else min (idx x) (idx d) := by
  unfold minN
  split
  · rfl
  · rename_i h; exact minF_idx hx.num (by simpa using h)
theorem maxN_idx {x d u : Nat} (hx : Can x) (h2 : nan u = nan d) : idx (maxN x d u) = if nan d then idx x else max (idx x) (idx u) := by
  unfold maxN
  split
  · rfl
  · rename_i h; exact maxF_idx hx.num (by rw [h2]; simpa using h)
theorem can_loD (a b c d : Nat) : Can (loD a b c d) := can_minN (can_minN (can_minN (can_minN can_pinf (can_div _)) (can_div _)) (can_div _)) (can_div _)
theorem can_hiD (a b c d : Nat) : Can (hiD a b c d) :=
  can_maxN (can_maxN (can_maxN (can_maxN can_ninf fun h => can_div _ (by rw [nan_div _ _ 1 (-1)]; exact h)) fun h => can_div _ (by rw [nan_div _ _ 1 (-1)]; exact h)) fun h => can_div _ (by rw [nan_div _ _ 1 (-1)]; exact h)) fun h => can_div _ (by rw [nan_div _ _ 1 (-1)]; exact h)
theorem loD_idx (a b c d : Nat) : idx (loD a b c d) =
    (let x0 : Int := 9218868437227405312
     let x1 := if nan (divS a c (-1)) then x0 else min x0 (idx (divS a c (-1)))
     let x2 := if nan (divS a d (-1)) then x1 else min x1 (idx (divS a d (-1)))
     let x3 := if nan (divS b c (-1)) then x2 else min x2 (idx (divS b c (-1)))
     if nan (divS b d (-1)) then x3 else min x3 (idx (divS b d (-1)))) := by
  unfold loD
  have c1 : Can (minN 9218868437227405312 (divS a c (-1))) := can_minN can_pinf (can_div _)
  have c2 := can_minN (d := divS a d (-1)) c1 (can_div _)
  have c3 := can_minN (d := divS b c (-1)) c2 (can_div _)
  rw [minN_idx c3, minN_idx c2, minN_idx c1, minN_idx can_pinf]
  rfl
theorem hiD_idx (a b c d : Nat) : idx (hiD a b c d) =
    (let x0 : Int := -9218868437227405312
     let x1 := if nan (divS a c (-1)) then x0 else max x0 (idx (divS a c 1))
     let x2 := if nan (divS a d (-1)) then x1 else max x1 (idx (divS a d 1))
     let x3 := if nan (divS b c (-1)) then x2 else max x2 (idx (divS b c 1))
     if nan (divS b d (-1)) then x3 else max x3 (idx (divS b d 1))) := by
  unfold hiD
  have g : ∀ p q, nan (divS p q (-1)) = false → Can (divS p q 1) := fun p q h => can_div _ (by rw [nan_div _ _ 1 (-1)]; exact h)
  have c1 : Can (maxN 18442240474082181120 (divS a c (-1)) (divS a c 1)) := can_maxN can_ninf (g _ _)
  have c2 := can_maxN (d := divS a d (-1)) (u := divS a d 1) c1 (g _ _)
  have c3 := can_maxN (d := divS b c (-1)) (u := divS b c 1) c2 (g _ _)
  rw [maxN_idx c3 (nan_div _ _ _ _), maxN_idx c2 (nan_div _ _ _ _), maxN_idx c1 (nan_div _ _ _ _), maxN_idx can_ninf (nan_div _ _ _ _)]
  rfl

theorem div_nan_iff {p q : Nat} (dir : Int) (np : nan p = false) (nq : nan q = false) (hq : 0 < idx q) : nan (divS p q dir) = (!finB p && !finB q) := by
  obtain ⟨a1, a2, a3, a4⟩ := div_pos dir np nq hq
  cases fp : finB p <;> cases fq : finB q
  · rw [a4 fp fq]; rfl
  · rw [a3 fp fq]; cases sgn p <;> rfl
  · rw [a2 fp fq]; rfl
  · rw [(a1 fp fq).1]; rfl
theorem fin_of_idx {p : Nat} (np : nan p = false) (h1 : -9218868437227405312 < idx p) (h2 : idx p < 9218868437227405312) : finB p = true := by
  cases hf : finB p
  · have := idx_inf_of np hf
    split at this <;> omega
  · rfl

/-- A quotient of the other sign. -/
theorem div_fneg {p q : Nat} (np : nan p = false) (nq : nan q = false) (hq : 0 < idx q) (x : nan (divS p q 1) = false) : idx (divS (cl (fneg p)) q (-1)) = - idx (divS p q 1) := by
  have np' : nan (cl (fneg p)) = false := nan_cl _ (by rw [nan_fneg]; exact np)
  have hf : finB (cl (fneg p)) = finB p := by
    unfold cl
    split
    · rename_i h0
      rw [idx_fneg] at h0
      have : rung p = 0 := (idx_zero_iff p).1 (by omega)
      unfold finB; rw [this]; rfl
    · exact finB_fneg p
  have hi : idx (cl (fneg p)) = - idx p := by rw [idx_cl, idx_fneg]
  obtain ⟨a1, a2, a3, a4⟩ := div_pos 1 np nq hq
  obtain ⟨b1, b2, b3, b4⟩ := div_pos (-1) np' nq hq
  rw [hf] at b1 b2 b3 b4
  have hG := G_rung_pos hq
  cases fp : finB p <;> cases fq : finB q
  · rw [a4 fp fq] at x; cases x
  · rw [a3 fp fq, b3 fp fq, idx_infW, idx_infW]
    have e1 := idx_inf_of np fp
    have e2 := idx_inf_of np' (by rw [hf]; exact fp)
    rw [← e1, ← e2, hi]
  · rw [a2 fp fq, b2 fp fq]; rfl
  · rw [(a1 fp fq).2, (b1 fp fq).2]
    have hv : val (cl (fneg p)) = - val p := by
      rw [val_pv, hi, val_pv]
      unfold pv
      by_cases h1 : idx p < 0
      · rw [if_neg (by omega), if_pos h1]; simp
      · by_cases h2 : idx p = 0
        · rw [h2]; rfl
        · rw [if_pos (by omega), if_neg h1]; simp
    rw [hv, Int.neg_mul, plc_neg hG.1]
    rfl

/-- **The least of all pairs of ends, by what is above nought.** -/
theorem lo_div {a b c d : Nat} (h1 : noneB a b = false) (h2 : noneB c d = false) (ha : a < 18446744073709551616) (hb : b < 18446744073709551616) (hc : c < 18446744073709551616) (hd : d < 18446744073709551616) (h0 : 0 < idx c) :
    loD a b c d = overLo a c d := by
  obtain ⟨n1, n2⟩ := nums_of h1
  obtain ⟨n3, n4⟩ := nums_of h2
  obtain ⟨s1, s2⟩ := sides_of h1
  obtain ⟨s3, s4⟩ := sides_of h2
  have r1 := (fle_true.1 (right_of h1).2).2.2
  have r2 := (fle_true.1 (right_of h2).2).2.2
  have s1 := (flt_true.1 s1).2.2
  have s2 := (flt_true.1 s2).2.2
  have s3 := (flt_true.1 s3).2.2
  rw [idx_pinf] at s1 s3
  rw [idx_ninf] at s2
  have z0 : nan 0 = false := by decide
  have zi : idx 0 = 0 := by decide
  have hd0 : 0 < idx d := by omega
  have fc : finB c = true := fin_of_idx n3 (by omega) s3
  have x1 : nan (divS a c (-1)) = false := by rw [div_nan_iff _ n1 n3 h0, fc]; simp
  have x3 : nan (divS b c (-1)) = false := by rw [div_nan_iff _ n2 n3 h0, fc]; simp
  have lc : lowF c = c := by unfold lowF; rw [if_neg (by rw [flt_true, zi]; omega)]
  have L1 := idx_le (can_div (-1) x1).num
  have L3 := idx_le (can_div (-1) x3).num
  have m13 := div_mono_p (-1) n1 n2 n3 h0 r1 x1 x3
  have m24 := fun u v => div_mono_p (-1) n1 n2 n4 hd0 r1 u v
  have m12 := fun v => div_mono_q (-1) n1 n3 n4 h0 r2 x1 v
  have m34 := fun v => div_mono_q (-1) n2 n3 n4 h0 r2 x3 v
  have cn : ∀ x, Can x → idx (loD a b c d) = idx x → loD a b c d = x := fun x hx h => (can_loD a b c d).inj hx h
  unfold overLo
  by_cases hA : idx a < 0
  · rw [if_pos (flt_true.2 ⟨n1, z0, by rw [zi]; exact hA⟩), lc]
    have e : leastF a c = divS a c (-1) := by
      unfold leastF
      have q0 : feq c 0 = false := by unfold feq; rw [n3, z0, zi]; simp; omega
      rw [q0]
      by_cases hi : feq a 18442240474082181120 = true
      · rw [hi]
        have := ninf_of ha hi
        subst this
        rw [(div_pos (-1) n1 n3 h0).2.2.1 (by decide) fc]; rfl
      · rw [Bool.not_eq_true] at hi
        rw [hi]; rfl
    rw [e]
    refine cn _ (can_div _ x1) ?_
    rw [loD_idx]
    simp only [x1, x3, Bool.false_eq_true, if_false]
    cases x2 : nan (divS a d (-1)) <;> cases x4 : nan (divS b d (-1)) <;> simp only [Bool.false_eq_true, if_false, if_true]
    · have := (m12 x2).1 (by omega)
      have := m24 x2 x4
      omega
    · have := (m12 x2).1 (by omega)
      omega
    · have x2' := x2
      rw [div_nan_iff _ n1 n4 hd0] at x2'
      rw [Bool.and_eq_true] at x2'
      have fa : finB a = false := by simpa using x2'.1
      have e2 := (div_pos (-1) n1 n3 h0).2.2.1 fa fc
      have e3 := idx_inf_of n1 fa
      have e4 : idx (divS a c (-1)) = idx a := by rw [e2, idx_infW, ← e3]
      have L4 := idx_le (can_div (-1) x4).num
      have e5 : idx a = -9218868437227405312 := by split at e3 <;> omega
      omega
    · omega
  · rw [if_neg (by rw [flt_true, zi]; omega)]
    have fa : finB a = true := fin_of_idx n1 (by omega) s1
    have x2 : nan (divS a d (-1)) = false := by rw [div_nan_iff _ n1 n4 hd0, fa]; simp
    have e : greatF a d (-1) = divS a d (-1) := by
      unfold greatF
      by_cases hi : feq d 9218868437227405312 = true
      · rw [if_pos hi]
        have := pinf_of hd hi
        subst this
        rw [(div_pos (-1) n1 n4 hd0).2.1 fa (by decide)]
      · rw [if_neg hi]
    rw [e]
    refine cn _ (can_div _ x2) ?_
    rw [loD_idx]
    simp only [x1, x2, x3, Bool.false_eq_true, if_false]
    have := (m12 x2).2 (by omega)
    cases x4 : nan (divS b d (-1)) <;> simp only [Bool.false_eq_true, if_false, if_true]
    · have := m24 x2 x4
      omega
    · omega

theorem hi_div {a b c d : Nat} (h1 : noneB a b = false) (h2 : noneB c d = false) (ha : a < 18446744073709551616) (hb : b < 18446744073709551616) (hc : c < 18446744073709551616) (hd : d < 18446744073709551616) (h0 : 0 < idx c) :
    hiD a b c d = overHi b c d := by
  obtain ⟨n1, n2⟩ := nums_of h1
  obtain ⟨n3, n4⟩ := nums_of h2
  obtain ⟨s1, s2⟩ := sides_of h1
  obtain ⟨s3, s4⟩ := sides_of h2
  have r1 := (fle_true.1 (right_of h1).2).2.2
  have r2 := (fle_true.1 (right_of h2).2).2.2
  have s1 := (flt_true.1 s1).2.2
  have s2 := (flt_true.1 s2).2.2
  have s3 := (flt_true.1 s3).2.2
  rw [idx_pinf] at s1 s3
  rw [idx_ninf] at s2
  have z0 : nan 0 = false := by decide
  have zi : idx 0 = 0 := by decide
  have hd0 : 0 < idx d := by omega
  have fc : finB c = true := fin_of_idx n3 (by omega) s3
  have x1 : nan (divS a c (-1)) = false := by rw [div_nan_iff _ n1 n3 h0, fc]; simp
  have x3 : nan (divS b c (-1)) = false := by rw [div_nan_iff _ n2 n3 h0, fc]; simp
  have y1 : nan (divS a c 1) = false := by rw [nan_div _ _ 1 (-1)]; exact x1
  have y3 : nan (divS b c 1) = false := by rw [nan_div _ _ 1 (-1)]; exact x3
  have lc : lowF c = c := by unfold lowF; rw [if_neg (by rw [flt_true, zi]; omega)]
  have L1 := idx_le (can_div 1 y1).num
  have L3 := idx_le (can_div 1 y3).num
  have m13 := div_mono_p 1 n1 n2 n3 h0 r1 y1 y3
  have m24 := fun u v => div_mono_p 1 n1 n2 n4 hd0 r1 u v
  have m12 := fun v => div_mono_q 1 n1 n3 n4 h0 r2 y1 v
  have m34 := fun v => div_mono_q 1 n2 n3 n4 h0 r2 y3 v
  have nb : nan (cl (fneg b)) = false := nan_cl _ (by rw [nan_fneg]; exact n2)
  have ib : idx (cl (fneg b)) = - idx b := by rw [idx_cl, idx_fneg]
  have cn : ∀ x, Can x → idx (hiD a b c d) = idx x → hiD a b c d = x := fun x hx h => (can_hiD a b c d).inj hx h
  have cneg : ∀ x, Can x → Can (cl (fneg x)) := fun x hx => ⟨cl_lt (fneg_lt x), nan_cl _ (by rw [nan_fneg]; exact hx.num), fun h => by rw [idx_cl] at h; unfold cl; rw [if_pos h]⟩
  have ineg : ∀ x, idx (cl (fneg x)) = - idx x := fun x => by rw [idx_cl, idx_fneg]
  unfold overHi
  by_cases hB : 0 < idx b
  · rw [if_pos (flt_true.2 ⟨z0, n2, by rw [zi]; exact hB⟩), lc]
    have hbl : cl (fneg b) < 18446744073709551616 := cl_lt (fneg_lt b)
    have e : Can (leastF (cl (fneg b)) c) ∧ idx (leastF (cl (fneg b)) c) = - idx (divS b c 1) := by
      unfold leastF
      have q0 : feq c 0 = false := by unfold feq; rw [n3, z0, zi]; simp; omega
      rw [q0]
      by_cases hi : feq (cl (fneg b)) 18442240474082181120 = true
      · rw [hi]
        refine ⟨can_ninf, ?_⟩
        have e1 := (feq_true.1 hi).2.2
        rw [ib, idx_ninf] at e1
        have fb : finB b = false := by
          cases hf : finB b
          · rfl
          · have := fin_idx hf; omega
        rw [(div_pos 1 n2 n3 h0).2.2.1 fb fc, idx_infW, ← idx_inf_of n2 fb]
        simp only [Bool.or_true, if_true]
        rw [idx_ninf]; omega
      · rw [Bool.not_eq_true] at hi
        rw [hi]
        simp only [Bool.or_self, Bool.false_eq_true, if_false]
        have nn : nan (divS (cl (fneg b)) c (-1)) = false := by rw [div_nan_iff _ nb n3 h0, fc]; simp
        exact ⟨can_div _ nn, div_fneg n2 n3 h0 y3⟩
    refine cn _ (cneg _ e.1) ?_
    rw [ineg, e.2, hiD_idx]
    simp only [x1, x3, Bool.false_eq_true, if_false]
    cases x2 : nan (divS a d (-1)) <;> cases x4 : nan (divS b d (-1)) <;> simp only [Bool.false_eq_true, if_false, if_true]
    · have y2 : nan (divS a d 1) = false := by rw [nan_div _ _ 1 (-1)]; exact x2
      have y4 : nan (divS b d 1) = false := by rw [nan_div _ _ 1 (-1)]; exact x4
      have := (m34 y4).2 (by omega)
      have := m24 y2 y4
      omega
    · have y2 : nan (divS a d 1) = false := by rw [nan_div _ _ 1 (-1)]; exact x2
      have x4' := x4
      rw [div_nan_iff _ n2 n4 hd0] at x4'
      rw [Bool.and_eq_true] at x4'
      have fb : finB b = false := by simpa using x4'.1
      have e2 := (div_pos 1 n2 n3 h0).2.2.1 fb fc
      have e3 := idx_inf_of n2 fb
      have L2 := idx_le (can_div 1 y2).num
      have e4 : idx (divS b c 1) = idx b := by rw [e2, idx_infW, ← e3]
      have e5 : idx b = 9218868437227405312 := by split at e3 <;> omega
      omega
    · have y4 : nan (divS b d 1) = false := by rw [nan_div _ _ 1 (-1)]; exact x4
      have := (m34 y4).2 (by omega)
      omega
    · omega
  · rw [if_neg (by rw [flt_true, zi]; omega)]
    have fb : finB b = true := fin_of_idx n2 s2 (by omega)
    have x4 : nan (divS b d (-1)) = false := by rw [div_nan_iff _ n2 n4 hd0, fb]; simp
    have y4 : nan (divS b d 1) = false := by rw [nan_div _ _ 1 (-1)]; exact x4
    have e : Can (greatF (cl (fneg b)) d (-1)) ∧ idx (greatF (cl (fneg b)) d (-1)) = - idx (divS b d 1) := by
      unfold greatF
      by_cases hi : feq d 9218868437227405312 = true
      · rw [if_pos hi]
        have := pinf_of hd hi
        subst this
        rw [(div_pos 1 n2 n4 hd0).2.1 fb (by decide)]
        exact ⟨can_zero, rfl⟩
      · rw [if_neg hi]
        have fbn : finB (cl (fneg b)) = true := fin_of_idx nb (by omega) (by omega)
        have nn : nan (divS (cl (fneg b)) d (-1)) = false := by rw [div_nan_iff _ nb n4 hd0, fbn]; simp
        exact ⟨can_div _ nn, div_fneg n2 n4 hd0 y4⟩
    refine cn _ (cneg _ e.1) ?_
    rw [ineg, e.2, hiD_idx]
    simp only [x1, x3, x4, Bool.false_eq_true, if_false]
    have := (m34 y4).1 (by omega)
    cases x2 : nan (divS a d (-1)) <;> simp only [Bool.false_eq_true, if_false, if_true]
    · have y2 : nan (divS a d 1) = false := by rw [nan_div _ _ 1 (-1)]; exact x2
      have := m24 y2 y4
      omega
    · omega
end Go.Proofs.YtkmgfbhnioojhaaGreat
