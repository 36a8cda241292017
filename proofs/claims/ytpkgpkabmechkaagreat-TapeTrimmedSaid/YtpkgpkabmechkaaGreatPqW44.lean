/- Plain: quotients in order. -/
import Derived.Test.YtpkgpkabmechkaaGreatPqFlC
import Derived.Test.YtpkgpkabmechkaaGreatPqW41
set_option linter.unusedSimpArgs false
set_option linter.unusedVariables false
namespace Go.Proofs.YtpkgpkabmechkaaGreat.Fl
open Go

/-- A quotient's place, by a divisor above nought. -/
theorem div_pos {p q : Nat} (dir : Int) (np : nan p = false) (nq : nan q = false) (hq : 0 < idx q) :
    (finB p = true → finB q = true → nan (divS p q dir) = false ∧ idx (divS p q dir) = plc (val p * (pw 1074 : Nat)) (G (rung q)) dir) ∧
    (finB p = true → finB q = false → divS p q dir = 0) ∧
    (finB p = false → finB q = true → divS p q dir = infW (sgn p)) ∧
    (finB p = false → finB q = false → nan (divS p q dir) = true) := by
  have hs : sgn q = false := by
    unfold idx at hq
    cases h : sgn q
    · rfl
    · rw [h] at hq; simp at hq; omega
  have hr : rung q ≠ 0 := by
    intro h0
    have := (idx_zero_iff q).2 h0
    omega
  unfold divS
  rw [np, nq, if_neg (by simp), if_neg hr, hs]
  refine ⟨fun h1 h2 => ?_, fun h1 h2 => ?_, fun h1 h2 => ?_, fun h1 h2 => ?_⟩
  · rw [h1, h2]
    simp only [Bool.and_self, if_true, Bool.false_eq_true, if_false, Int.mul_one]
    rw [rnd_eq]
    have b := nan_bits (plc_le (val p * (pw 1074 : Nat)) (G (rung q)) dir).1 (plc_le (val p * (pw 1074 : Nat)) (G (rung q)) dir).2
    exact ⟨b.1, b.2.1⟩
  · rw [h1, h2]; simp
  · rw [h1, h2]; simp
  · rw [h1, h2]; simp [nan_QN]

theorem idx_inf_of {p : Nat} (np : nan p = false) (hf : finB p = false) : idx p = if sgn p then -9218868437227405312 else 9218868437227405312 := by
  have h1 := nan_false.1 np
  have h2 := finB_false.1 hf
  have : rung p = 9218868437227405312 := by unfold INFR at *; omega
  unfold idx; rw [this]; rfl
end Go.Proofs.YtpkgpkabmechkaaGreat.Fl

/- Plain: quotients of intervals: of all pairs of ends, and as the document says. -/
namespace Go.Proofs.YtpkgpkabmechkaaGreat
set_option linter.unusedSimpArgs false
set_option linter.unusedVariables false
open Go.RowKit
open Fl

def minN (x d : Nat) : Nat := if nan d then x else minF x d
def maxN (x d u : Nat) : Nat := if nan d then x else maxF x u
def loD (a b c d : Nat) : Nat := minN (minN (minN (minN 9218868437227405312 (divS a c (-1))) (divS a d (-1))) (divS b c (-1))) (divS b d (-1))
def hiD (a b c d : Nat) : Nat := maxN (maxN (maxN (maxN 18442240474082181120 (divS a c (-1)) (divS a c 1)) (divS a d (-1)) (divS a d 1)) (divS b c (-1)) (divS b c 1)) (divS b d (-1)) (divS b d 1)

theorem nan_div (p q : Nat) (d1 d2 : Int) : nan (divS p q d1) = nan (divS p q d2) := by
  unfold divS
  repeat' split
  all_goals first | rfl | rw [nan_rnd, nan_rnd]
theorem can_div {p q : Nat} (dir : Int) (h : nan (divS p q dir) = false) : Can (divS p q dir) := by
  unfold divS at h ⊢
  split
  · rename_i h1; rw [if_pos h1] at h; exact absurd h (by decide)
  · rename_i h1
    rw [if_neg h1] at h
    split
    · rename_i h2; rw [if_pos h2] at h; exact absurd h (by decide)
    · rename_i h2
      rw [if_neg h2] at h
      split
      · exact can_rnd _ _ _
      · rename_i h3
        rw [if_neg h3] at h
        split
        · exact can_zero
        · rename_i h4
          rw [if_neg h4] at h
          split
          · exact can_inf _
          · rename_i h5
            rw [if_neg h5] at h
            exact absurd h (by decide)

theorem maxF_idx {x y : Nat} (hx : nan x = false) (hy : nan y = false) : idx (maxF x y) = max (idx x) (idx y) := by
  unfold maxF flt
  rw [hx, hy]
  simp only [Bool.not_false, Bool.true_and, decide_eq_true_eq]
  split <;> omega
theorem can_minN {x d : Nat} (hx : Can x) (hd : nan d = false → Can d) : Can (minN x d) := by
  unfold minN
  split
  · exact hx
  · rename_i h; exact can_min hx (hd (by simpa using h))
theorem can_maxN {x d u : Nat} (hx : Can x) (hd : nan d = false → Can u) : Can (maxN x d u) := by
  unfold maxN
  split
  · exact hx
  · rename_i h; exact can_max hx (hd (by simpa using h))
theorem can_loD (a b c d : Nat) : Can (loD a b c d) := can_minN (can_minN (can_minN (can_minN can_pinf (can_div _)) (can_div _)) (can_div _)) (can_div _)
theorem can_hiD (a b c d : Nat) : Can (hiD a b c d) :=
  can_maxN (can_maxN (can_maxN (can_maxN can_ninf fun h => can_div _ (by rw [nan_div _ _ 1 (-1)]; exact h)) fun h => can_div _ (by rw [nan_div _ _ 1 (-1)]; exact h)) fun h => can_div _ (by rw [nan_div _ _ 1 (-1)]; exact h)) fun h => can_div _ (by rw [nan_div _ _ 1 (-1)]; exact h)
theorem div_nan_iff {p q : Nat} (dir : Int) (np : nan p = false) (nq : nan q = false) (hq : 0 < idx q) : nan (divS p q dir) = (!finB p && !finB q) := by
  obtain ⟨a1, a2, a3, a4⟩ := div_pos dir np nq hq
  cases fp : finB p <;> cases fq : finB q
  · rw [a4 fp fq]; rfl
  · rw [a3 fp fq]; cases sgn p <;> rfl
  · rw [a2 fp fq]; rfl
  · rw [(a1 fp fq).1]; rfl
theorem fin_of_idx {p : Nat} (np : nan p = false) (h1 : -9218868437227405312 < idx p) (h2 : idx p < 9218868437227405312) : finB p = true := by
  cases hf : finB p
  · have := idx_inf_of np hf
    split at this <;> omega
  · rfl

end Go.Proofs.YtpkgpkabmechkaaGreat
