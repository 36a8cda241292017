/- Contracts: intervals' middles. -/
import Derived.Test.YtpkgpkabmechkaaGreatW39
namespace Go.Proofs.YtpkgpkabmechkaaGreat
set_option linter.unusedSimpArgs false
set_option linter.unusedVariables false
open Go.RowKit
open Fl

def loM (a : Nat) : Nat := maxF a 18442240474082181119
def hiM (b : Nat) : Nat := minF b 9218868437227405311
def sumM (a b : Nat) : Nat := word (sumNeg (halfF (loM a)) (halfF (hiM b))) (rungOf (val (halfF (loM a)) + val (halfF (hiM b))).natAbs 1 0)
def midA (a b : Nat) : Nat := if noneB a b then 0 else cl (minG (maxG (sumM a b) (loM a)) (hiM b))
def refM (a b : Nat) : Nat := addS (mulS (loM a) 4602678819172646912 0) (mulS (hiM b) 4602678819172646912 0) 0
def midR (a b : Nat) : Nat := if noneB a b then 0 else if flt (refM a b) (loM a) then loM a else if flt (hiM b) (refM a b) then hiM b else refM a b

theorem rung_abs (x : Nat) : (rung x : Int) = idx x ∨ (rung x : Int) = - idx x := by unfold idx; cases sgn x <;> simp

theorem loM_facts {a : Nat} (ha : a < 18446744073709551616) (na : nan a = false) (s1 : flt a 9218868437227405312 = true) :
    rung (loM a) < INFR ∧ nan (loM a) = false ∧ loM a < 18446744073709551616 ∧ idx (loM a) = max (idx a) (-9218868437227405311) ∧ loM a = if feq a 18442240474082181120 then 18442240474082181119 else a := by
  have h := (flt_true.1 s1).2.2
  rw [idx_pinf] at h
  have l := idx_le na
  have k1 : idx 18442240474082181119 = -9218868437227405311 := by decide
  have k2 : nan 18442240474082181119 = false := by decide
  have e : loM a = if flt a 18442240474082181119 then 18442240474082181119 else a := rfl
  have nn : nan (loM a) = false := by rw [e]; split; exact k2; exact na
  have ii : idx (loM a) = max (idx a) (-9218868437227405311) := by
    rw [e]
    split
    · rename_i h1; have := (flt_true.1 h1).2.2; rw [k1] at this ⊢; omega
    · rename_i h1
      have : ¬ idx a < -9218868437227405311 := fun hh => h1 (flt_true.2 ⟨na, k2, by rw [k1]; exact hh⟩)
      omega
  refine ⟨?_, nn, maxF_lt ha (by decide), ii, ?_⟩
  · have := rung_abs (loM a)
    unfold INFR
    omega
  · rw [e]
    have : flt a 18442240474082181119 = feq a 18442240474082181120 := by
      rw [Bool.eq_iff_iff, flt_true, feq_true, k1, idx_ninf]
      constructor
      · rintro ⟨_, _, h3⟩; exact ⟨na, nan_ninf, by omega⟩
      · rintro ⟨_, _, h3⟩; exact ⟨na, k2, by omega⟩
    rw [this]
theorem hiM_facts {b : Nat} (hb : b < 18446744073709551616) (nb : nan b = false) (s2 : flt 18442240474082181120 b = true) :
    rung (hiM b) < INFR ∧ nan (hiM b) = false ∧ hiM b < 18446744073709551616 ∧ idx (hiM b) = min (idx b) 9218868437227405311 ∧ hiM b = if feq b 9218868437227405312 then 9218868437227405311 else b := by
  have h := (flt_true.1 s2).2.2
  rw [idx_ninf] at h
  have l := idx_le nb
  have k1 : idx 9218868437227405311 = 9218868437227405311 := by decide
  have k2 : nan 9218868437227405311 = false := by decide
  have e : hiM b = if flt 9218868437227405311 b then 9218868437227405311 else b := rfl
  have nn : nan (hiM b) = false := by rw [e]; split; exact k2; exact nb
  have ii : idx (hiM b) = min (idx b) 9218868437227405311 := by
    rw [e]
    split
    · rename_i h1; have := (flt_true.1 h1).2.2; rw [k1] at this ⊢; omega
    · rename_i h1
      have : ¬ 9218868437227405311 < idx b := fun hh => h1 (flt_true.2 ⟨k2, nb, by rw [k1]; exact hh⟩)
      omega
  refine ⟨?_, nn, minF_lt hb (by decide), ii, ?_⟩
  · have := rung_abs (hiM b)
    unfold INFR
    omega
  · rw [e]
    have : flt 9218868437227405311 b = feq b 9218868437227405312 := by
      rw [Bool.eq_iff_iff, flt_true, feq_true, k1, idx_pinf]
      constructor
      · rintro ⟨_, _, h3⟩; exact ⟨nb, nan_pinf, by omega⟩
      · rintro ⟨_, _, h3⟩; exact ⟨k2, nb, by omega⟩
    rw [this]

theorem mid_sum {lo hi : Nat} (hl : rung lo < INFR) (hh : rung hi < INFR) :
    idx (word (sumNeg (halfF lo) (halfF hi)) (rungOf (val (halfF lo) + val (halfF hi)).natAbs 1 0)) = idx (addS (mulS lo 4602678819172646912 0) (mulS hi 4602678819172646912 0) 0)
    ∧ nan (addS (mulS lo 4602678819172646912 0) (mulS hi 4602678819172646912 0) 0) = false := by
  obtain ⟨i1, j1⟩ := mulS_half hl
  obtain ⟨i2, j2⟩ := mulS_half hh
  have a1 := half_idx hl
  have a2 := half_idx hh
  have b1 := half_num hl
  have b2 := half_num hh
  generalize halfF lo = h1 at *
  generalize halfF hi = h2 at *
  generalize mulS lo 4602678819172646912 0 = p1 at *
  generalize mulS hi 4602678819172646912 0 = p2 at *
  have e1 : idx h1 = idx p1 := by rw [a1, i1]
  have e2 : idx h2 = idx p2 := by rw [a2, i2]
  have f1 : rung p1 < INFR := by have := rung_abs p1; have := rung_abs h1; omega
  have f2 : rung p2 < INFR := by have := rung_abs p2; have := rung_abs h2; omega
  have v1 : val h1 = val p1 := by rw [val_pv, val_pv, e1]
  have v2 : val h2 = val p2 := by rw [val_pv, val_pv, e2]
  rw [(sum_idx b1 b2).1, v1, v2]
  unfold addS
  rw [finB_rung.2 f1, finB_rung.2 f2]
  simp only [Bool.and_self, if_true]
  have l := plc_le (val p1 + val p2) 1 0
  have b := nan_bits l.1 l.2
  rw [rnd_eq]
  exact ⟨b.2.1.symm, b.1⟩

theorem mid_feq {a b : Nat} (ha : a < 18446744073709551616) (hb : b < 18446744073709551616) : feq (midA a b) (midR a b) = true := by
  unfold midA midR
  cases h0 : noneB a b
  · obtain ⟨n1, n2⟩ := nums_of h0
    obtain ⟨s1, s2⟩ := sides_of h0
    have r := (fle_true.1 (right_of h0).2).2.2
    obtain ⟨l1, l2, l3, l4, _⟩ := loM_facts ha n1 s1
    obtain ⟨g1, g2, g3, g4, _⟩ := hiM_facts hb n2 s2
    have hlo := (flt_true.1 s1).2.2
    have hhi := (flt_true.1 s2).2.2
    rw [idx_pinf] at hlo
    rw [idx_ninf] at hhi
    obtain ⟨q1, q2⟩ := mid_sum l1 g1
    have q3 : nan (sumM a b) = false := (sum_idx (half_num l1) (half_num g1)).2
    have e1 : sumM a b = word (sumNeg (halfF (loM a)) (halfF (hiM b))) (rungOf (val (halfF (loM a)) + val (halfF (hiM b))).natAbs 1 0) := rfl
    have e2 : refM a b = addS (mulS (loM a) 4602678819172646912 0) (mulS (hiM b) 4602678819172646912 0) 0 := rfl
    rw [← e1, ← e2] at q1
    rw [← e2] at q2
    generalize refM a b = m at *
    generalize sumM a b = s at *
    generalize loM a = lo at *
    generalize hiM b = hi at *
    simp only [Bool.false_eq_true, if_false]
    have x1 := maxG_idx q3 l2
    have x2 := maxG_nan q3 l2
    have x3 := minG_idx x2 g2
    have x4 := minG_nan x2 g2
    refine feq_true.2 ⟨nan_cl _ x4, ?_, ?_⟩
    · split
      · exact l2
      · split
        · exact g2
        · exact q2
    · rw [idx_cl, x3, x1]
      split
      · rename_i h; have := (flt_true.1 h).2.2; omega
      · rename_i h
        have : ¬ idx m < idx lo := fun hh => h (flt_true.2 ⟨q2, l2, hh⟩)
        split
        · rename_i h; have := (flt_true.1 h).2.2; omega
        · rename_i h
          have : ¬ idx hi < idx m := fun hh => h (flt_true.2 ⟨g2, q2, hh⟩)
          omega
  · exact (by decide : feq 0 0 = true)

theorem mulS_lt {a b : Nat} (dir : Int) : mulS a b dir < 18446744073709551616 := by
  unfold mulS
  repeat' split
  all_goals first | exact rnd_lt _ _ _ | decide | exact infW_lt _

end Go.Proofs.YtpkgpkabmechkaaGreat
