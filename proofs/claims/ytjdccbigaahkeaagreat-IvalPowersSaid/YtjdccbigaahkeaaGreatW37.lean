/- Contracts: intervals' sums. -/
import Derived.Test.YtjdccbigaahkeaaGreatW38
import Derived.Test.YtjdccbigaahkeaaGreatW32
namespace Go.Proofs.YtjdccbigaahkeaaGreat
set_option linter.unusedSimpArgs false
set_option linter.unusedVariables false
open Go.RowKit
open Fl

theorem addS_lt {a b : Nat} (dir : Int) (ha : a < 18446744073709551616) (hb : b < 18446744073709551616) : addS a b dir < 18446744073709551616 := by
  unfold addS
  repeat' split
  all_goals first | exact rnd_lt _ _ _ | decide | assumption

/-- A sum. -/
def sumI (a b c d : Nat) : Nat × Nat := if noneB a b || noneB c d then (9218868437227405312, 18442240474082181120) else endsI (addS a c (-1)) (addS b d 1)

theorem nan_rnd (S : Int) (D : Nat) (dir : Int) : nan (rnd S D dir) = false := by
  have h := rungOf_le S.natAbs D (if S < 0 then -dir else dir)
  unfold INFR at h
  unfold rnd
  refine (nan_bits ?_ ?_).1 <;> split <;> omega
theorem inf_sgn {a : Nat} (na : nan a = false) (hf : finB a = false) : rung a = 9218868437227405312 := by
  have h1 := nan_false.1 na
  have h2 := finB_false.1 hf
  unfold INFR at *
  omega
theorem addS_num {a b : Nat} (dir : Int) (na : nan a = false) (nb : nan b = false) (h : finB a = false → finB b = false → sgn a = sgn b) : nan (addS a b dir) = false := by
  unfold addS
  cases fa : finB a <;> cases fb : finB b <;> simp only [Bool.and_true, Bool.and_false, Bool.and_self, if_true, if_false, Bool.false_eq_true, na, nb, Bool.or_self]
  all_goals first | exact nan_rnd _ _ _ | exact na | exact nb | (rw [if_pos (h fa fb)]; exact na)
theorem sgn_low {a : Nat} (h : flt a 9218868437227405312 = true) (hf : finB a = false) (na : nan a = false) : sgn a = true := by
  have e := inf_sgn na hf
  unfold flt at h
  simp only [Bool.and_eq_true, decide_eq_true_eq] at h
  have h := h.2
  rw [idx_pinf] at h
  unfold idx at h
  cases hs : sgn a
  · rw [hs, e] at h; simp at h
  · rfl
theorem sgn_high {a : Nat} (h : flt 18442240474082181120 a = true) (hf : finB a = false) (na : nan a = false) : sgn a = false := by
  have e := inf_sgn na hf
  unfold flt at h
  simp only [Bool.and_eq_true, decide_eq_true_eq] at h
  have h := h.2
  rw [idx_ninf] at h
  unfold idx at h
  cases hs : sgn a
  · rfl
  · rw [hs, e] at h; simp at h

theorem makeI_lt {a b : Nat} (ha : a < 18446744073709551616) (hb : b < 18446744073709551616) : (makeI a b).1 < 18446744073709551616 ∧ (makeI a b).2 < 18446744073709551616 := by
  unfold makeI; split
  · exact ⟨cl_lt ha, cl_lt hb⟩
  · exact ⟨by decide, by decide⟩
theorem negI_lt {a b : Nat} (ha : a < 18446744073709551616) (hb : b < 18446744073709551616) : (negI a b).1 < 18446744073709551616 ∧ (negI a b).2 < 18446744073709551616 := by
  unfold negI; split
  · exact ⟨by decide, by decide⟩
  · exact makeI_lt (fneg_lt b) (fneg_lt a)

/-- A difference. -/
def diffI (a b c d : Nat) : Nat × Nat := sumI a b (negI c d).1 (negI c d).2

set_option maxHeartbeats 1000000 in
theorem ends_ref_any (lo hi : Nat) (hl : lo < 18446744073709551616) (hh : hi < 18446744073709551616) : Gives 18 #[(.float .f64 lo), (.float .f64 hi)] (.agg #[.float .f64 ((endsI lo hi).1), .float .f64 ((endsI lo hi).2)]) := by
  intro w
  have mk := make2_any (minF lo 9218868437227405311) (maxF hi 18442240474082181119) (minF_lt hl (by decide)) (maxF_lt hh (by decide))
  unfold endsI
  generalize makeI (minF lo 9218868437227405311) (maxF hi 18442240474082181119) = r at *
  clear hl hh
  unfold minF maxF at mk
  rcases fot (flt 9218868437227405311 lo) with h0 | h0 <;> rcases fot (flt hi 18442240474082181119) with h1 | h1
  all_goals
    simp only [h0, h1, ite_true, Bool.false_eq_true, ite_false] at mk
    go_enter Tryz.func18, Tryz.ntmps18
    go_wp2_with (go_at_call 28; refine (mk.go _).mono ?_; rintro _ _ ⟨n, rfl, rfl⟩)
    go_returns
    exact ⟨rfl, by (repeat' (first | (with_reducible exact Below.refl _ _) | (with_reducible assumption) | (with_reducible refine Later.belowOf _ ?_ ?_) | (with_reducible refine Below.alloc ?_ ?_ _) | (with_reducible refine Below.setCell ?_ ?_ _) | (with_reducible refine Below.drewN' _ ?_) | (with_reducible refine Below.drew ?_) | (with_reducible exact Ge.le) | go_size))⟩

end Go.Proofs.YtjdccbigaahkeaaGreat
