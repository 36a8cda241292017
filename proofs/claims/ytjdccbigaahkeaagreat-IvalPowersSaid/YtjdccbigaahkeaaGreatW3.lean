/- Contracts: places of floats; the next one and the one before. -/
import Derived.Test.YtjdccbigaahkeaaGreatW2
namespace Go.Proofs.YtjdccbigaahkeaaGreat
set_option linter.unusedSimpArgs false
set_option linter.unusedVariables false
open Go.RowKit
open Fl

set_option maxHeartbeats 400000 in
theorem clean_any (x : Nat) : Gives 79 #[(.float .f64 x)] (.float .f64 (cl x)) := by
  intro w
  refine (byB (feq x 0) (fun hc0 => ?_) (fun hc0 => ?_))
  all_goals
    go_enter Tryz.func79, Tryz.ntmps79
    go_wp2
    go_ret
    exact ⟨ret_float (by rw [cl_feq]; simp [hc0]), by (repeat' (first | (with_reducible exact Below.refl _ _) | (with_reducible assumption) | (with_reducible refine Later.belowOf _ ?_ ?_) | (with_reducible refine Below.alloc ?_ ?_ _) | (with_reducible refine Below.setCell ?_ ?_ _) | (with_reducible refine Below.drewN' _ ?_) | (with_reducible refine Below.drew ?_) | (with_reducible exact Ge.le) | go_size))⟩

theorem idx_small {x : Nat} (h : x < 9223372036854775808) : idx x = x := by
  unfold idx sgn rung SW
  have e : x / 9223372036854775808 = 0 := by omega
  rw [e]; simp; omega
theorem idx_great {x : Nat} (h : 9223372036854775808 ≤ x) (h2 : x < 18446744073709551616) : idx x = 9223372036854775808 - x := by
  unfold idx sgn rung SW
  have e : x / 9223372036854775808 = 1 := by omega
  rw [e]; simp; omega

set_option maxHeartbeats 400000 in
theorem index_any (x : Nat) (hx : x < 18446744073709551616) : Gives 90 #[(.float .f64 x)] (.int .i64 (idx x)) := by
  intro w
  by_cases h : x < 9223372036854775808
  · have hb : ((x : Int) / 9223372036854775808 == 1) = false := by rw [beq_eq_false_iff_ne]; omega
    go_enter Tryz.func90, Tryz.ntmps90
    go_wp2
    go_ret
    exact ⟨ret_int (idx_small h).symm, by (repeat' (first | (with_reducible exact Below.refl _ _) | (with_reducible assumption) | (with_reducible refine Later.belowOf _ ?_ ?_) | (with_reducible refine Below.alloc ?_ ?_ _) | (with_reducible refine Below.setCell ?_ ?_ _) | (with_reducible refine Below.drewN' _ ?_) | (with_reducible refine Below.drew ?_) | (with_reducible exact Ge.le) | go_size))⟩
  · have hb : ((x : Int) / 9223372036854775808 == 1) = true := by rw [beq_iff_eq]; omega
    have h3 : 9223372036854775808 ≤ x := by omega
    clear h
    go_enter Tryz.func90, Tryz.ntmps90
    go_wp2
    go_ret
    exact ⟨ret_int (by rw [idx_great h3 hx]; omega), by (repeat' (first | (with_reducible exact Below.refl _ _) | (with_reducible assumption) | (with_reducible refine Later.belowOf _ ?_ ?_) | (with_reducible refine Below.alloc ?_ ?_ _) | (with_reducible refine Below.setCell ?_ ?_ _) | (with_reducible refine Below.drewN' _ ?_) | (with_reducible refine Below.drew ?_) | (with_reducible exact Ge.le) | go_size))⟩
set_option maxHeartbeats 400000 in
theorem at_any (i : Int) (h1 : -9218868437227405312 ≤ i) (h2 : i ≤ 9218868437227405312) : Gives 73 #[.int .i64 i] (.float .f64 (bitsOf i)) := by
  intro w
  by_cases h : i < 0
  · go_enter Tryz.func73, Tryz.ntmps73
    go_wp2
    go_ret
    exact ⟨ret_float (by unfold bitsOf SW; rw [if_pos h]; omega), by (repeat' (first | (with_reducible exact Below.refl _ _) | (with_reducible assumption) | (with_reducible refine Later.belowOf _ ?_ ?_) | (with_reducible refine Below.alloc ?_ ?_ _) | (with_reducible refine Below.setCell ?_ ?_ _) | (with_reducible refine Below.drewN' _ ?_) | (with_reducible refine Below.drew ?_) | (with_reducible exact Ge.le) | go_size))⟩
  · go_enter Tryz.func73, Tryz.ntmps73
    go_wp2
    go_ret
    exact ⟨ret_float (by unfold bitsOf; rw [if_neg (by omega)]), by (repeat' (first | (with_reducible exact Below.refl _ _) | (with_reducible assumption) | (with_reducible refine Later.belowOf _ ?_ ?_) | (with_reducible refine Below.alloc ?_ ?_ _) | (with_reducible refine Below.setCell ?_ ?_ _) | (with_reducible refine Below.drewN' _ ?_) | (with_reducible refine Below.drew ?_) | (with_reducible exact Ge.le) | go_size))⟩

def nextB (x : Nat) : Nat := if nan x then x else if idx x = 9218868437227405312 then x else bitsOf (idx x + 1)
def prevB (x : Nat) : Nat := if nan x then x else if idx x = -9218868437227405312 then x else bitsOf (idx x - 1)

theorem feq_self (x : Nat) : feq x x = !nan x := by unfold feq; cases nan x <;> simp

theorem bits_small {x : Nat} (h : 0 ≤ idx x) (hn : idx x ≠ 0) (h2 : x < 18446744073709551616) : (x : Int) = idx x := by
  by_cases hx : x < 9223372036854775808
  · rw [idx_small hx]
  · exfalso
    rw [idx_great (by omega) h2] at h hn; omega
theorem bits_great {x : Nat} (h : idx x < 0) (h2 : x < 18446744073709551616) : (x : Int) = 9223372036854775808 - idx x ∧ 9223372036854775808 < x := by
  by_cases hx : x < 9223372036854775808
  · rw [idx_small hx] at h; omega
  · rw [idx_great (by omega) h2] at *; omega

theorem cl_bitsOf {i : Int} (h1 : -9218868437227405312 ≤ i) (h2 : i ≤ 9218868437227405312) : cl (bitsOf i) = bitsOf i := by
  obtain ⟨a, b, c⟩ := idx_bitsOf (i := i) h1 h2
  unfold cl
  rw [a]
  split
  · rename_i h; rw [h]; rfl
  · rfl

theorem fneg_fneg {x : Nat} (hx : x < 18446744073709551616) : fneg (fneg x) = x := by
  have : fneg (fneg x) = word (!!sgn x) (rung x) := by
    rw [show fneg (fneg x) = word (!sgn (fneg x)) (rung (fneg x)) from rfl, rung_fneg, sgn_fneg]
  rw [this, Bool.not_not, word_of hx]

theorem fneg_bitsOf {i : Int} (h1 : -9218868437227405312 ≤ i) (h2 : i ≤ 9218868437227405312) : cl (fneg (bitsOf i)) = bitsOf (-i) := by
  obtain ⟨a, b, c⟩ := idx_bitsOf (i := i) h1 h2
  rw [cl_eq (fneg_lt _), idx_fneg, a]

theorem nextB_lt {x : Nat} (hx : x < 18446744073709551616) : nextB x < 18446744073709551616 := by
  unfold nextB
  split
  · exact hx
  · rename_i h
    split
    · exact hx
    · have := idx_le (by simpa using h)
      exact (idx_bitsOf (i := idx x + 1) (by unfold INFR; omega) (by unfold INFR; omega)).2.2

theorem prev_next {x : Nat} (hx : x < 18446744073709551616) : cl (fneg (nextB (fneg x))) = cl (prevB x) := by
  unfold nextB prevB
  rw [nan_fneg, idx_fneg]
  by_cases h : nan x = true
  · rw [if_pos h, if_pos h, fneg_fneg hx]
  · rw [if_neg h, if_neg h]
    have l := idx_le (by simpa using h)
    by_cases h2 : idx x = -9218868437227405312
    · rw [if_pos h2, if_pos (by omega), fneg_fneg hx]
    · rw [if_neg h2, if_neg (by omega), fneg_bitsOf (by omega) (by omega), cl_bitsOf (by omega) (by omega)]
      congr 1; omega

theorem cl_prevB {x : Nat} (hx : x < 18446744073709551616) : cl (prevB x) = prevB x := by
  unfold prevB
  split
  · rename_i h; exact cl_nan h
  · rename_i h
    have l := idx_le (by simpa using h)
    split
    · rename_i h2; unfold cl; rw [if_neg (by omega)]
    · rw [cl_bitsOf (by omega) (by omega)]

@[go_sem] theorem run_fneg (P : Program) (w : World) (x : Nat) : (Op.unary .neg (.float .f64 x)).run P w = .ok (.float .f64 (Op.negFloat .f64 x)) w := rfl

end Go.Proofs.YtjdccbigaahkeaaGreat
