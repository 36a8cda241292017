/- Contracts: places of floats; the next one and the one before. -/
import Derived.Test.YtjdccbigaahkeaaW2
namespace Go.Proofs.Ytjdccbigaahkeaa
set_option linter.unusedSimpArgs false
set_option linter.unusedVariables false
open Go.RowKit
open Fl

set_option maxHeartbeats 400000 in
theorem clean_any (x : Nat) : Gives 96 #[(.float .f64 x)] (.float .f64 (cl x)) := by
  intro w
  refine (byB (feq x 0) (fun hc0 => ?_) (fun hc0 => ?_))
  all_goals
    go_enter Try.func96, Try.ntmps96
    go_wp2
    go_ret
    exact ⟨ret_float (by rw [cl_feq]; simp [hc0]), by (repeat' (first | (with_reducible exact Below.refl _ _) | (with_reducible assumption) | (with_reducible refine Later.belowOf _ ?_ ?_) | (with_reducible refine Below.alloc ?_ ?_ _) | (with_reducible refine Below.setCell ?_ ?_ _) | (with_reducible refine Below.drewN' _ ?_) | (with_reducible refine Below.drew ?_) | (with_reducible exact Ge.le) | go_size))⟩

theorem idx_small {x : Nat} (h : x < 9223372036854775808) : idx x = x := by
  unfold idx sgn rung SW
  have e : x / 9223372036854775808 = 0 := by omega
  rw [e]; simp; omega
theorem idx_great {x : Nat} (h : 9223372036854775808 ≤ x) (h2 : x < 18446744073709551616) : idx x = 9223372036854775808 - x := by
  unfold idx sgn rung SW
  have e : x / 9223372036854775808 = 1 := by omega
  rw [e]; simp; omega

set_option maxHeartbeats 400000 in
theorem index_any (x : Nat) (hx : x < 18446744073709551616) : Gives 97 #[(.float .f64 x)] (.int .i64 (idx x)) := by
  intro w
  by_cases h : x < 9223372036854775808
  · have hb : ((x : Int) / 9223372036854775808 == 1) = false := by rw [beq_eq_false_iff_ne]; omega
    go_enter Try.func97, Try.ntmps97
    go_wp2
    go_ret
    exact ⟨ret_int (idx_small h).symm, by (repeat' (first | (with_reducible exact Below.refl _ _) | (with_reducible assumption) | (with_reducible refine Later.belowOf _ ?_ ?_) | (with_reducible refine Below.alloc ?_ ?_ _) | (with_reducible refine Below.setCell ?_ ?_ _) | (with_reducible refine Below.drewN' _ ?_) | (with_reducible refine Below.drew ?_) | (with_reducible exact Ge.le) | go_size))⟩
  · have hb : ((x : Int) / 9223372036854775808 == 1) = true := by rw [beq_iff_eq]; omega
    have h3 : 9223372036854775808 ≤ x := by omega
    clear h
    go_enter Try.func97, Try.ntmps97
    go_wp2
    go_ret
    exact ⟨ret_int (by rw [idx_great h3 hx]; omega), by (repeat' (first | (with_reducible exact Below.refl _ _) | (with_reducible assumption) | (with_reducible refine Later.belowOf _ ?_ ?_) | (with_reducible refine Below.alloc ?_ ?_ _) | (with_reducible refine Below.setCell ?_ ?_ _) | (with_reducible refine Below.drewN' _ ?_) | (with_reducible refine Below.drew ?_) | (with_reducible exact Ge.le) | go_size))⟩
set_option maxHeartbeats 400000 in
theorem at_any (i : Int) (h1 : -9218868437227405312 ≤ i) (h2 : i ≤ 9218868437227405312) : Gives 98 #[.int .i64 i] (.float .f64 (bitsOf i)) := by
  intro w
  by_cases h : i < 0
  · go_enter Try.func98, Try.ntmps98
    go_wp2
    go_ret
    exact ⟨ret_float (by unfold bitsOf SW; rw [if_pos h]; omega), by (repeat' (first | (with_reducible exact Below.refl _ _) | (with_reducible assumption) | (with_reducible refine Later.belowOf _ ?_ ?_) | (with_reducible refine Below.alloc ?_ ?_ _) | (with_reducible refine Below.setCell ?_ ?_ _) | (with_reducible refine Below.drewN' _ ?_) | (with_reducible refine Below.drew ?_) | (with_reducible exact Ge.le) | go_size))⟩
  · go_enter Try.func98, Try.ntmps98
    go_wp2
    go_ret
    exact ⟨ret_float (by unfold bitsOf; rw [if_neg (by omega)]), by (repeat' (first | (with_reducible exact Below.refl _ _) | (with_reducible assumption) | (with_reducible refine Later.belowOf _ ?_ ?_) | (with_reducible refine Below.alloc ?_ ?_ _) | (with_reducible refine Below.setCell ?_ ?_ _) | (with_reducible refine Below.drewN' _ ?_) | (with_reducible refine Below.drew ?_) | (with_reducible exact Ge.le) | go_size))⟩

def nextB (x : Nat) : Nat := if nan x then x else if idx x = 9218868437227405312 then x else bitsOf (idx x + 1)
def prevB (x : Nat) : Nat := if nan x then x else if idx x = -9218868437227405312 then x else bitsOf (idx x - 1)

theorem feq_self (x : Nat) : feq x x = !nan x := by unfold feq; cases nan x <;> simp

theorem bits_small {x : Nat} (h : 0 ≤ idx x) (hn : idx x ≠ 0) (h2 : x < 18446744073709551616) : (x : Int) = idx x := by
  by_cases hx : x < 9223372036854775808
  · rw [idx_small hx]
  · exfalso
    rw [idx_great (by omega) h2] at h hn; omega
theorem bits_great {x : Nat} (h : idx x < 0) (h2 : x < 18446744073709551616) : (x : Int) = 9223372036854775808 - idx x ∧ 9223372036854775808 < x := by
  by_cases hx : x < 9223372036854775808
  · rw [idx_small hx] at h; omega
  · rw [idx_great (by omega) h2] at *; omega

theorem cl_bitsOf {i : Int} (h1 : -9218868437227405312 ≤ i) (h2 : i ≤ 9218868437227405312) : cl (bitsOf i) = bitsOf i := by
  obtain ⟨a, b, c⟩ := idx_bitsOf (i := i) h1 h2
  unfold cl
  rw [a]
  split
  · rename_i h; rw [h]; rfl
  · rfl

set_option maxHeartbeats 1000000 in
theorem next_any (x : Nat) (hx : x < 18446744073709551616) : Gives 31 #[(.float .f64 x)] (.float .f64 (nextB x)) := by
  intro w
  rcases tof (nan x) with hn | hn
  · have e : nextB x = x := by unfold nextB; rw [hn]; rfl
    rw [e]
    have f1 : feq x x = false := by rw [feq_self, hn]; rfl
    clear hn e hx
    go_enter Try.func31, Try.ntmps31
    go_wp2
    go_ret
    exact ⟨rfl, by (repeat' (first | (with_reducible exact Below.refl _ _) | (with_reducible assumption) | (with_reducible refine Later.belowOf _ ?_ ?_) | (with_reducible refine Below.alloc ?_ ?_ _) | (with_reducible refine Below.setCell ?_ ?_ _) | (with_reducible refine Below.drewN' _ ?_) | (with_reducible refine Below.drew ?_) | (with_reducible exact Ge.le) | go_size))⟩
  · have f1 : feq x x = true := by rw [feq_self, hn]; rfl
    have l := idx_le hn
    rcases tof (feq x 9218868437227405312) with f2 | f2
    · have h := feq_true.1 f2
      have e : nextB x = x := by unfold nextB; rw [hn, h.2.2, idx_pinf]; rfl
      rw [e]
      clear hn e hx l h
      go_enter Try.func31, Try.ntmps31
      go_wp2
      go_ret
      exact ⟨rfl, by (repeat' (first | (with_reducible exact Below.refl _ _) | (with_reducible assumption) | (with_reducible refine Later.belowOf _ ?_ ?_) | (with_reducible refine Below.alloc ?_ ?_ _) | (with_reducible refine Below.setCell ?_ ?_ _) | (with_reducible refine Below.drewN' _ ?_) | (with_reducible refine Below.drew ?_) | (with_reducible exact Ge.le) | go_size))⟩
    · have hi : idx x ≠ 9218868437227405312 := by
        intro h
        have := feq_true.2 ⟨hn, nan_pinf, by rw [h, idx_pinf]⟩
        rw [this] at f2; exact absurd f2 (by decide)
      have e : nextB x = bitsOf (idx x + 1) := by unfold nextB; rw [hn, if_neg hi]; rfl
      rw [e]
      clear e
      have z0 : idx 0 = 0 := by decide
      have z1 : nan 0 = false := by decide
      rcases tof (feq x 0) with f3 | f3
      · have h := feq_true.1 f3
        rw [h.2.2, z0]
        clear hn hx l h hi z0 z1
        go_enter Try.func31, Try.ntmps31
        go_wp2
        go_ret
        exact ⟨rfl, by (repeat' (first | (with_reducible exact Below.refl _ _) | (with_reducible assumption) | (with_reducible refine Later.belowOf _ ?_ ?_) | (with_reducible refine Below.alloc ?_ ?_ _) | (with_reducible refine Below.setCell ?_ ?_ _) | (with_reducible refine Below.drewN' _ ?_) | (with_reducible refine Below.drew ?_) | (with_reducible exact Ge.le) | go_size))⟩
      · have h0 : idx x ≠ 0 := by
          intro h
          have := feq_true.2 ⟨hn, z1, by rw [h, z0]⟩
          rw [this] at f3; exact absurd f3 (by decide)
        rcases tof (flt 0 x) with f4 | f4
        · have h := (flt_true.1 f4).2.2
          rw [z0] at h
          have hb := bits_small (by omega) h0 hx
          have r1 : (x : Int) ≤ 9218868437227405312 := by omega
          have r2 : ((x : Int) + 1).toNat = bitsOf (idx x + 1) := by unfold bitsOf; rw [if_neg (by omega)]; omega
          have R := Lib.hid r2
          clear hn hx l h hi z0 z1 hb h0 r2
          go_enter Try.func31, Try.ntmps31
          go_wp2
          go_ret
          exact ⟨ret_float R.out, by (repeat' (first | (with_reducible exact Below.refl _ _) | (with_reducible assumption) | (with_reducible refine Later.belowOf _ ?_ ?_) | (with_reducible refine Below.alloc ?_ ?_ _) | (with_reducible refine Below.setCell ?_ ?_ _) | (with_reducible refine Below.drewN' _ ?_) | (with_reducible refine Below.drew ?_) | (with_reducible exact Ge.le) | go_size))⟩
        · have h : idx x < 0 := by
            have : ¬ (idx 0 < idx x) := by
              intro hh
              have := flt_true.2 ⟨z1, hn, hh⟩
              rw [this] at f4; exact absurd f4 (by decide)
            rw [z0] at this; omega
          have hb := bits_great h hx
          have r1 : 9223372036854775808 ≤ (x : Int) := by omega
          have r2 : cl ((x : Int) - 1).toNat = bitsOf (idx x + 1) := by
            by_cases h1 : idx x = -1
            · have : ((x : Int) - 1).toNat = 9223372036854775808 := by omega
              rw [this, h1]; decide
            · have : ((x : Int) - 1).toNat = bitsOf (idx x + 1) := by unfold bitsOf SW; rw [if_pos (by omega)]; omega
              rw [this, cl_bitsOf (by omega) (by omega)]
          have R := Lib.hid r2
          have r3 : (x : Int) ≤ 18446744073709551615 := by omega
          clear hn hx l h hi z0 z1 hb h0 r2
          go_enter Try.func31, Try.ntmps31
          go_wp2_with (first | (go_at_call 96; refine ((clean_any _).go _).mono ?_; rintro _ _ ⟨n, rfl, rfl⟩) | (go_at_call 94; refine ((isNaN_any _).go _).mono ?_; rintro _ _ ⟨n, rfl, rfl⟩) | (go_at_call 88; refine (math_Inf_pos.go _).mono ?_; rintro _ _ ⟨n, rfl, rfl⟩))
          go_ret
          exact ⟨ret_float (by rw [← R.out]; congr 1; omega), by (repeat' (first | (with_reducible exact Below.refl _ _) | (with_reducible assumption) | (with_reducible refine Later.belowOf _ ?_ ?_) | (with_reducible refine Below.alloc ?_ ?_ _) | (with_reducible refine Below.setCell ?_ ?_ _) | (with_reducible refine Below.drewN' _ ?_) | (with_reducible refine Below.drew ?_) | (with_reducible exact Ge.le) | go_size))⟩

theorem fneg_fneg {x : Nat} (hx : x < 18446744073709551616) : fneg (fneg x) = x := by
  have : fneg (fneg x) = word (!!sgn x) (rung x) := by
    rw [show fneg (fneg x) = word (!sgn (fneg x)) (rung (fneg x)) from rfl, rung_fneg, sgn_fneg]
  rw [this, Bool.not_not, word_of hx]

theorem fneg_bitsOf {i : Int} (h1 : -9218868437227405312 ≤ i) (h2 : i ≤ 9218868437227405312) : cl (fneg (bitsOf i)) = bitsOf (-i) := by
  obtain ⟨a, b, c⟩ := idx_bitsOf (i := i) h1 h2
  rw [cl_eq (fneg_lt _), idx_fneg, a]

theorem nextB_lt {x : Nat} (hx : x < 18446744073709551616) : nextB x < 18446744073709551616 := by
  unfold nextB
  split
  · exact hx
  · rename_i h
    split
    · exact hx
    · have := idx_le (by simpa using h)
      exact (idx_bitsOf (i := idx x + 1) (by unfold INFR; omega) (by unfold INFR; omega)).2.2

theorem prev_next {x : Nat} (hx : x < 18446744073709551616) : cl (fneg (nextB (fneg x))) = cl (prevB x) := by
  unfold nextB prevB
  rw [nan_fneg, idx_fneg]
  by_cases h : nan x = true
  · rw [if_pos h, if_pos h, fneg_fneg hx]
  · rw [if_neg h, if_neg h]
    have l := idx_le (by simpa using h)
    by_cases h2 : idx x = -9218868437227405312
    · rw [if_pos h2, if_pos (by omega), fneg_fneg hx]
    · rw [if_neg h2, if_neg (by omega), fneg_bitsOf (by omega) (by omega), cl_bitsOf (by omega) (by omega)]
      congr 1; omega

theorem cl_prevB {x : Nat} (hx : x < 18446744073709551616) : cl (prevB x) = prevB x := by
  unfold prevB
  split
  · rename_i h; exact cl_nan h
  · rename_i h
    have l := idx_le (by simpa using h)
    split
    · rename_i h2; unfold cl; rw [if_neg (by omega)]
    · rw [cl_bitsOf (by omega) (by omega)]

@[go_sem] theorem run_fneg (P : Program) (w : World) (x : Nat) : (Op.unary .neg (.float .f64 x)).run P w = .ok (.float .f64 (Op.negFloat .f64 x)) w := rfl

set_option maxHeartbeats 1000000 in
theorem prev_any (x : Nat) (hx : x < 18446744073709551616) : Gives 33 #[(.float .f64 x)] (.float .f64 (prevB x)) := by
  intro w
  rw [← cl_prevB hx, ← prev_next hx]
  have n1 := next_any (fneg x) (fneg_lt x)
  have e1 := fneg_eq hx
  have e2 := fneg_eq (nextB_lt (fneg_lt x))
  clear hx
  go_enter Try.func33, Try.ntmps33
  go_wp2_with (first | (go_at_call 96; refine ((clean_any _).go _).mono ?_; rintro _ _ ⟨n, rfl, rfl⟩) | (go_at_call 31; refine (n1.go _).mono ?_; rintro _ _ ⟨n, rfl, rfl⟩))
  go_ret
  exact ⟨rfl, by (repeat' (first | (with_reducible exact Below.refl _ _) | (with_reducible assumption) | (with_reducible refine Later.belowOf _ ?_ ?_) | (with_reducible refine Below.alloc ?_ ?_ _) | (with_reducible refine Below.setCell ?_ ?_ _) | (with_reducible refine Below.drewN' _ ?_) | (with_reducible refine Below.drew ?_) | (with_reducible exact Ge.le) | go_size))⟩

set_option maxHeartbeats 1000000 in
theorem next1_any (x : Nat) (hx : x < 18446744073709551616) : Gives 32 #[(.float .f64 x)] (.float .f64 (nextB x)) := by
  intro w
  have i1 := index_any x hx
  rcases tof (nan x) with hn | hn
  · have e : nextB x = x := by unfold nextB; rw [hn]; rfl
    rw [e]
    clear e hx i1
    go_enter Try.func32, Try.ntmps32
    go_wp2_with (go_at_call 43; refine ((isNum_any _).go _).mono ?_; rintro _ _ ⟨n, rfl, rfl⟩)
    go_ret
    exact ⟨rfl, by (repeat' (first | (with_reducible exact Below.refl _ _) | (with_reducible assumption) | (with_reducible refine Later.belowOf _ ?_ ?_) | (with_reducible refine Below.alloc ?_ ?_ _) | (with_reducible refine Below.setCell ?_ ?_ _) | (with_reducible refine Below.drewN' _ ?_) | (with_reducible refine Below.drew ?_) | (with_reducible exact Ge.le) | go_size))⟩
  · have l := idx_le hn
    by_cases h : 9218868437227405311 < idx x
    · have e : nextB x = x := by unfold nextB; rw [hn, show idx x = 9218868437227405312 by omega]; rfl
      rw [e]
      clear e hx
      go_enter Try.func32, Try.ntmps32
      go_wp2_with (first | (go_at_call 43; refine ((isNum_any _).go _).mono ?_; rintro _ _ ⟨n, rfl, rfl⟩) | (go_at_call 97; refine (i1.go _).mono ?_; rintro _ _ ⟨n, rfl, rfl⟩))
      go_ret
      exact ⟨rfl, by (repeat' (first | (with_reducible exact Below.refl _ _) | (with_reducible assumption) | (with_reducible refine Later.belowOf _ ?_ ?_) | (with_reducible refine Below.alloc ?_ ?_ _) | (with_reducible refine Below.setCell ?_ ?_ _) | (with_reducible refine Below.drewN' _ ?_) | (with_reducible refine Below.drew ?_) | (with_reducible exact Ge.le) | go_size))⟩
    · have e : nextB x = bitsOf (idx x + 1) := by unfold nextB; rw [hn, if_neg (by decide), if_neg (by omega)]
      rw [e]
      have a1 := at_any (idx x + 1) (by omega) (by omega)
      clear e hx
      go_enter Try.func32, Try.ntmps32
      go_wp2_with (first | (go_at_call 43; refine ((isNum_any _).go _).mono ?_; rintro _ _ ⟨n, rfl, rfl⟩) | (go_at_call 97; refine (i1.go _).mono ?_; rintro _ _ ⟨n, rfl, rfl⟩) | (go_at_call 98; refine (a1.go _).mono ?_; rintro _ _ ⟨n, rfl, rfl⟩))
      go_ret
      exact ⟨rfl, by (repeat' (first | (with_reducible exact Below.refl _ _) | (with_reducible assumption) | (with_reducible refine Later.belowOf _ ?_ ?_) | (with_reducible refine Below.alloc ?_ ?_ _) | (with_reducible refine Below.setCell ?_ ?_ _) | (with_reducible refine Below.drewN' _ ?_) | (with_reducible refine Below.drew ?_) | (with_reducible exact Ge.le) | go_size))⟩

set_option maxHeartbeats 1000000 in
theorem prev1_any (x : Nat) (hx : x < 18446744073709551616) : Gives 34 #[(.float .f64 x)] (.float .f64 (prevB x)) := by
  intro w
  have i1 := index_any x hx
  rcases tof (nan x) with hn | hn
  · have e : prevB x = x := by unfold prevB; rw [hn]; rfl
    rw [e]
    clear e hx i1
    go_enter Try.func34, Try.ntmps34
    go_wp2_with (go_at_call 43; refine ((isNum_any _).go _).mono ?_; rintro _ _ ⟨n, rfl, rfl⟩)
    go_ret
    exact ⟨rfl, by (repeat' (first | (with_reducible exact Below.refl _ _) | (with_reducible assumption) | (with_reducible refine Later.belowOf _ ?_ ?_) | (with_reducible refine Below.alloc ?_ ?_ _) | (with_reducible refine Below.setCell ?_ ?_ _) | (with_reducible refine Below.drewN' _ ?_) | (with_reducible refine Below.drew ?_) | (with_reducible exact Ge.le) | go_size))⟩
  · have l := idx_le hn
    by_cases h : idx x < -9218868437227405311
    · have e : prevB x = x := by unfold prevB; rw [hn, show idx x = -9218868437227405312 by omega]; rfl
      rw [e]
      clear e hx
      go_enter Try.func34, Try.ntmps34
      go_wp2_with (first | (go_at_call 43; refine ((isNum_any _).go _).mono ?_; rintro _ _ ⟨n, rfl, rfl⟩) | (go_at_call 97; refine (i1.go _).mono ?_; rintro _ _ ⟨n, rfl, rfl⟩))
      go_ret
      exact ⟨rfl, by (repeat' (first | (with_reducible exact Below.refl _ _) | (with_reducible assumption) | (with_reducible refine Later.belowOf _ ?_ ?_) | (with_reducible refine Below.alloc ?_ ?_ _) | (with_reducible refine Below.setCell ?_ ?_ _) | (with_reducible refine Below.drewN' _ ?_) | (with_reducible refine Below.drew ?_) | (with_reducible exact Ge.le) | go_size))⟩
    · have e : prevB x = bitsOf (idx x - 1) := by unfold prevB; rw [hn, if_neg (by decide), if_neg (by omega)]
      rw [e]
      have a1 := at_any (idx x - 1) (by omega) (by omega)
      clear e hx
      go_enter Try.func34, Try.ntmps34
      go_wp2_with (first | (go_at_call 43; refine ((isNum_any _).go _).mono ?_; rintro _ _ ⟨n, rfl, rfl⟩) | (go_at_call 97; refine (i1.go _).mono ?_; rintro _ _ ⟨n, rfl, rfl⟩) | (go_at_call 98; refine (a1.go _).mono ?_; rintro _ _ ⟨n, rfl, rfl⟩))
      go_ret
      exact ⟨rfl, by (repeat' (first | (with_reducible exact Below.refl _ _) | (with_reducible assumption) | (with_reducible refine Later.belowOf _ ?_ ?_) | (with_reducible refine Below.alloc ?_ ?_ _) | (with_reducible refine Below.setCell ?_ ?_ _) | (with_reducible refine Below.drewN' _ ?_) | (with_reducible refine Below.drew ?_) | (with_reducible exact Ge.le) | go_size))⟩
end Go.Proofs.Ytjdccbigaahkeaa
