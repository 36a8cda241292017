/- Contracts: math's small functions; what intervals may be. -/
import Derived.Test.YtpkgpkabmechkaaW0
import Derived.Test.YtpkgpkabmechkaaFlA
import Derived.LoopN
namespace Go.Proofs.Ytpkgpkabmechkaa
set_option linter.unusedSimpArgs false
set_option linter.unusedVariables false
open Go.RowKit
open Fl

def infB (s : Int) : Nat := if s ≥ 0 then 9218868437227405312 else 18442240474082181120

set_option maxHeartbeats 400000 in
theorem math_Inf_any (s : Int) : Gives 31 #[.int .i64 s] (.float .f64 (infB s)) := by
  intro w
  unfold infB
  by_cases h : s ≥ 0
  · go_enter Try.func31, Try.ntmps31
    go_wp2
    go_ret
    exact ⟨by simp [h], Below.refl _ _⟩
  · go_enter Try.func31, Try.ntmps31
    go_wp2
    go_ret
    exact ⟨by simp [h], Below.refl _ _⟩

theorem math_Inf_pos : Gives 31 #[.int .i64 1] (.float .f64 9218868437227405312) := math_Inf_any 1
theorem math_Inf_neg : Gives 31 #[.int .i64 (-1)] (.float .f64 18442240474082181120) := math_Inf_any (-1)
theorem math_Inf_zero : Gives 31 #[.int .i64 0] (.float .f64 9218868437227405312) := math_Inf_any 0

def signB (x : Nat) : Bool := decide (wrap64 (x : Int) < 0)

set_option maxHeartbeats 400000 in
theorem signbit_any (x : Nat) : Gives 34 #[.float .f64 x] (.bool (signB x)) := by
  intro w
  go_enter Try.func34, Try.ntmps34
  go_wp2
  go_ret
  exact ⟨rfl, Below.refl _ _⟩

theorem abs_bits {x : Nat} (hx : x < 18446744073709551616) : (Go.bits .andNot .u64 x 9223372036854775808).toNat = rung x := by
  have h := u64_andNot_nat x 9223372036854775808 hx (by decide)
  have e : ((9223372036854775808 : Nat) : Int) = 9223372036854775808 := rfl
  rw [e] at h
  rw [h, Int.toNat_natCast]
  have : (18446744073709551615 - 9223372036854775808 : Nat) = 2 ^ 63 - 1 := by decide
  rw [this, Nat.and_two_pow_sub_one_eq_mod]
  rfl

def plusB (x : Nat) : Bool := !feq x 0 || !signB x

set_option maxHeartbeats 400000 in
theorem plus_any (x : Nat) : Gives 32 #[.float .f64 x] (.bool (plusB x)) := by
  intro w
  unfold plusB
  cases h : feq x 0
  · go_enter Try.func32, Try.ntmps32
    go_wp2_with (go_at_call 34; refine (signbit_any _ _).mono ?_; rintro e w' ⟨rfl, hb⟩)
    go_ret
    exact ⟨ret_bool (by simp), Below.refl _ _⟩
  · go_enter Try.func32, Try.ntmps32
    go_wp2_with (go_at_call 34; refine (signbit_any _ _).mono ?_; rintro e w' ⟨rfl, hb⟩)
    go_ret
    exact ⟨ret_bool (by simp), hb⟩

/-! ### Intervals, whole -/

@[go_sem] theorem build_iv (a b : Nat) (w : World) : (Instr.build 39 #[(0, .float .f64 a), (1, .float .f64 b)]).run Try.prog w = .ok (.agg #[.float .f64 a, .float .f64 b]) w := run_build w 39 _ _ (by kernel_rfl)
def eqI (a b c d : Nat) : Bool := feq a c && feq b d
@[go_sem high] theorem eq_iv (a b c d : Nat) (w : World) : (Op.equalIn 10000 39 (.agg #[.float .f64 a, .float .f64 b]) (.agg #[.float .f64 c, .float .f64 d])).run Try.prog w = .ok (eqI a b c d) w := by
  have u3 := Try.underlying37
  have a3 := Try.isAgg37
  have z3 := Try.sizeOf37
  have hS : Try.prog.underlying 39 = some (.struct (Try.prog.fieldsOf 39)) := by kernel_rfl
  have hp : Try.prog.stoodInHeld 39 = false := by kernel_rfl
  rw [show (10000 : Nat) = 9999 + 1 from rfl, run_equalIn_agg w 9999 39 _ _ hS hp]
  simp only [Program.fieldsOf, Try.underlying39]
  unfold eqI
  go_simp
  cases feq a c <;> cases feq b d <;> rfl

set_option maxHeartbeats 400000 in
theorem empty_any : Gives 25 #[] (.agg #[.float .f64 9218868437227405312, .float .f64 18442240474082181120]) := by
  intro w
  go_enter Try.func25, Try.ntmps25
  go_wp2
  go_returns
  exact ⟨rfl, (Below.refl _ _).alloc (Nat.le_refl _) _⟩
def rightB (a b : Nat) : Bool := eqI a b 9218868437227405312 18442240474082181120 || (fle a b && (flt a 9218868437227405312 && (flt 18442240474082181120 b && (plusB a && plusB b))))

set_option maxHeartbeats 1000000 in
theorem right_any (a b : Nat) : Gives 24 #[(.agg #[.float .f64 a, .float .f64 b])] (.bool (rightB a b)) := by
  intro w
  unfold rightB
  refine (byB (eqI a b 9218868437227405312 18442240474082181120) (fun hc0 => ?_) (fun hc0 => (byB (fle a b) (fun hc1 => (byB (flt a 9218868437227405312) (fun hc2 => (byB (flt 18442240474082181120 b) (fun hc3 => (byB (plusB a) (fun hc4 => ?_) (fun hc4 => ?_))) (fun hc3 => ?_))) (fun hc2 => ?_))) (fun hc1 => ?_))))
  all_goals
    go_enter Try.func24, Try.ntmps24
    go_wp2_with (fail)
    refine wp_region_later (by kernel_rfl) (by kernel_rfl) ?_
    repeat (go_big_quiet_step (first | (go_at_call 25; exact empty_any.later _) | (go_at_call 31; first | (with_reducible exact math_Inf_pos.later _) | (with_reducible exact math_Inf_neg.later _)) | (go_at_call 32; exact (plus_any _).later _)))
    (refine wpQuiet_nil ?_; rintro _ ⟨nq, rfl⟩)
    go_wp2
    go_ret
    exact ⟨ret_bool (by simp [*]), by (repeat' first | (with_reducible first | exact Below.refl _ _ | assumption | refine Later.belowOf _ ?_ ?_ | refine Below.alloc ?_ ?_ _ | refine Below.setCell ?_ ?_ _ | refine Below.drewN' _ ?_ | refine Below.drew ?_ | exact Ge.le) | go_size)⟩
end Go.Proofs.Ytpkgpkabmechkaa

/- Contracts: intervals made; the reference's own small functions. -/
namespace Go.Proofs.Ytpkgpkabmechkaa
set_option linter.unusedSimpArgs false
set_option linter.unusedVariables false
open Go.RowKit
open Fl

theorem rightB_nan {a b : Nat} (h : nan a = true ∨ nan b = true) : rightB a b = false := by
  unfold rightB eqI feq fle
  rcases h with h | h <;> simp [h]

def makeI (a b : Nat) : Nat × Nat := if rightB (cl a) (cl b) then (cl a, cl b) else (9218868437227405312, 18442240474082181120)

theorem notB (b : Bool) : (!b) = false → b = true := by cases b <;> simp

/-! ### The reference -/

theorem isnum_fact (x : Nat) : (fle x 0 || flt 0 x) = !nan x := by
  unfold fle flt
  have z : nan 0 = false := by decide
  rw [z]
  cases nan x <;> simp
  omega

set_option maxHeartbeats 400000 in
theorem isNum_any (x : Nat) : Gives 29 #[(.float .f64 x)] (.bool (!nan x)) := by
  intro w
  rw [← isnum_fact]
  refine (byB (fle x 0) (fun hc0 => ?_) (fun hc0 => (byB (flt 0 x) (fun hc1 => ?_) (fun hc1 => ?_))))
  all_goals
    go_enter Try.func29, Try.ntmps29
    go_wp2
    go_ret
    exact ⟨ret_bool (by simp [*]), by (repeat' first | (with_reducible first | exact Below.refl _ _ | assumption | refine Later.belowOf _ ?_ ?_ | refine Below.alloc ?_ ?_ _ | refine Below.setCell ?_ ?_ _ | refine Below.drewN' _ ?_ | refine Below.drew ?_ | exact Ge.le) | go_size)⟩

/-- The same value; of no numbers all are one. -/
def sameB (a b : Nat) : Bool := if nan a || nan b then nan a && nan b else ((a : Int) == (b : Int))

set_option maxHeartbeats 400000 in
theorem same1_any (a b : Nat) : Gives 23 #[(.float .f64 a), (.float .f64 b)] (.bool (sameB a b)) := by
  intro w
  rcases tof (nan a) with h1 | h1 <;> rcases tof (nan b) with h2 | h2
  all_goals
    go_enter Try.func23, Try.ntmps23
    go_wp2_with (go_at_call 29; refine ((isNum_any _).go _).mono ?_; rintro _ _ ⟨n, rfl, rfl⟩)
    go_ret
    exact ⟨ret_bool (by unfold sameB; simp [h1, h2]), by (repeat' first | (with_reducible first | exact Below.refl _ _ | assumption | refine Later.belowOf _ ?_ ?_ | refine Below.alloc ?_ ?_ _ | refine Below.setCell ?_ ?_ _ | refine Below.drewN' _ ?_ | refine Below.drew ?_ | exact Ge.le) | go_size)⟩

set_option maxHeartbeats 400000 in
theorem inf2_pos : Gives 27 #[.int .i64 1] (.float .f64 9218868437227405312) := by
  intro w
  go_enter Try.func27, Try.ntmps27
  go_wp2_with (go_at_call 31; refine (math_Inf_pos.go _).mono ?_; rintro _ _ ⟨n, rfl, rfl⟩)
  go_ret
  exact ⟨rfl, by (repeat' first | (with_reducible first | exact Below.refl _ _ | assumption | refine Later.belowOf _ ?_ ?_ | refine Below.alloc ?_ ?_ _ | refine Below.setCell ?_ ?_ _ | refine Below.drewN' _ ?_ | refine Below.drew ?_ | exact Ge.le) | go_size)⟩
set_option maxHeartbeats 400000 in
theorem inf2_neg : Gives 27 #[.int .i64 (-1)] (.float .f64 18442240474082181120) := by
  intro w
  go_enter Try.func27, Try.ntmps27
  go_wp2_with (go_at_call 31; refine (math_Inf_neg.go _).mono ?_; rintro _ _ ⟨n, rfl, rfl⟩)
  go_ret
  exact ⟨rfl, by (repeat' first | (with_reducible first | exact Below.refl _ _ | assumption | refine Later.belowOf _ ?_ ?_ | refine Below.alloc ?_ ?_ _ | refine Below.setCell ?_ ?_ _ | refine Below.drewN' _ ?_ | refine Below.drew ?_ | exact Ge.le) | go_size)⟩

/-- -0, of 64 bits. -/
theorem plusB_eq {x : Nat} (hx : x < 18446744073709551616) : plusB x = !(feq x 0 && !((x : Int) == 0)) := by
  unfold plusB signB
  cases h : feq x 0
  · simp
  · have := feq_true.1 h
    have z : idx 0 = 0 := by decide
    have h2 := (idx_zero_iff x).1 (by rw [this.2.2, z])
    unfold rung SW at h2
    have e : x = 0 ∨ x = 9223372036854775808 := by omega
    rcases e with rfl | rfl <;> simp [wrap64]

set_option maxHeartbeats 400000 in
theorem minus0_any (x : Nat) (hx : x < 18446744073709551616) : Gives 28 #[(.float .f64 x)] (.bool (!plusB x)) := by
  intro w
  rw [plusB_eq hx]
  clear hx
  refine (byB (feq x 0) (fun hc0 => ?_) (fun hc0 => ?_))
  all_goals
    go_enter Try.func28, Try.ntmps28
    go_wp2
    go_ret
    exact ⟨ret_bool (by simp [hc0] <;> rfl), by (repeat' first | (with_reducible first | exact Below.refl _ _ | assumption | refine Later.belowOf _ ?_ ?_ | refine Below.alloc ?_ ?_ _ | refine Below.setCell ?_ ?_ _ | refine Below.drewN' _ ?_ | refine Below.drew ?_ | exact Ge.le) | go_size)⟩

theorem cl_feq {x : Nat} : cl x = if feq x 0 then 0 else x := by
  unfold cl feq
  have z : idx 0 = 0 := by decide
  have z2 : nan 0 = false := by decide
  rw [z, z2]
  cases h : nan x
  · simp
  · simp
    intro h0
    have := (idx_zero_iff x).1 h0
    have := nan_true.1 h
    unfold INFR at this; omega

theorem idx_le {x : Nat} (h : nan x = false) : -9218868437227405312 ≤ idx x ∧ idx x ≤ 9218868437227405312 := by
  have := nan_false.1 h
  unfold INFR at this
  unfold idx
  cases sgn x <;> simp <;> omega

theorem idx_pinf : idx 9218868437227405312 = 9218868437227405312 := by decide
theorem idx_ninf : idx 18442240474082181120 = -9218868437227405312 := by decide
theorem nan_pinf : nan 9218868437227405312 = false := by decide
theorem nan_ninf : nan 18442240474082181120 = false := by decide

theorem rightB_eq (a b : Nat) : rightB a b = ((feq a 9218868437227405312 && feq b 18442240474082181120) || (fle a b && (!feq a 9218868437227405312 && (!feq b 18442240474082181120 && (plusB a && plusB b))))) := by
  unfold rightB eqI
  cases h1 : fle a b
  · simp
  · have h := fle_true.1 h1
    have la := idx_le h.1
    have lb := idx_le h.2.1
    have e1 : flt a 9218868437227405312 = !feq a 9218868437227405312 := by
      unfold flt feq; rw [nan_pinf, idx_pinf, h.1]; simp; rw [Bool.eq_iff_iff]; simp; omega
    have e2 : flt 18442240474082181120 b = !feq b 18442240474082181120 := by
      unfold flt feq; rw [nan_ninf, idx_ninf, h.2.1]; simp; rw [Bool.eq_iff_iff]; simp; omega
    rw [e1, e2]

set_option maxHeartbeats 2000000 in
theorem right2_any (a b : Nat) (ha : a < 18446744073709551616) (hb : b < 18446744073709551616) : Gives 22 #[(.agg #[.float .f64 a, .float .f64 b])] (.bool (rightB a b)) := by
  intro w
  have ma := minus0_any a ha
  have mb := minus0_any b hb
  rw [rightB_eq]
  clear ha hb
  refine (byB (feq a 9218868437227405312) (fun hc0 => (byB (feq b 18442240474082181120) (fun hc1 => ?_) (fun hc1 => (byB (fle a b) (fun hc2 => ?_) (fun hc2 => ?_))))) (fun hc0 => (byB (feq b 18442240474082181120) (fun hc3 => (byB (fle a b) (fun hc4 => ?_) (fun hc4 => ?_))) (fun hc3 => (byB (fle a b) (fun hc5 => (byB (plusB a) (fun hc6 => (byB (plusB b) (fun hc7 => ?_) (fun hc7 => ?_))) (fun hc6 => ?_))) (fun hc5 => ?_))))))
  all_goals
    go_enter Try.func22, Try.ntmps22
    go_wp2_with (fail)
    refine wp_region_later (by kernel_rfl) (by kernel_rfl) ?_
    repeat (go_big_quiet_step ((go_at_call 27; first | (with_reducible exact inf2_pos.later _) | (with_reducible exact inf2_neg.later _))))
    (refine wpQuiet_nil ?_; rintro _ ⟨nq, rfl⟩)
    go_wp2_with (fail)
    first
      | (go_ret; exact ⟨ret_bool (by simp [*]), by (repeat' first | (with_reducible first | exact Below.refl _ _ | assumption | refine Later.belowOf _ ?_ ?_ | refine Below.alloc ?_ ?_ _ | refine Below.setCell ?_ ?_ _ | refine Below.drewN' _ ?_ | refine Below.drew ?_ | exact Ge.le) | go_size)⟩)
      | (refine wp_region_later (by kernel_rfl) (by kernel_rfl) ?_
         repeat (go_big_quiet_step (first | (go_at_call 27; first | (with_reducible exact inf2_pos.later _) | (with_reducible exact inf2_neg.later _)) | (go_at_call 28; first | (with_reducible exact ma.later _) | (with_reducible exact mb.later _))))
         (refine wpQuiet_nil ?_; rintro _ ⟨nq, rfl⟩)
         go_wp2
         go_ret
         exact ⟨ret_bool (by simp [*]), by (repeat' first | (with_reducible first | exact Below.refl _ _ | assumption | refine Later.belowOf _ ?_ ?_ | refine Below.alloc ?_ ?_ _ | refine Below.setCell ?_ ?_ _ | refine Below.drewN' _ ?_ | refine Below.drew ?_ | exact Ge.le) | go_size)⟩)

theorem sameB_refl (a : Nat) : sameB a a = true := by unfold sameB; cases nan a <;> simp

set_option maxHeartbeats 1000000 in
theorem same2_any (a b c d : Nat) : Gives 14 #[(.agg #[.float .f64 a, .float .f64 b]), (.agg #[.float .f64 c, .float .f64 d])] (.bool (sameB a c && sameB b d)) := by
  intro w
  refine (byB (sameB a c) (fun hc0 => ?_) (fun hc0 => ?_))
  all_goals
    go_enter Try.func14, Try.ntmps14
    go_wp2_with (go_at_call 23; refine ((same1_any _ _).go _).mono ?_; rintro _ _ ⟨n, rfl, rfl⟩)
    go_ret
    exact ⟨ret_bool (by simp [*]), by (repeat' first | (with_reducible first | exact Below.refl _ _ | assumption | refine Later.belowOf _ ?_ ?_ | refine Below.alloc ?_ ?_ _ | refine Below.setCell ?_ ?_ _ | refine Below.drewN' _ ?_ | refine Below.drew ?_ | exact Ge.le) | go_size)⟩

theorem same2_refl (a b : Nat) : Gives 14 #[(.agg #[.float .f64 a, .float .f64 b]), (.agg #[.float .f64 a, .float .f64 b])] (.bool true) := by
  have := same2_any a b a b
  rwa [sameB_refl, sameB_refl] at this
end Go.Proofs.Ytpkgpkabmechkaa

/- Contracts: places of floats; the next one and the one before. -/
namespace Go.Proofs.Ytpkgpkabmechkaa
set_option linter.unusedSimpArgs false
set_option linter.unusedVariables false
open Go.RowKit
open Fl

theorem idx_small {x : Nat} (h : x < 9223372036854775808) : idx x = x := by
  unfold idx sgn rung SW
  have e : x / 9223372036854775808 = 0 := by omega
  rw [e]; simp; omega
theorem idx_great {x : Nat} (h : 9223372036854775808 ≤ x) (h2 : x < 18446744073709551616) : idx x = 9223372036854775808 - x := by
  unfold idx sgn rung SW
  have e : x / 9223372036854775808 = 1 := by omega
  rw [e]; simp; omega

def nextB (x : Nat) : Nat := if nan x then x else if idx x = 9218868437227405312 then x else bitsOf (idx x + 1)
def prevB (x : Nat) : Nat := if nan x then x else if idx x = -9218868437227405312 then x else bitsOf (idx x - 1)

theorem feq_self (x : Nat) : feq x x = !nan x := by unfold feq; cases nan x <;> simp

theorem bits_small {x : Nat} (h : 0 ≤ idx x) (hn : idx x ≠ 0) (h2 : x < 18446744073709551616) : (x : Int) = idx x := by
  by_cases hx : x < 9223372036854775808
  · rw [idx_small hx]
  · exfalso
    rw [idx_great (by omega) h2] at h hn; omega
theorem bits_great {x : Nat} (h : idx x < 0) (h2 : x < 18446744073709551616) : (x : Int) = 9223372036854775808 - idx x ∧ 9223372036854775808 < x := by
  by_cases hx : x < 9223372036854775808
  · rw [idx_small hx] at h; omega
  · rw [idx_great (by omega) h2] at *; omega

theorem cl_bitsOf {i : Int} (h1 : -9218868437227405312 ≤ i) (h2 : i ≤ 9218868437227405312) : cl (bitsOf i) = bitsOf i := by
  obtain ⟨a, b, c⟩ := idx_bitsOf (i := i) h1 h2
  unfold cl
  rw [a]
  split
  · rename_i h; rw [h]; rfl
  · rfl

theorem fneg_fneg {x : Nat} (hx : x < 18446744073709551616) : fneg (fneg x) = x := by
  have : fneg (fneg x) = word (!!sgn x) (rung x) := by
    rw [show fneg (fneg x) = word (!sgn (fneg x)) (rung (fneg x)) from rfl, rung_fneg, sgn_fneg]
  rw [this, Bool.not_not, word_of hx]

theorem fneg_bitsOf {i : Int} (h1 : -9218868437227405312 ≤ i) (h2 : i ≤ 9218868437227405312) : cl (fneg (bitsOf i)) = bitsOf (-i) := by
  obtain ⟨a, b, c⟩ := idx_bitsOf (i := i) h1 h2
  rw [cl_eq (fneg_lt _), idx_fneg, a]

theorem nextB_lt {x : Nat} (hx : x < 18446744073709551616) : nextB x < 18446744073709551616 := by
  unfold nextB
  split
  · exact hx
  · rename_i h
    split
    · exact hx
    · have := idx_le (by simpa using h)
      exact (idx_bitsOf (i := idx x + 1) (by unfold INFR; omega) (by unfold INFR; omega)).2.2

theorem prev_next {x : Nat} (hx : x < 18446744073709551616) : cl (fneg (nextB (fneg x))) = cl (prevB x) := by
  unfold nextB prevB
  rw [nan_fneg, idx_fneg]
  by_cases h : nan x = true
  · rw [if_pos h, if_pos h, fneg_fneg hx]
  · rw [if_neg h, if_neg h]
    have l := idx_le (by simpa using h)
    by_cases h2 : idx x = -9218868437227405312
    · rw [if_pos h2, if_pos (by omega), fneg_fneg hx]
    · rw [if_neg h2, if_neg (by omega), fneg_bitsOf (by omega) (by omega), cl_bitsOf (by omega) (by omega)]
      congr 1; omega

theorem cl_prevB {x : Nat} (hx : x < 18446744073709551616) : cl (prevB x) = prevB x := by
  unfold prevB
  split
  · rename_i h; exact cl_nan h
  · rename_i h
    have l := idx_le (by simpa using h)
    split
    · rename_i h2; unfold cl; rw [if_neg (by omega)]
    · rw [cl_bitsOf (by omega) (by omega)]

@[go_sem] theorem run_fneg (P : Program) (w : World) (x : Nat) : (Op.unary .neg (.float .f64 x)).run P w = .ok (.float .f64 (Op.negFloat .f64 x)) w := rfl

end Go.Proofs.Ytpkgpkabmechkaa

/- Contracts: whether some of one or two intervals hold nothing; what an interval holds. -/
namespace Go.Proofs.Ytpkgpkabmechkaa
set_option linter.unusedSimpArgs false
set_option linter.unusedVariables false
open Go.RowKit
open Fl

def noneB (a b : Nat) : Bool := !rightB a b || eqI a b 9218868437227405312 18442240474082181120

/-! ### Is it infinite? -/

def infinB (x : Nat) : Bool := decide (rung x = 9218868437227405312)

theorem idx_rung (x : Nat) : idx (rung x) = rung x := by
  rw [idx_small]; exact rung_lt x
theorem nan_rung (x : Nat) : nan (rung x) = nan x := by
  unfold nan; rw [show rung (rung x) = rung x from Nat.mod_mod _ _]

theorem isInf0_fact {x : Nat} (h : nan x = false) : flt 9218868437227405311 (rung x) = infinB x := by
  unfold flt infinB
  have h1 : nan 9218868437227405311 = false := by decide
  have h2 : idx 9218868437227405311 = 9218868437227405311 := by decide
  have := nan_false.1 h
  unfold INFR at this
  rw [h1, h2, nan_rung, h, idx_rung]; simp; omega

theorem flt_nan_right {a b : Nat} (h : nan b = true) : flt a b = false := by unfold flt; rw [h]; simp
theorem flt_nan_left {a b : Nat} (h : nan a = true) : flt a b = false := by unfold flt; rw [h]; simp

/-! ### What is asked -/

def hasB (a b v : Nat) : Bool := !noneB a b && (fle a v && (fle v b && !infinB v))

theorem infP_fact (x : Nat) : flt 9218868437227405311 x = feq x 9218868437227405312 := by
  unfold flt feq
  have h1 : nan 9218868437227405311 = false := by decide
  have h2 : idx 9218868437227405311 = 9218868437227405311 := by decide
  rw [h1, h2, nan_pinf, idx_pinf]
  cases h : nan x
  · have := idx_le h
    simp; omega
  · simp
theorem infM_fact (x : Nat) : flt 9218868437227405311 (fneg x) = feq x 18442240474082181120 := by
  rw [infP_fact]
  unfold feq
  rw [nan_fneg, idx_fneg, nan_pinf, idx_pinf, nan_ninf, idx_ninf]
  cases nan x
  · simp; omega
  · simp

def insideB (a b c d : Nat) : Bool := noneB a b || (!noneB c d && (fle c a && fle b d))

def strictB (a b c d : Nat) : Bool := noneB a b || (!noneB c d && ((feq c 18442240474082181120 || flt c a) && (feq d 9218868437227405312 || flt b d)))

/-! ### The reference -/

theorem noneB_eq (a b : Nat) : noneB a b = (!rightB a b || flt b a) := by
  unfold noneB
  cases h : rightB a b
  · rfl
  · simp
    unfold rightB at h
    cases e : eqI a b 9218868437227405312 18442240474082181120
    · rw [e] at h
      simp at h
      have := fle_true.1 h.1
      unfold flt
      rw [this.1, this.2.1]; simp; omega
    · unfold eqI at e
      simp at e
      have h1 := feq_true.1 e.1
      have h2 := feq_true.1 e.2
      symm
      rw [flt_true, h1.2.2, h2.2.2, idx_pinf, idx_ninf]
      exact ⟨h2.1, h1.1, by decide⟩

set_option maxHeartbeats 1000000 in
theorem none_ref_any (a b : Nat) (ha : a < 18446744073709551616) (hb : b < 18446744073709551616) : Gives 13 #[(.agg #[.float .f64 a, .float .f64 b])] (.bool (noneB a b)) := by
  intro w
  have r1 := right2_any a b ha hb
  clear ha hb
  refine (byB (rightB a b) (fun hc0 => (byB (flt b a) (fun hc1 => ?_) (fun hc1 => ?_))) (fun hc0 => ?_))
  all_goals
    go_enter Try.func13, Try.ntmps13
    go_wp2_with (go_at_call 22; refine (r1.go _).mono ?_; rintro _ _ ⟨n, rfl, rfl⟩)
    go_ret
    exact ⟨ret_bool (by rw [noneB_eq]; simp [*]), by (repeat' first | (with_reducible first | exact Below.refl _ _ | assumption | refine Later.belowOf _ ?_ ?_ | refine Below.alloc ?_ ?_ _ | refine Below.setCell ?_ ?_ _ | refine Below.drewN' _ ?_ | refine Below.drew ?_ | exact Ge.le) | go_size)⟩

theorem infin_fact {x : Nat} (h : nan x = false) : (!infinB x) = (!feq x 9218868437227405312 && !feq x 18442240474082181120) := by
  unfold infinB feq
  rw [h, nan_pinf, idx_pinf, nan_ninf, idx_ninf]
  have l := nan_false.1 h
  unfold INFR at l
  unfold idx
  simp
  rw [Bool.eq_iff_iff]
  cases sgn x <;> simp <;> omega

end Go.Proofs.Ytpkgpkabmechkaa
