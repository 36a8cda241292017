/- Contracts: math's small functions; what intervals may be. -/
import Derived.Test.YtjdccbigaahkeaaW0
namespace Go.Proofs.Ytjdccbigaahkeaa
set_option linter.unusedSimpArgs false
set_option linter.unusedVariables false
open Go.RowKit
open Fl

def infB (s : Int) : Nat := if s ≥ 0 then 9218868437227405312 else 18442240474082181120

set_option maxHeartbeats 400000 in
theorem math_Inf_any (s : Int) : Gives 88 #[.int .i64 s] (.float .f64 (infB s)) := by
  intro w
  unfold infB
  by_cases h : s ≥ 0
  · go_enter Try.func88, Try.ntmps88
    go_wp2
    go_ret
    exact ⟨by simp [h], Below.refl _ _⟩
  · go_enter Try.func88, Try.ntmps88
    go_wp2
    go_ret
    exact ⟨by simp [h], Below.refl _ _⟩

theorem math_Inf_pos : Gives 88 #[.int .i64 1] (.float .f64 9218868437227405312) := math_Inf_any 1
theorem math_Inf_neg : Gives 88 #[.int .i64 (-1)] (.float .f64 18442240474082181120) := math_Inf_any (-1)
theorem math_Inf_zero : Gives 88 #[.int .i64 0] (.float .f64 9218868437227405312) := math_Inf_any 0

set_option maxHeartbeats 400000 in
theorem isNaN_any (x : Nat) : Gives 94 #[.float .f64 x] (.bool (!feq x x)) := by
  intro w
  go_enter Try.func94, Try.ntmps94
  go_wp2
  go_ret
  exact ⟨rfl, Below.refl _ _⟩

def signB (x : Nat) : Bool := decide (wrap64 (x : Int) < 0)

set_option maxHeartbeats 400000 in
theorem signbit_any (x : Nat) : Gives 127 #[.float .f64 x] (.bool (signB x)) := by
  intro w
  go_enter Try.func127, Try.ntmps127
  go_wp2
  go_ret
  exact ⟨rfl, Below.refl _ _⟩

theorem abs_bits {x : Nat} (hx : x < 18446744073709551616) : (Go.bits .andNot .u64 x 9223372036854775808).toNat = rung x := by
  have h := u64_andNot_nat x 9223372036854775808 hx (by decide)
  have e : ((9223372036854775808 : Nat) : Int) = 9223372036854775808 := rfl
  rw [e] at h
  rw [h, Int.toNat_natCast]
  have : (18446744073709551615 - 9223372036854775808 : Nat) = 2 ^ 63 - 1 := by decide
  rw [this, Nat.and_two_pow_sub_one_eq_mod]
  rfl

set_option maxHeartbeats 400000 in
theorem abs_any (x : Nat) (hx : x < 18446744073709551616) : Gives 80 #[(.float .f64 x)] (.float .f64 (rung x)) := by
  intro w
  have e := abs_bits hx
  clear hx
  go_enter Try.func80, Try.ntmps80
  go_wp2
  go_ret
  exact ⟨rfl, Below.refl _ _⟩

def plusB (x : Nat) : Bool := !feq x 0 || !signB x

set_option maxHeartbeats 400000 in
theorem plus_any (x : Nat) : Gives 89 #[.float .f64 x] (.bool (plusB x)) := by
  intro w
  unfold plusB
  cases h : feq x 0
  · go_enter Try.func89, Try.ntmps89
    go_wp2_with (go_at_call 127; refine (signbit_any _ _).mono ?_; rintro e w' ⟨rfl, hb⟩)
    go_ret
    exact ⟨ret_bool (by simp), Below.refl _ _⟩
  · go_enter Try.func89, Try.ntmps89
    go_wp2_with (go_at_call 127; refine (signbit_any _ _).mono ?_; rintro e w' ⟨rfl, hb⟩)
    go_ret
    exact ⟨ret_bool (by simp), hb⟩

/-! ### Intervals, whole -/

@[go_sem] theorem build_iv (a b : Nat) (w : World) : (Instr.build 24 #[(0, .float .f64 a), (1, .float .f64 b)]).run Try.prog w = .ok (.agg #[.float .f64 a, .float .f64 b]) w := run_build w 24 _ _ (by kernel_rfl)
def eqI (a b c d : Nat) : Bool := feq a c && feq b d
@[go_sem high] theorem eq_iv (a b c d : Nat) (w : World) : (Op.equalIn 10000 24 (.agg #[.float .f64 a, .float .f64 b]) (.agg #[.float .f64 c, .float .f64 d])).run Try.prog w = .ok (eqI a b c d) w := by
  have u3 := Try.underlying22
  have a3 := Try.isAgg22
  have z3 := Try.sizeOf22
  have hS : Try.prog.underlying 24 = some (.struct (Try.prog.fieldsOf 24)) := by kernel_rfl
  have hp : Try.prog.stoodInHeld 24 = false := by kernel_rfl
  rw [show (10000 : Nat) = 9999 + 1 from rfl, run_equalIn_agg w 9999 24 _ _ hS hp]
  simp only [Program.fieldsOf, Try.underlying24]
  unfold eqI
  go_simp
  cases feq a c <;> cases feq b d <;> rfl

set_option maxHeartbeats 400000 in
theorem empty_any : Gives 26 #[] (.agg #[.float .f64 9218868437227405312, .float .f64 18442240474082181120]) := by
  intro w
  go_enter Try.func26, Try.ntmps26
  go_wp2
  go_returns
  exact ⟨rfl, (Below.refl _ _).alloc (Nat.le_refl _) _⟩
set_option maxHeartbeats 400000 in
theorem whole_any : Gives 28 #[] (.agg #[.float .f64 18442240474082181120, .float .f64 9218868437227405312]) := by
  intro w
  go_enter Try.func28, Try.ntmps28
  go_wp2
  go_returns
  exact ⟨rfl, (Below.refl _ _).alloc (Nat.le_refl _) _⟩

def rightB (a b : Nat) : Bool := eqI a b 9218868437227405312 18442240474082181120 || (fle a b && (flt a 9218868437227405312 && (flt 18442240474082181120 b && (plusB a && plusB b))))

set_option maxHeartbeats 1000000 in
theorem right_any (a b : Nat) : Gives 20 #[(.agg #[.float .f64 a, .float .f64 b])] (.bool (rightB a b)) := by
  intro w
  unfold rightB
  refine (byB (eqI a b 9218868437227405312 18442240474082181120) (fun hc0 => ?_) (fun hc0 => (byB (fle a b) (fun hc1 => (byB (flt a 9218868437227405312) (fun hc2 => (byB (flt 18442240474082181120 b) (fun hc3 => (byB (plusB a) (fun hc4 => ?_) (fun hc4 => ?_))) (fun hc3 => ?_))) (fun hc2 => ?_))) (fun hc1 => ?_))))
  all_goals
    go_enter Try.func20, Try.ntmps20
    go_wp2_with (fail)
    refine wp_region_later (by kernel_rfl) (by kernel_rfl) ?_
    repeat (go_big_quiet_step (first | (go_at_call 26; exact empty_any.later _) | (go_at_call 88; first | (with_reducible exact math_Inf_pos.later _) | (with_reducible exact math_Inf_neg.later _)) | (go_at_call 89; exact (plus_any _).later _)))
    (refine wpQuiet_nil ?_; rintro _ ⟨nq, rfl⟩)
    go_wp2
    go_ret
    exact ⟨ret_bool (by simp [*]), by (repeat' (first | (with_reducible exact Below.refl _ _) | (with_reducible assumption) | (with_reducible refine Later.belowOf _ ?_ ?_) | (with_reducible refine Below.alloc ?_ ?_ _) | (with_reducible refine Below.setCell ?_ ?_ _) | (with_reducible refine Below.drewN' _ ?_) | (with_reducible refine Below.drew ?_) | (with_reducible exact Ge.le) | go_size))⟩
end Go.Proofs.Ytjdccbigaahkeaa
