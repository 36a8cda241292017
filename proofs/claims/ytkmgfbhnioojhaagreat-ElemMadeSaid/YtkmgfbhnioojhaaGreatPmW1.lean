/- Contracts: math's small functions; what intervals may be. -/
import Derived.Test.YtkmgfbhnioojhaaGreatPmW0
import Derived.Test.YtkmgfbhnioojhaaGreatPmFlA
import Derived.LoopN
namespace Go.Proofs.YtkmgfbhnioojhaaGreat
set_option linter.unusedSimpArgs false
set_option linter.unusedVariables false
open Go.RowKit
open Fl

def infB (s : Int) : Nat := if s ≥ 0 then 9218868437227405312 else 18442240474082181120

set_option maxHeartbeats 400000 in
theorem math_Inf_any (s : Int) : Gives 92 #[.int .i64 s] (.float .f64 (infB s)) := by
  intro w
  unfold infB
  by_cases h : s ≥ 0
  · go_enter Tryz.func92, Tryz.ntmps92
    go_wp2
    go_ret
    exact ⟨by simp [h], Below.refl _ _⟩
  · go_enter Tryz.func92, Tryz.ntmps92
    go_wp2
    go_ret
    exact ⟨by simp [h], Below.refl _ _⟩

theorem math_Inf_pos : Gives 92 #[.int .i64 1] (.float .f64 9218868437227405312) := math_Inf_any 1
theorem math_Inf_neg : Gives 92 #[.int .i64 (-1)] (.float .f64 18442240474082181120) := math_Inf_any (-1)
set_option maxHeartbeats 400000 in
theorem isNaN_any (x : Nat) : Gives 221 #[.float .f64 x] (.bool (!feq x x)) := by
  intro w
  go_enter Tryz.func221, Tryz.ntmps221
  go_wp2
  go_ret
  exact ⟨rfl, Below.refl _ _⟩

def signB (x : Nat) : Bool := decide (wrap64 (x : Int) < 0)

set_option maxHeartbeats 400000 in
theorem signbit_any (x : Nat) : Gives 283 #[.float .f64 x] (.bool (signB x)) := by
  intro w
  go_enter Tryz.func283, Tryz.ntmps283
  go_wp2
  go_ret
  exact ⟨rfl, Below.refl _ _⟩

theorem abs_bits {x : Nat} (hx : x < 18446744073709551616) : (Go.bits .andNot .u64 x 9223372036854775808).toNat = rung x := by
  have h := u64_andNot_nat x 9223372036854775808 hx (by decide)
  have e : ((9223372036854775808 : Nat) : Int) = 9223372036854775808 := rfl
  rw [e] at h
  rw [h, Int.toNat_natCast]
  have : (18446744073709551615 - 9223372036854775808 : Nat) = 2 ^ 63 - 1 := by decide
  rw [this, Nat.and_two_pow_sub_one_eq_mod]
  rfl

set_option maxHeartbeats 400000 in
theorem abs_any (x : Nat) (hx : x < 18446744073709551616) : Gives 148 #[(.float .f64 x)] (.float .f64 (rung x)) := by
  intro w
  have e := abs_bits hx
  clear hx
  go_enter Tryz.func148, Tryz.ntmps148
  go_wp2
  go_ret
  exact ⟨rfl, Below.refl _ _⟩

def plusB (x : Nat) : Bool := !feq x 0 || !signB x

set_option maxHeartbeats 400000 in
theorem plus_any (x : Nat) : Gives 224 #[.float .f64 x] (.bool (plusB x)) := by
  intro w
  unfold plusB
  cases h : feq x 0
  · go_enter Tryz.func224, Tryz.ntmps224
    go_wp2_with (go_at_call 283; refine (signbit_any _ _).mono ?_; rintro e w' ⟨rfl, hb⟩)
    go_ret
    exact ⟨ret_bool (by simp), Below.refl _ _⟩
  · go_enter Tryz.func224, Tryz.ntmps224
    go_wp2_with (go_at_call 283; refine (signbit_any _ _).mono ?_; rintro e w' ⟨rfl, hb⟩)
    go_ret
    exact ⟨ret_bool (by simp), hb⟩

/-! ### Intervals, whole -/

@[go_sem] theorem build_iv (a b : Nat) (w : World) : (Instr.build 24 #[(0, .float .f64 a), (1, .float .f64 b)]).run Tryz.prog w = .ok (.agg #[.float .f64 a, .float .f64 b]) w := run_build w 24 _ _ (by kernel_rfl)
def eqI (a b c d : Nat) : Bool := feq a c && feq b d
@[go_sem high] theorem eq_iv (a b c d : Nat) (w : World) : (Op.equalIn 10000 24 (.agg #[.float .f64 a, .float .f64 b]) (.agg #[.float .f64 c, .float .f64 d])).run Tryz.prog w = .ok (eqI a b c d) w := by
  have u3 := Tryz.underlying22
  have a3 := Tryz.isAgg22
  have z3 := Tryz.sizeOf22
  have hS : Tryz.prog.underlying 24 = some (.struct (Tryz.prog.fieldsOf 24)) := by kernel_rfl
  have hp : Tryz.prog.stoodInHeld 24 = false := by kernel_rfl
  rw [show (10000 : Nat) = 9999 + 1 from rfl, run_equalIn_agg w 9999 24 _ _ hS hp]
  simp only [Program.fieldsOf, Tryz.underlying24]
  unfold eqI
  go_simp
  cases feq a c <;> cases feq b d <;> rfl

set_option maxHeartbeats 400000 in
theorem empty_any : Gives 55 #[] (.agg #[.float .f64 9218868437227405312, .float .f64 18442240474082181120]) := by
  intro w
  go_enter Tryz.func55, Tryz.ntmps55
  go_wp2
  go_returns
  exact ⟨rfl, (Below.refl _ _).alloc (Nat.le_refl _) _⟩
set_option maxHeartbeats 400000 in
theorem whole_any : Gives 192 #[] (.agg #[.float .f64 18442240474082181120, .float .f64 9218868437227405312]) := by
  intro w
  go_enter Tryz.func192, Tryz.ntmps192
  go_wp2
  go_returns
  exact ⟨rfl, (Below.refl _ _).alloc (Nat.le_refl _) _⟩

def rightB (a b : Nat) : Bool := eqI a b 9218868437227405312 18442240474082181120 || (fle a b && (flt a 9218868437227405312 && (flt 18442240474082181120 b && (plusB a && plusB b))))

set_option maxHeartbeats 1000000 in
theorem right_any (a b : Nat) : Gives 151 #[(.agg #[.float .f64 a, .float .f64 b])] (.bool (rightB a b)) := by
  intro w
  unfold rightB
  refine (byB (eqI a b 9218868437227405312 18442240474082181120) (fun hc0 => ?_) (fun hc0 => (byB (fle a b) (fun hc1 => (byB (flt a 9218868437227405312) (fun hc2 => (byB (flt 18442240474082181120 b) (fun hc3 => (byB (plusB a) (fun hc4 => ?_) (fun hc4 => ?_))) (fun hc3 => ?_))) (fun hc2 => ?_))) (fun hc1 => ?_))))
  all_goals
    go_enter Tryz.func151, Tryz.ntmps151
    go_wp2_with (fail)
    refine wp_region_later (by kernel_rfl) (by kernel_rfl) ?_
    repeat (go_big_quiet_step (first | (go_at_call 55; exact empty_any.later _) | (go_at_call 92; first | (with_reducible exact math_Inf_pos.later _) | (with_reducible exact math_Inf_neg.later _)) | (go_at_call 224; exact (plus_any _).later _)))
    (refine wpQuiet_nil ?_; rintro _ ⟨nq, rfl⟩)
    go_wp2
    go_ret
    exact ⟨ret_bool (by simp [*]), by (repeat' first | (with_reducible first | exact Below.refl _ _ | assumption | refine Later.belowOf _ ?_ ?_ | refine Below.alloc ?_ ?_ _ | refine Below.setCell ?_ ?_ _ | refine Below.drewN' _ ?_ | refine Below.drew ?_ | exact Ge.le) | go_size)⟩
end Go.Proofs.YtkmgfbhnioojhaaGreat

/- Contracts: intervals made; the reference's own small functions. -/
namespace Go.Proofs.YtkmgfbhnioojhaaGreat
set_option linter.unusedSimpArgs false
set_option linter.unusedVariables false
open Go.RowKit
open Fl

theorem rightB_nan {a b : Nat} (h : nan a = true ∨ nan b = true) : rightB a b = false := by
  unfold rightB eqI feq fle
  rcases h with h | h <;> simp [h]

def makeI (a b : Nat) : Nat × Nat := if rightB (cl a) (cl b) then (cl a, cl b) else (9218868437227405312, 18442240474082181120)

theorem notB (b : Bool) : (!b) = false → b = true := by cases b <;> simp

set_option maxHeartbeats 1000000 in
theorem make_any (a b : Nat) (ha : a < 18446744073709551616) (hb : b < 18446744073709551616) : Gives 123 #[(.float .f64 a), (.float .f64 b)] (.agg #[.float .f64 ((makeI a b).1), .float .f64 ((makeI a b).2)]) := by
  intro w
  have fa := fun w => fop_add_zero w ha
  have fb := fun w => fop_add_zero w hb
  by_cases hn : nan a = true ∨ nan b = true
  · have e : makeI a b = (9218868437227405312, 18442240474082181120) := by
      unfold makeI
      rw [rightB_nan]
      · rfl
      · rcases hn with h | h
        · left; rw [cl_nan h]; exact h
        · right; rw [cl_nan h]; exact h
    rw [e]
    have hR : ∀ w w', rightB (fop .add a 0 w) (fop .add b 0 w') = false := by
      intro w w'
      apply rightB_nan
      rcases hn with h | h
      · left; rcases fa w with h' | h'
        · exact h'.2
        · rw [h] at h'; exact absurd h'.1 (by decide)
      · right; rcases fb w' with h' | h'
        · exact h'.2
        · rw [h] at h'; exact absurd h'.1 (by decide)
    clear fa fb hn e ha hb
    go_enter Tryz.func123, Tryz.ntmps123
    go_wp2_with (first | (go_at_call 151; refine ((right_any _ _).go _).mono ?_; rintro _ _ ⟨n, rfl, rfl⟩) | (go_at_call 55; refine (empty_any.go _).mono ?_; rintro _ _ ⟨n, rfl, rfl⟩))
    go_returns
    exact ⟨rfl, by (repeat' first | (with_reducible first | exact Below.refl _ _ | assumption | refine Later.belowOf _ ?_ ?_ | refine Below.alloc ?_ ?_ _ | refine Below.setCell ?_ ?_ _ | refine Below.drewN' _ ?_ | refine Below.drew ?_ | exact Ge.le) | go_size)⟩
  · have hna : nan a = false := by cases h : nan a <;> simp [h] at hn ⊢
    have hnb : nan b = false := by cases h : nan b <;> simp [h] at hn ⊢
    have a1 : ∀ w, fop .add a 0 w = cl a := fun w => by rcases fa w with h | h; (rw [hna] at h; exact absurd h.1 (by decide)); exact h.2.1
    have a2 : nd .add a 0 = 0 := by rcases fa w with h | h; (rw [hna] at h; exact absurd h.1 (by decide)); exact h.2.2
    have b1 : ∀ w, fop .add b 0 w = cl b := fun w => by rcases fb w with h | h; (rw [hnb] at h; exact absurd h.1 (by decide)); exact h.2.1
    have b2 : nd .add b 0 = 0 := by rcases fb w with h | h; (rw [hnb] at h; exact absurd h.1 (by decide)); exact h.2.2
    unfold makeI
    rcases Bool.eq_false_or_eq_true (rightB (cl a) (cl b)) with h1 | h1
    all_goals
      rw [h1]
      clear fa fb hn hna hnb ha hb
      go_enter Tryz.func123, Tryz.ntmps123
      go_wp2_with (first | (go_at_call 151; refine ((right_any _ _).go _).mono ?_; rintro _ _ ⟨n, rfl, rfl⟩) | (go_at_call 55; refine (empty_any.go _).mono ?_; rintro _ _ ⟨n, rfl, rfl⟩))
      go_returns
      exact ⟨rfl, by (repeat' first | (with_reducible first | exact Below.refl _ _ | assumption | refine Later.belowOf _ ?_ ?_ | refine Below.alloc ?_ ?_ _ | refine Below.setCell ?_ ?_ _ | refine Below.drewN' _ ?_ | refine Below.drew ?_ | exact Ge.le) | go_size)⟩

set_option maxHeartbeats 400000 in
theorem point_any (a : Nat) (ha : a < 18446744073709551616) : Gives 53 #[(.float .f64 a)] (.agg #[.float .f64 ((makeI a a).1), .float .f64 ((makeI a a).2)]) := by
  intro w
  go_enter Tryz.func53, Tryz.ntmps53
  go_wp2_with (go_at_call 123; refine ((make_any a a ha ha).go _).mono ?_; rintro _ _ ⟨n, rfl, rfl⟩)
  go_returns
  exact ⟨rfl, by (repeat' first | (with_reducible first | exact Below.refl _ _ | assumption | refine Later.belowOf _ ?_ ?_ | refine Below.alloc ?_ ?_ _ | refine Below.setCell ?_ ?_ _ | refine Below.drewN' _ ?_ | refine Below.drew ?_ | exact Ge.le) | go_size)⟩

/-! ### The reference -/

theorem isnum_fact (x : Nat) : (fle x 0 || flt 0 x) = !nan x := by
  unfold fle flt
  have z : nan 0 = false := by decide
  rw [z]
  cases nan x <;> simp
  omega

set_option maxHeartbeats 400000 in
theorem isNum_any (x : Nat) : Gives 109 #[(.float .f64 x)] (.bool (!nan x)) := by
  intro w
  rw [← isnum_fact]
  refine (byB (fle x 0) (fun hc0 => ?_) (fun hc0 => (byB (flt 0 x) (fun hc1 => ?_) (fun hc1 => ?_))))
  all_goals
    go_enter Tryz.func109, Tryz.ntmps109
    go_wp2
    go_ret
    exact ⟨ret_bool (by simp [*]), by (repeat' first | (with_reducible first | exact Below.refl _ _ | assumption | refine Later.belowOf _ ?_ ?_ | refine Below.alloc ?_ ?_ _ | refine Below.setCell ?_ ?_ _ | refine Below.drewN' _ ?_ | refine Below.drew ?_ | exact Ge.le) | go_size)⟩

/-- The same value; of no numbers all are one. -/
def sameB (a b : Nat) : Bool := if nan a || nan b then nan a && nan b else ((a : Int) == (b : Int))

set_option maxHeartbeats 400000 in
theorem same1_any (a b : Nat) : Gives 85 #[(.float .f64 a), (.float .f64 b)] (.bool (sameB a b)) := by
  intro w
  rcases tof (nan a) with h1 | h1 <;> rcases tof (nan b) with h2 | h2
  all_goals
    go_enter Tryz.func85, Tryz.ntmps85
    go_wp2_with (go_at_call 109; refine ((isNum_any _).go _).mono ?_; rintro _ _ ⟨n, rfl, rfl⟩)
    go_ret
    exact ⟨ret_bool (by unfold sameB; simp [h1, h2]), by (repeat' first | (with_reducible first | exact Below.refl _ _ | assumption | refine Later.belowOf _ ?_ ?_ | refine Below.alloc ?_ ?_ _ | refine Below.setCell ?_ ?_ _ | refine Below.drewN' _ ?_ | refine Below.drew ?_ | exact Ge.le) | go_size)⟩

set_option maxHeartbeats 400000 in
theorem inf2_pos : Gives 86 #[.int .i64 1] (.float .f64 9218868437227405312) := by
  intro w
  go_enter Tryz.func86, Tryz.ntmps86
  go_wp2_with (go_at_call 92; refine (math_Inf_pos.go _).mono ?_; rintro _ _ ⟨n, rfl, rfl⟩)
  go_ret
  exact ⟨rfl, by (repeat' first | (with_reducible first | exact Below.refl _ _ | assumption | refine Later.belowOf _ ?_ ?_ | refine Below.alloc ?_ ?_ _ | refine Below.setCell ?_ ?_ _ | refine Below.drewN' _ ?_ | refine Below.drew ?_ | exact Ge.le) | go_size)⟩
set_option maxHeartbeats 400000 in
theorem inf2_neg : Gives 86 #[.int .i64 (-1)] (.float .f64 18442240474082181120) := by
  intro w
  go_enter Tryz.func86, Tryz.ntmps86
  go_wp2_with (go_at_call 92; refine (math_Inf_neg.go _).mono ?_; rintro _ _ ⟨n, rfl, rfl⟩)
  go_ret
  exact ⟨rfl, by (repeat' first | (with_reducible first | exact Below.refl _ _ | assumption | refine Later.belowOf _ ?_ ?_ | refine Below.alloc ?_ ?_ _ | refine Below.setCell ?_ ?_ _ | refine Below.drewN' _ ?_ | refine Below.drew ?_ | exact Ge.le) | go_size)⟩

set_option maxHeartbeats 400000 in
theorem empty2_any : Gives 17 #[] (.agg #[.float .f64 9218868437227405312, .float .f64 18442240474082181120]) := by
  intro w
  go_enter Tryz.func17, Tryz.ntmps17
  go_wp2_with (first | (go_at_call 86; (with_reducible refine (inf2_pos.go _).mono ?_); rintro _ _ ⟨n, rfl, rfl⟩) | (go_at_call 86; (with_reducible refine (inf2_neg.go _).mono ?_); rintro _ _ ⟨n, rfl, rfl⟩))
  go_returns
  exact ⟨rfl, by (repeat' first | (with_reducible first | exact Below.refl _ _ | assumption | refine Later.belowOf _ ?_ ?_ | refine Below.alloc ?_ ?_ _ | refine Below.setCell ?_ ?_ _ | refine Below.drewN' _ ?_ | refine Below.drew ?_ | exact Ge.le) | go_size)⟩
/-- -0, of 64 bits. -/
theorem plusB_eq {x : Nat} (hx : x < 18446744073709551616) : plusB x = !(feq x 0 && !((x : Int) == 0)) := by
  unfold plusB signB
  cases h : feq x 0
  · simp
  · have := feq_true.1 h
    have z : idx 0 = 0 := by decide
    have h2 := (idx_zero_iff x).1 (by rw [this.2.2, z])
    unfold rung SW at h2
    have e : x = 0 ∨ x = 9223372036854775808 := by omega
    rcases e with rfl | rfl <;> simp [wrap64]

set_option maxHeartbeats 400000 in
theorem minus0_any (x : Nat) (hx : x < 18446744073709551616) : Gives 87 #[(.float .f64 x)] (.bool (!plusB x)) := by
  intro w
  rw [plusB_eq hx]
  clear hx
  refine (byB (feq x 0) (fun hc0 => ?_) (fun hc0 => ?_))
  all_goals
    go_enter Tryz.func87, Tryz.ntmps87
    go_wp2
    go_ret
    exact ⟨ret_bool (by simp [hc0] <;> rfl), by (repeat' first | (with_reducible first | exact Below.refl _ _ | assumption | refine Later.belowOf _ ?_ ?_ | refine Below.alloc ?_ ?_ _ | refine Below.setCell ?_ ?_ _ | refine Below.drewN' _ ?_ | refine Below.drew ?_ | exact Ge.le) | go_size)⟩

theorem cl_feq {x : Nat} : cl x = if feq x 0 then 0 else x := by
  unfold cl feq
  have z : idx 0 = 0 := by decide
  have z2 : nan 0 = false := by decide
  rw [z, z2]
  cases h : nan x
  · simp
  · simp
    intro h0
    have := (idx_zero_iff x).1 h0
    have := nan_true.1 h
    unfold INFR at this; omega

set_option maxHeartbeats 400000 in
theorem zero_any (x : Nat) : Gives 112 #[(.float .f64 x)] (.float .f64 (cl x)) := by
  intro w
  refine (byB (feq x 0) (fun hc0 => ?_) (fun hc0 => ?_))
  all_goals
    go_enter Tryz.func112, Tryz.ntmps112
    go_wp2
    go_ret
    exact ⟨ret_float (by rw [cl_feq]; simp [hc0]), by (repeat' first | (with_reducible first | exact Below.refl _ _ | assumption | refine Later.belowOf _ ?_ ?_ | refine Below.alloc ?_ ?_ _ | refine Below.setCell ?_ ?_ _ | refine Below.drewN' _ ?_ | refine Below.drew ?_ | exact Ge.le) | go_size)⟩

theorem idx_le {x : Nat} (h : nan x = false) : -9218868437227405312 ≤ idx x ∧ idx x ≤ 9218868437227405312 := by
  have := nan_false.1 h
  unfold INFR at this
  unfold idx
  cases sgn x <;> simp <;> omega

theorem idx_pinf : idx 9218868437227405312 = 9218868437227405312 := by decide
theorem idx_ninf : idx 18442240474082181120 = -9218868437227405312 := by decide
theorem nan_pinf : nan 9218868437227405312 = false := by decide
theorem nan_ninf : nan 18442240474082181120 = false := by decide

theorem rightB_eq (a b : Nat) : rightB a b = ((feq a 9218868437227405312 && feq b 18442240474082181120) || (fle a b && (!feq a 9218868437227405312 && (!feq b 18442240474082181120 && (plusB a && plusB b))))) := by
  unfold rightB eqI
  cases h1 : fle a b
  · simp
  · have h := fle_true.1 h1
    have la := idx_le h.1
    have lb := idx_le h.2.1
    have e1 : flt a 9218868437227405312 = !feq a 9218868437227405312 := by
      unfold flt feq; rw [nan_pinf, idx_pinf, h.1]; simp; rw [Bool.eq_iff_iff]; simp; omega
    have e2 : flt 18442240474082181120 b = !feq b 18442240474082181120 := by
      unfold flt feq; rw [nan_ninf, idx_ninf, h.2.1]; simp; rw [Bool.eq_iff_iff]; simp; omega
    rw [e1, e2]

set_option maxHeartbeats 2000000 in
theorem right2_any (a b : Nat) (ha : a < 18446744073709551616) (hb : b < 18446744073709551616) : Gives 18 #[(.agg #[.float .f64 a, .float .f64 b])] (.bool (rightB a b)) := by
  intro w
  have ma := minus0_any a ha
  have mb := minus0_any b hb
  rw [rightB_eq]
  clear ha hb
  refine (byB (feq a 9218868437227405312) (fun hc0 => (byB (feq b 18442240474082181120) (fun hc1 => ?_) (fun hc1 => (byB (fle a b) (fun hc2 => ?_) (fun hc2 => ?_))))) (fun hc0 => (byB (feq b 18442240474082181120) (fun hc3 => (byB (fle a b) (fun hc4 => ?_) (fun hc4 => ?_))) (fun hc3 => (byB (fle a b) (fun hc5 => (byB (plusB a) (fun hc6 => (byB (plusB b) (fun hc7 => ?_) (fun hc7 => ?_))) (fun hc6 => ?_))) (fun hc5 => ?_))))))
  all_goals
    go_enter Tryz.func18, Tryz.ntmps18
    go_wp2_with (fail)
    refine wp_region_later (by kernel_rfl) (by kernel_rfl) ?_
    repeat (go_big_quiet_step ((go_at_call 86; first | (with_reducible exact inf2_pos.later _) | (with_reducible exact inf2_neg.later _))))
    (refine wpQuiet_nil ?_; rintro _ ⟨nq, rfl⟩)
    go_wp2_with (fail)
    first
      | (go_ret; exact ⟨ret_bool (by simp [*]), by (repeat' first | (with_reducible first | exact Below.refl _ _ | assumption | refine Later.belowOf _ ?_ ?_ | refine Below.alloc ?_ ?_ _ | refine Below.setCell ?_ ?_ _ | refine Below.drewN' _ ?_ | refine Below.drew ?_ | exact Ge.le) | go_size)⟩)
      | (refine wp_region_later (by kernel_rfl) (by kernel_rfl) ?_
         repeat (go_big_quiet_step (first | (go_at_call 86; first | (with_reducible exact inf2_pos.later _) | (with_reducible exact inf2_neg.later _)) | (go_at_call 87; first | (with_reducible exact ma.later _) | (with_reducible exact mb.later _))))
         (refine wpQuiet_nil ?_; rintro _ ⟨nq, rfl⟩)
         go_wp2
         go_ret
         exact ⟨ret_bool (by simp [*]), by (repeat' first | (with_reducible first | exact Below.refl _ _ | assumption | refine Later.belowOf _ ?_ ?_ | refine Below.alloc ?_ ?_ _ | refine Below.setCell ?_ ?_ _ | refine Below.drewN' _ ?_ | refine Below.drew ?_ | exact Ge.le) | go_size)⟩)

set_option maxHeartbeats 1000000 in
theorem make2_any (a b : Nat) (ha : a < 18446744073709551616) (hb : b < 18446744073709551616) : Gives 42 #[(.float .f64 a), (.float .f64 b)] (.agg #[.float .f64 ((makeI a b).1), .float .f64 ((makeI a b).2)]) := by
  intro w
  have hr := right2_any (cl a) (cl b) (cl_lt ha) (cl_lt hb)
  clear ha hb
  refine (byB (rightB (cl a) (cl b)) (fun hc0 => ?_) (fun hc0 => ?_))
  all_goals
    have e : makeI a b = if rightB (cl a) (cl b) then (cl a, cl b) else (9218868437227405312, 18442240474082181120) := rfl
    rw [e, hc0]
    clear e
    go_enter Tryz.func42, Tryz.ntmps42
    go_wp2_with (first | (go_at_call 112; refine ((zero_any _).go _).mono ?_; rintro _ _ ⟨n, rfl, rfl⟩) | (go_at_call 18; refine (hr.go _).mono ?_; rintro _ _ ⟨n, rfl, rfl⟩) | (go_at_call 17; refine (empty2_any.go _).mono ?_; rintro _ _ ⟨n, rfl, rfl⟩))
    go_returns
    exact ⟨rfl, by (repeat' first | (with_reducible first | exact Below.refl _ _ | assumption | refine Later.belowOf _ ?_ ?_ | refine Below.alloc ?_ ?_ _ | refine Below.setCell ?_ ?_ _ | refine Below.drewN' _ ?_ | refine Below.drew ?_ | exact Ge.le) | go_size)⟩

theorem sameB_refl (a : Nat) : sameB a a = true := by unfold sameB; cases nan a <;> simp

set_option maxHeartbeats 1000000 in
theorem same2_any (a b c d : Nat) : Gives 16 #[(.agg #[.float .f64 a, .float .f64 b]), (.agg #[.float .f64 c, .float .f64 d])] (.bool (sameB a c && sameB b d)) := by
  intro w
  refine (byB (sameB a c) (fun hc0 => ?_) (fun hc0 => ?_))
  all_goals
    go_enter Tryz.func16, Tryz.ntmps16
    go_wp2_with (go_at_call 85; refine ((same1_any _ _).go _).mono ?_; rintro _ _ ⟨n, rfl, rfl⟩)
    go_ret
    exact ⟨ret_bool (by simp [*]), by (repeat' first | (with_reducible first | exact Below.refl _ _ | assumption | refine Later.belowOf _ ?_ ?_ | refine Below.alloc ?_ ?_ _ | refine Below.setCell ?_ ?_ _ | refine Below.drewN' _ ?_ | refine Below.drew ?_ | exact Ge.le) | go_size)⟩

theorem same2_refl (a b : Nat) : Gives 16 #[(.agg #[.float .f64 a, .float .f64 b]), (.agg #[.float .f64 a, .float .f64 b])] (.bool true) := by
  have := same2_any a b a b
  rwa [sameB_refl, sameB_refl] at this
end Go.Proofs.YtkmgfbhnioojhaaGreat

/- Contracts: places of floats; the next one and the one before. -/
namespace Go.Proofs.YtkmgfbhnioojhaaGreat
set_option linter.unusedSimpArgs false
set_option linter.unusedVariables false
open Go.RowKit
open Fl

set_option maxHeartbeats 400000 in
theorem clean_any (x : Nat) : Gives 222 #[(.float .f64 x)] (.float .f64 (cl x)) := by
  intro w
  refine (byB (feq x 0) (fun hc0 => ?_) (fun hc0 => ?_))
  all_goals
    go_enter Tryz.func222, Tryz.ntmps222
    go_wp2
    go_ret
    exact ⟨ret_float (by rw [cl_feq]; simp [hc0]), by (repeat' first | (with_reducible first | exact Below.refl _ _ | assumption | refine Later.belowOf _ ?_ ?_ | refine Below.alloc ?_ ?_ _ | refine Below.setCell ?_ ?_ _ | refine Below.drewN' _ ?_ | refine Below.drew ?_ | exact Ge.le) | go_size)⟩

theorem idx_small {x : Nat} (h : x < 9223372036854775808) : idx x = x := by
  unfold idx sgn rung SW
  have e : x / 9223372036854775808 = 0 := by omega
  rw [e]; simp; omega
theorem idx_great {x : Nat} (h : 9223372036854775808 ≤ x) (h2 : x < 18446744073709551616) : idx x = 9223372036854775808 - x := by
  unfold idx sgn rung SW
  have e : x / 9223372036854775808 = 1 := by omega
  rw [e]; simp; omega

set_option maxHeartbeats 400000 in
theorem index_any (x : Nat) (hx : x < 18446744073709551616) : Gives 110 #[(.float .f64 x)] (.int .i64 (idx x)) := by
  intro w
  by_cases h : x < 9223372036854775808
  · have hb : ((x : Int) / 9223372036854775808 == 1) = false := by rw [beq_eq_false_iff_ne]; omega
    go_enter Tryz.func110, Tryz.ntmps110
    go_wp2
    go_ret
    exact ⟨ret_int (idx_small h).symm, by (repeat' first | (with_reducible first | exact Below.refl _ _ | assumption | refine Later.belowOf _ ?_ ?_ | refine Below.alloc ?_ ?_ _ | refine Below.setCell ?_ ?_ _ | refine Below.drewN' _ ?_ | refine Below.drew ?_ | exact Ge.le) | go_size)⟩
  · have hb : ((x : Int) / 9223372036854775808 == 1) = true := by rw [beq_iff_eq]; omega
    have h3 : 9223372036854775808 ≤ x := by omega
    clear h
    go_enter Tryz.func110, Tryz.ntmps110
    go_wp2
    go_ret
    exact ⟨ret_int (by rw [idx_great h3 hx]; omega), by (repeat' first | (with_reducible first | exact Below.refl _ _ | assumption | refine Later.belowOf _ ?_ ?_ | refine Below.alloc ?_ ?_ _ | refine Below.setCell ?_ ?_ _ | refine Below.drewN' _ ?_ | refine Below.drew ?_ | exact Ge.le) | go_size)⟩
set_option maxHeartbeats 400000 in
theorem at_any (i : Int) (h1 : -9218868437227405312 ≤ i) (h2 : i ≤ 9218868437227405312) : Gives 111 #[.int .i64 i] (.float .f64 (bitsOf i)) := by
  intro w
  by_cases h : i < 0
  · go_enter Tryz.func111, Tryz.ntmps111
    go_wp2
    go_ret
    exact ⟨ret_float (by unfold bitsOf SW; rw [if_pos h]; omega), by (repeat' first | (with_reducible first | exact Below.refl _ _ | assumption | refine Later.belowOf _ ?_ ?_ | refine Below.alloc ?_ ?_ _ | refine Below.setCell ?_ ?_ _ | refine Below.drewN' _ ?_ | refine Below.drew ?_ | exact Ge.le) | go_size)⟩
  · go_enter Tryz.func111, Tryz.ntmps111
    go_wp2
    go_ret
    exact ⟨ret_float (by unfold bitsOf; rw [if_neg (by omega)]), by (repeat' first | (with_reducible first | exact Below.refl _ _ | assumption | refine Later.belowOf _ ?_ ?_ | refine Below.alloc ?_ ?_ _ | refine Below.setCell ?_ ?_ _ | refine Below.drewN' _ ?_ | refine Below.drew ?_ | exact Ge.le) | go_size)⟩

def nextB (x : Nat) : Nat := if nan x then x else if idx x = 9218868437227405312 then x else bitsOf (idx x + 1)
theorem feq_self (x : Nat) : feq x x = !nan x := by unfold feq; cases nan x <;> simp

theorem bits_small {x : Nat} (h : 0 ≤ idx x) (hn : idx x ≠ 0) (h2 : x < 18446744073709551616) : (x : Int) = idx x := by
  by_cases hx : x < 9223372036854775808
  · rw [idx_small hx]
  · exfalso
    rw [idx_great (by omega) h2] at h hn; omega
theorem bits_great {x : Nat} (h : idx x < 0) (h2 : x < 18446744073709551616) : (x : Int) = 9223372036854775808 - idx x ∧ 9223372036854775808 < x := by
  by_cases hx : x < 9223372036854775808
  · rw [idx_small hx] at h; omega
  · rw [idx_great (by omega) h2] at *; omega

@[go_sem] theorem run_fneg (P : Program) (w : World) (x : Nat) : (Op.unary .neg (.float .f64 x)).run P w = .ok (.float .f64 (Op.negFloat .f64 x)) w := rfl

set_option maxHeartbeats 1000000 in
theorem next1_any (x : Nat) (hx : x < 18446744073709551616) : Gives 41 #[(.float .f64 x)] (.float .f64 (nextB x)) := by
  intro w
  have i1 := index_any x hx
  rcases tof (nan x) with hn | hn
  · have e : nextB x = x := by unfold nextB; rw [hn]; rfl
    rw [e]
    clear e hx i1
    go_enter Tryz.func41, Tryz.ntmps41
    go_wp2_with (go_at_call 109; refine ((isNum_any _).go _).mono ?_; rintro _ _ ⟨n, rfl, rfl⟩)
    go_ret
    exact ⟨rfl, by (repeat' first | (with_reducible first | exact Below.refl _ _ | assumption | refine Later.belowOf _ ?_ ?_ | refine Below.alloc ?_ ?_ _ | refine Below.setCell ?_ ?_ _ | refine Below.drewN' _ ?_ | refine Below.drew ?_ | exact Ge.le) | go_size)⟩
  · have l := idx_le hn
    by_cases h : 9218868437227405311 < idx x
    · have e : nextB x = x := by unfold nextB; rw [hn, show idx x = 9218868437227405312 by omega]; rfl
      rw [e]
      clear e hx
      go_enter Tryz.func41, Tryz.ntmps41
      go_wp2_with (first | (go_at_call 109; refine ((isNum_any _).go _).mono ?_; rintro _ _ ⟨n, rfl, rfl⟩) | (go_at_call 110; refine (i1.go _).mono ?_; rintro _ _ ⟨n, rfl, rfl⟩))
      go_ret
      exact ⟨rfl, by (repeat' first | (with_reducible first | exact Below.refl _ _ | assumption | refine Later.belowOf _ ?_ ?_ | refine Below.alloc ?_ ?_ _ | refine Below.setCell ?_ ?_ _ | refine Below.drewN' _ ?_ | refine Below.drew ?_ | exact Ge.le) | go_size)⟩
    · have e : nextB x = bitsOf (idx x + 1) := by unfold nextB; rw [hn, if_neg (by decide), if_neg (by omega)]
      rw [e]
      have a1 := at_any (idx x + 1) (by omega) (by omega)
      clear e hx
      go_enter Tryz.func41, Tryz.ntmps41
      go_wp2_with (first | (go_at_call 109; refine ((isNum_any _).go _).mono ?_; rintro _ _ ⟨n, rfl, rfl⟩) | (go_at_call 110; refine (i1.go _).mono ?_; rintro _ _ ⟨n, rfl, rfl⟩) | (go_at_call 111; refine (a1.go _).mono ?_; rintro _ _ ⟨n, rfl, rfl⟩))
      go_ret
      exact ⟨rfl, by (repeat' first | (with_reducible first | exact Below.refl _ _ | assumption | refine Later.belowOf _ ?_ ?_ | refine Below.alloc ?_ ?_ _ | refine Below.setCell ?_ ?_ _ | refine Below.drewN' _ ?_ | refine Below.drew ?_ | exact Ge.le) | go_size)⟩

end Go.Proofs.YtkmgfbhnioojhaaGreat

/- Contracts: whether some of one or two intervals hold nothing; what an interval holds. -/
namespace Go.Proofs.YtkmgfbhnioojhaaGreat
set_option linter.unusedSimpArgs false
set_option linter.unusedVariables false
open Go.RowKit
open Fl

def noneB (a b : Nat) : Bool := !rightB a b || eqI a b 9218868437227405312 18442240474082181120

set_option maxHeartbeats 2000000 in
theorem none1_any (a b : Nat) (w : World) (blk : Nat) (hG : Ge w (blk + 1)) (h0 : w.cell? ⟨blk, 0, none⟩ = some (.float .f64 a)) (h1 : w.cell? ⟨blk, 1, none⟩ = some (.float .f64 b)) :
    Calls Tryz.prog 124 #[.slice (some ⟨blk, 0, none⟩) 1 1] w fun e w' => ∃ n : Later w, e = .returned (.bool (noneB a b)) ∧ w' = n.val := by
  refine (byB (rightB a b) (fun hc0 => (byB (eqI a b 9218868437227405312 18442240474082181120) (fun hc1 => ?_) (fun hc1 => ?_))) (fun hc0 => ?_))
  all_goals
    go_enter Tryz.func124, Tryz.ntmps124
    go_wp2_with (fail)
    refine wp_loop_rounds 2 ?_
    rw [rounds_succ]
    go_wp2_with (fail)
    refine wp_region_later (by kernel_rfl) (by kernel_rfl) ?_
    repeat (go_big_quiet_step (first | (go_at_call 151; (with_reducible exact (right_any _ _).later _)) | (go_at_call 55; (with_reducible exact empty_any.later _))))
    (refine wpQuiet_nil ?_; rintro _ ⟨nq, rfl⟩)
    go_wp2_with (fail)
    first
      | (go_ret; exact ⟨⟨_, by (repeat' first | (with_reducible first | exact Below.refl _ _ | assumption | refine Later.belowOf _ ?_ ?_ | refine Below.alloc ?_ ?_ _ | refine Below.setCell ?_ ?_ _ | refine Below.drewN' _ ?_ | refine Below.drew ?_ | exact Ge.le) | go_size)⟩, ret_bool (by unfold noneB; simp [*]), rfl⟩)
      | (rw [rounds_succ]
         go_wp2_with (fail)
         go_ret
         exact ⟨⟨_, by (repeat' first | (with_reducible first | exact Below.refl _ _ | assumption | refine Later.belowOf _ ?_ ?_ | refine Below.alloc ?_ ?_ _ | refine Below.setCell ?_ ?_ _ | refine Below.drewN' _ ?_ | refine Below.drew ?_ | exact Ge.le) | go_size)⟩, ret_bool (by unfold noneB; simp [*]), rfl⟩)

set_option maxHeartbeats 2000000 in
theorem none2_any (a b c d : Nat) (w : World) (blk : Nat) (hG : Ge w (blk + 1)) (h0 : w.cell? ⟨blk, 0, none⟩ = some (.float .f64 a)) (h1 : w.cell? ⟨blk, 1, none⟩ = some (.float .f64 b)) (h2 : w.cell? ⟨blk, 2, none⟩ = some (.float .f64 c)) (h3 : w.cell? ⟨blk, 3, none⟩ = some (.float .f64 d)) :
    Calls Tryz.prog 124 #[.slice (some ⟨blk, 0, none⟩) 2 2] w fun e w' => ∃ n : Later w, e = .returned (.bool (noneB a b || noneB c d)) ∧ w' = n.val := by
  refine (byB (rightB a b) (fun hc0 => (byB (eqI a b 9218868437227405312 18442240474082181120) (fun hc1 => ?_) (fun hc1 => (byB (rightB c d) (fun hc2 => (byB (eqI c d 9218868437227405312 18442240474082181120) (fun hc3 => ?_) (fun hc3 => ?_))) (fun hc2 => ?_))))) (fun hc0 => ?_))
  all_goals
    go_enter Tryz.func124, Tryz.ntmps124
    go_wp2_with (fail)
    refine wp_loop_rounds 3 ?_
    rw [rounds_succ]
    go_wp2_with (fail)
    refine wp_region_later (by kernel_rfl) (by kernel_rfl) ?_
    repeat (go_big_quiet_step (first | (go_at_call 151; (with_reducible exact (right_any _ _).later _)) | (go_at_call 55; (with_reducible exact empty_any.later _))))
    (refine wpQuiet_nil ?_; rintro _ ⟨nq, rfl⟩)
    go_wp2_with (fail)
    first
      | (go_ret; exact ⟨⟨_, by (repeat' first | (with_reducible first | exact Below.refl _ _ | assumption | refine Later.belowOf _ ?_ ?_ | refine Below.alloc ?_ ?_ _ | refine Below.setCell ?_ ?_ _ | refine Below.drewN' _ ?_ | refine Below.drew ?_ | exact Ge.le) | go_size)⟩, ret_bool (by unfold noneB; simp [*]), rfl⟩)
      | (skip
         rw [rounds_succ]
         go_wp2_with (fail)
         refine wp_region_later (by kernel_rfl) (by kernel_rfl) ?_
         repeat (go_big_quiet_step (first | (go_at_call 151; (with_reducible exact (right_any _ _).later _)) | (go_at_call 55; (with_reducible exact empty_any.later _))))
         (refine wpQuiet_nil ?_; rintro _ ⟨nq, rfl⟩)
         go_wp2_with (fail)
         first
           | (go_ret; exact ⟨⟨_, by (repeat' first | (with_reducible first | exact Below.refl _ _ | assumption | refine Later.belowOf _ ?_ ?_ | refine Below.alloc ?_ ?_ _ | refine Below.setCell ?_ ?_ _ | refine Below.drewN' _ ?_ | refine Below.drew ?_ | exact Ge.le) | go_size)⟩, ret_bool (by unfold noneB; simp [*]), rfl⟩)
           | (rw [rounds_succ]
              go_wp2_with (fail)
              go_ret
              exact ⟨⟨_, by (repeat' first | (with_reducible first | exact Below.refl _ _ | assumption | refine Later.belowOf _ ?_ ?_ | refine Below.alloc ?_ ?_ _ | refine Below.setCell ?_ ?_ _ | refine Below.drewN' _ ?_ | refine Below.drew ?_ | exact Ge.le) | go_size)⟩, ret_bool (by unfold noneB; simp [*]), rfl⟩))

/-! ### Is it infinite? -/

def infinB (x : Nat) : Bool := decide (rung x = 9218868437227405312)

theorem idx_rung (x : Nat) : idx (rung x) = rung x := by
  rw [idx_small]; exact rung_lt x
theorem nan_rung (x : Nat) : nan (rung x) = nan x := by
  unfold nan; rw [show rung (rung x) = rung x from Nat.mod_mod _ _]

theorem isInf0_fact {x : Nat} (h : nan x = false) : flt 9218868437227405311 (rung x) = infinB x := by
  unfold flt infinB
  have h1 : nan 9218868437227405311 = false := by decide
  have h2 : idx 9218868437227405311 = 9218868437227405311 := by decide
  have := nan_false.1 h
  unfold INFR at this
  rw [h1, h2, nan_rung, h, idx_rung]; simp; omega

set_option maxHeartbeats 400000 in
theorem isInf0_any (x : Nat) (hx : x < 18446744073709551616) : Gives 173 #[(.float .f64 x), .int .i64 0] (.bool (flt 9218868437227405311 (rung x))) := by
  intro w
  have a1 := abs_any x hx
  clear hx
  go_enter Tryz.func173, Tryz.ntmps173
  go_wp2_with (go_at_call 148; refine (a1.go _).mono ?_; rintro _ _ ⟨n, rfl, rfl⟩)
  go_ret
  exact ⟨rfl, by (repeat' first | (with_reducible first | exact Below.refl _ _ | assumption | refine Later.belowOf _ ?_ ?_ | refine Below.alloc ?_ ?_ _ | refine Below.setCell ?_ ?_ _ | refine Below.drewN' _ ?_ | refine Below.drew ?_ | exact Ge.le) | go_size)⟩
/-! ### What is asked -/

/-- A slice of one, or of two. -/
theorem go_none1 {w : World} {blk : Nat} {a b : Nat} [hG : Ge w (blk + 1)] (h0 : w.cell? ⟨blk, 0, none⟩ = some (.float .f64 a)) (h1 : w.cell? ⟨blk, 1, none⟩ = some (.float .f64 b)) :
    Calls Tryz.prog 124 #[.slice (some ⟨blk, 0, none⟩) 1 1] w fun e w' => ∃ n : Later w, e = .returned (.bool (noneB a b)) ∧ w' = n.val := none1_any a b w blk hG h0 h1

theorem infP_fact (x : Nat) : flt 9218868437227405311 x = feq x 9218868437227405312 := by
  unfold flt feq
  have h1 : nan 9218868437227405311 = false := by decide
  have h2 : idx 9218868437227405311 = 9218868437227405311 := by decide
  rw [h1, h2, nan_pinf, idx_pinf]
  cases h : nan x
  · have := idx_le h
    simp; omega
  · simp
/-! ### The reference -/

theorem noneB_eq (a b : Nat) : noneB a b = (!rightB a b || flt b a) := by
  unfold noneB
  cases h : rightB a b
  · rfl
  · simp
    unfold rightB at h
    cases e : eqI a b 9218868437227405312 18442240474082181120
    · rw [e] at h
      simp at h
      have := fle_true.1 h.1
      unfold flt
      rw [this.1, this.2.1]; simp; omega
    · unfold eqI at e
      simp at e
      have h1 := feq_true.1 e.1
      have h2 := feq_true.1 e.2
      symm
      rw [flt_true, h1.2.2, h2.2.2, idx_pinf, idx_ninf]
      exact ⟨h2.1, h1.1, by decide⟩

set_option maxHeartbeats 1000000 in
theorem none_ref_any (a b : Nat) (ha : a < 18446744073709551616) (hb : b < 18446744073709551616) : Gives 15 #[(.agg #[.float .f64 a, .float .f64 b])] (.bool (noneB a b)) := by
  intro w
  have r1 := right2_any a b ha hb
  clear ha hb
  refine (byB (rightB a b) (fun hc0 => (byB (flt b a) (fun hc1 => ?_) (fun hc1 => ?_))) (fun hc0 => ?_))
  all_goals
    go_enter Tryz.func15, Tryz.ntmps15
    go_wp2_with (go_at_call 18; refine (r1.go _).mono ?_; rintro _ _ ⟨n, rfl, rfl⟩)
    go_ret
    exact ⟨ret_bool (by rw [noneB_eq]; simp [*]), by (repeat' first | (with_reducible first | exact Below.refl _ _ | assumption | refine Later.belowOf _ ?_ ?_ | refine Below.alloc ?_ ?_ _ | refine Below.setCell ?_ ?_ _ | refine Below.drewN' _ ?_ | refine Below.drew ?_ | exact Ge.le) | go_size)⟩

end Go.Proofs.YtkmgfbhnioojhaaGreat
