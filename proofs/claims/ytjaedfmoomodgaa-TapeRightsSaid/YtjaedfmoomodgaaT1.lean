/- Contracts: what intervals may be (tapes' seat). -/
import Derived.Test.YtjaedfmoomodgaaW0
import Derived.Test.YtjaedfmoomodgaaFlA
namespace Go.Proofs.Ytjaedfmoomodgaa
set_option linter.unusedSimpArgs false
set_option linter.unusedVariables false
open Go.RowKit
open Fl

def infB (s : Int) : Nat := if s ≥ 0 then 9218868437227405312 else 18442240474082181120

set_option maxHeartbeats 400000 in
theorem math_Inf_any (s : Int) : Gives 28 #[.int .i64 s] (.float .f64 (infB s)) := by
  intro w
  unfold infB
  by_cases h : s ≥ 0
  · go_enter Try.func28, Try.ntmps28
    go_wp2
    go_ret
    exact ⟨by simp [h], Below.refl _ _⟩
  · go_enter Try.func28, Try.ntmps28
    go_wp2
    go_ret
    exact ⟨by simp [h], Below.refl _ _⟩

theorem math_Inf_pos : Gives 28 #[.int .i64 1] (.float .f64 9218868437227405312) := math_Inf_any 1

theorem math_Inf_neg : Gives 28 #[.int .i64 (-1)] (.float .f64 18442240474082181120) := math_Inf_any (-1)

def signB (x : Nat) : Bool := decide (wrap64 (x : Int) < 0)

set_option maxHeartbeats 400000 in
theorem signbit_any (x : Nat) : Gives 35 #[.float .f64 x] (.bool (signB x)) := by
  intro w
  go_enter Try.func35, Try.ntmps35
  go_wp2
  go_ret
  exact ⟨rfl, Below.refl _ _⟩

def plusB (x : Nat) : Bool := !feq x 0 || !signB x

set_option maxHeartbeats 400000 in
theorem plus_any (x : Nat) : Gives 29 #[.float .f64 x] (.bool (plusB x)) := by
  intro w
  unfold plusB
  cases h : feq x 0
  · go_enter Try.func29, Try.ntmps29
    go_wp2_with (go_at_call 35; refine (signbit_any _ _).mono ?_; rintro e w' ⟨rfl, hb⟩)
    go_ret
    exact ⟨ret_bool (by simp), Below.refl _ _⟩
  · go_enter Try.func29, Try.ntmps29
    go_wp2_with (go_at_call 35; refine (signbit_any _ _).mono ?_; rintro e w' ⟨rfl, hb⟩)
    go_ret
    exact ⟨ret_bool (by simp), hb⟩

@[go_sem] theorem build_iv (a b : Nat) (w : World) : (Instr.build 35 #[(0, .float .f64 a), (1, .float .f64 b)]).run Try.prog w = .ok (.agg #[.float .f64 a, .float .f64 b]) w := run_build w 35 _ _ (by kernel_rfl)

def eqI (a b c d : Nat) : Bool := feq a c && feq b d

@[go_sem high] theorem eq_iv (a b c d : Nat) (w : World) : (Op.equalIn 10000 35 (.agg #[.float .f64 a, .float .f64 b]) (.agg #[.float .f64 c, .float .f64 d])).run Try.prog w = .ok (eqI a b c d) w := by
  have u3 := Try.underlying33
  have a3 := Try.isAgg33
  have z3 := Try.sizeOf33
  have hS : Try.prog.underlying 35 = some (.struct (Try.prog.fieldsOf 35)) := by kernel_rfl
  have hp : Try.prog.stoodInHeld 35 = false := by kernel_rfl
  rw [show (10000 : Nat) = 9999 + 1 from rfl, run_equalIn_agg w 9999 35 _ _ hS hp]
  simp only [Program.fieldsOf, Try.underlying35]
  unfold eqI
  go_simp
  cases feq a c <;> cases feq b d <;> rfl

set_option maxHeartbeats 400000 in
theorem empty_any : Gives 23 #[] (.agg #[.float .f64 9218868437227405312, .float .f64 18442240474082181120]) := by
  intro w
  go_enter Try.func23, Try.ntmps23
  go_wp2
  go_returns
  exact ⟨rfl, (Below.refl _ _).alloc (Nat.le_refl _) _⟩

def rightB (a b : Nat) : Bool := eqI a b 9218868437227405312 18442240474082181120 || (fle a b && (flt a 9218868437227405312 && (flt 18442240474082181120 b && (plusB a && plusB b))))

set_option maxHeartbeats 1000000 in
theorem right_any (a b : Nat) : Gives 22 #[(.agg #[.float .f64 a, .float .f64 b])] (.bool (rightB a b)) := by
  intro w
  unfold rightB
  refine (byB (eqI a b 9218868437227405312 18442240474082181120) (fun hc0 => ?_) (fun hc0 => (byB (fle a b) (fun hc1 => (byB (flt a 9218868437227405312) (fun hc2 => (byB (flt 18442240474082181120 b) (fun hc3 => (byB (plusB a) (fun hc4 => ?_) (fun hc4 => ?_))) (fun hc3 => ?_))) (fun hc2 => ?_))) (fun hc1 => ?_))))
  all_goals
    go_enter Try.func22, Try.ntmps22
    go_wp2_with (fail)
    refine wp_region_later (by kernel_rfl) (by kernel_rfl) ?_
    repeat (go_big_quiet_step (first | (go_at_call 23; exact empty_any.later _) | (go_at_call 28; first | (with_reducible exact math_Inf_pos.later _) | (with_reducible exact math_Inf_neg.later _)) | (go_at_call 29; exact (plus_any _).later _)))
    (refine wpQuiet_nil ?_; rintro _ ⟨nq, rfl⟩)
    go_wp2
    go_ret
    exact ⟨ret_bool (by simp [*]), by (repeat' (first | (with_reducible exact Below.refl _ _) | (with_reducible assumption) | (with_reducible refine Later.belowOf _ ?_ ?_) | (with_reducible refine Below.alloc ?_ ?_ _) | (with_reducible refine Below.setCell ?_ ?_ _) | (with_reducible refine Below.drewN' _ ?_) | (with_reducible refine Below.drew ?_) | (with_reducible exact Ge.le) | go_size))⟩

set_option maxHeartbeats 400000 in
theorem inf2_pos : Gives 30 #[.int .i64 1] (.float .f64 9218868437227405312) := by
  intro w
  go_enter Try.func30, Try.ntmps30
  go_wp2_with (go_at_call 28; refine (math_Inf_pos.go _).mono ?_; rintro _ _ ⟨n, rfl, rfl⟩)
  go_ret
  exact ⟨rfl, by (repeat' (first | (with_reducible exact Below.refl _ _) | (with_reducible assumption) | (with_reducible refine Later.belowOf _ ?_ ?_) | (with_reducible refine Below.alloc ?_ ?_ _) | (with_reducible refine Below.setCell ?_ ?_ _) | (with_reducible refine Below.drewN' _ ?_) | (with_reducible refine Below.drew ?_) | (with_reducible exact Ge.le) | go_size))⟩

set_option maxHeartbeats 400000 in
theorem inf2_neg : Gives 30 #[.int .i64 (-1)] (.float .f64 18442240474082181120) := by
  intro w
  go_enter Try.func30, Try.ntmps30
  go_wp2_with (go_at_call 28; refine (math_Inf_neg.go _).mono ?_; rintro _ _ ⟨n, rfl, rfl⟩)
  go_ret
  exact ⟨rfl, by (repeat' (first | (with_reducible exact Below.refl _ _) | (with_reducible assumption) | (with_reducible refine Later.belowOf _ ?_ ?_) | (with_reducible refine Below.alloc ?_ ?_ _) | (with_reducible refine Below.setCell ?_ ?_ _) | (with_reducible refine Below.drewN' _ ?_) | (with_reducible refine Below.drew ?_) | (with_reducible exact Ge.le) | go_size))⟩

/-- -0, of 64 bits. -/
theorem plusB_eq {x : Nat} (hx : x < 18446744073709551616) : plusB x = !(feq x 0 && !((x : Int) == 0)) := by
  unfold plusB signB
  cases h : feq x 0
  · simp
  · have := feq_true.1 h
    have z : idx 0 = 0 := by decide
    have h2 := (idx_zero_iff x).1 (by rw [this.2.2, z])
    unfold rung SW at h2
    have e : x = 0 ∨ x = 9223372036854775808 := by omega
    rcases e with rfl | rfl <;> simp [wrap64]

set_option maxHeartbeats 400000 in
theorem minus0_any (x : Nat) (hx : x < 18446744073709551616) : Gives 31 #[(.float .f64 x)] (.bool (!plusB x)) := by
  intro w
  rw [plusB_eq hx]
  clear hx
  refine (byB (feq x 0) (fun hc0 => ?_) (fun hc0 => ?_))
  all_goals
    go_enter Try.func31, Try.ntmps31
    go_wp2
    go_ret
    exact ⟨ret_bool (by simp [hc0] <;> rfl), by (repeat' (first | (with_reducible exact Below.refl _ _) | (with_reducible assumption) | (with_reducible refine Later.belowOf _ ?_ ?_) | (with_reducible refine Below.alloc ?_ ?_ _) | (with_reducible refine Below.setCell ?_ ?_ _) | (with_reducible refine Below.drewN' _ ?_) | (with_reducible refine Below.drew ?_) | (with_reducible exact Ge.le) | go_size))⟩

theorem idx_le {x : Nat} (h : nan x = false) : -9218868437227405312 ≤ idx x ∧ idx x ≤ 9218868437227405312 := by
  have := nan_false.1 h
  unfold INFR at this
  unfold idx
  cases sgn x <;> simp <;> omega

theorem idx_pinf : idx 9218868437227405312 = 9218868437227405312 := by decide

theorem idx_ninf : idx 18442240474082181120 = -9218868437227405312 := by decide

theorem nan_pinf : nan 9218868437227405312 = false := by decide

theorem nan_ninf : nan 18442240474082181120 = false := by decide

theorem rightB_eq (a b : Nat) : rightB a b = ((feq a 9218868437227405312 && feq b 18442240474082181120) || (fle a b && (!feq a 9218868437227405312 && (!feq b 18442240474082181120 && (plusB a && plusB b))))) := by
  unfold rightB eqI
  cases h1 : fle a b
  · simp
  · have h := fle_true.1 h1
    have la := idx_le h.1
    have lb := idx_le h.2.1
    have e1 : flt a 9218868437227405312 = !feq a 9218868437227405312 := by
      unfold flt feq; rw [nan_pinf, idx_pinf, h.1]; simp; rw [Bool.eq_iff_iff]; simp; omega
    have e2 : flt 18442240474082181120 b = !feq b 18442240474082181120 := by
      unfold flt feq; rw [nan_ninf, idx_ninf, h.2.1]; simp; rw [Bool.eq_iff_iff]; simp; omega
    rw [e1, e2]

set_option maxHeartbeats 2000000 in
theorem right2_any (a b : Nat) (ha : a < 18446744073709551616) (hb : b < 18446744073709551616) : Gives 25 #[(.agg #[.float .f64 a, .float .f64 b])] (.bool (rightB a b)) := by
  intro w
  have ma := minus0_any a ha
  have mb := minus0_any b hb
  rw [rightB_eq]
  clear ha hb
  refine (byB (feq a 9218868437227405312) (fun hc0 => (byB (feq b 18442240474082181120) (fun hc1 => ?_) (fun hc1 => (byB (fle a b) (fun hc2 => ?_) (fun hc2 => ?_))))) (fun hc0 => (byB (feq b 18442240474082181120) (fun hc3 => (byB (fle a b) (fun hc4 => ?_) (fun hc4 => ?_))) (fun hc3 => (byB (fle a b) (fun hc5 => (byB (plusB a) (fun hc6 => (byB (plusB b) (fun hc7 => ?_) (fun hc7 => ?_))) (fun hc6 => ?_))) (fun hc5 => ?_))))))
  all_goals
    go_enter Try.func25, Try.ntmps25
    go_wp2_with (fail)
    refine wp_region_later (by kernel_rfl) (by kernel_rfl) ?_
    repeat (go_big_quiet_step ((go_at_call 30; first | (with_reducible exact inf2_pos.later _) | (with_reducible exact inf2_neg.later _))))
    (refine wpQuiet_nil ?_; rintro _ ⟨nq, rfl⟩)
    go_wp2_with (fail)
    first
      | (go_ret; exact ⟨ret_bool (by simp [*]), by (repeat' (first | (with_reducible exact Below.refl _ _) | (with_reducible assumption) | (with_reducible refine Later.belowOf _ ?_ ?_) | (with_reducible refine Below.alloc ?_ ?_ _) | (with_reducible refine Below.setCell ?_ ?_ _) | (with_reducible refine Below.drewN' _ ?_) | (with_reducible refine Below.drew ?_) | (with_reducible exact Ge.le) | go_size))⟩)
      | (refine wp_region_later (by kernel_rfl) (by kernel_rfl) ?_
         repeat (go_big_quiet_step (first | (go_at_call 30; first | (with_reducible exact inf2_pos.later _) | (with_reducible exact inf2_neg.later _)) | (go_at_call 31; first | (with_reducible exact ma.later _) | (with_reducible exact mb.later _))))
         (refine wpQuiet_nil ?_; rintro _ ⟨nq, rfl⟩)
         go_wp2
         go_ret
         exact ⟨ret_bool (by simp [*]), by (repeat' (first | (with_reducible exact Below.refl _ _) | (with_reducible assumption) | (with_reducible refine Later.belowOf _ ?_ ?_) | (with_reducible refine Below.alloc ?_ ?_ _) | (with_reducible refine Below.setCell ?_ ?_ _) | (with_reducible refine Below.drewN' _ ?_) | (with_reducible refine Below.drew ?_) | (with_reducible exact Ge.le) | go_size))⟩)

def noneB (a b : Nat) : Bool := !rightB a b || eqI a b 9218868437227405312 18442240474082181120

theorem noneB_eq (a b : Nat) : noneB a b = (!rightB a b || flt b a) := by
  unfold noneB
  cases h : rightB a b
  · rfl
  · simp
    unfold rightB at h
    cases e : eqI a b 9218868437227405312 18442240474082181120
    · rw [e] at h
      simp at h
      have := fle_true.1 h.1
      unfold flt
      rw [this.1, this.2.1]; simp; omega
    · unfold eqI at e
      simp at e
      have h1 := feq_true.1 e.1
      have h2 := feq_true.1 e.2
      symm
      rw [flt_true, h1.2.2, h2.2.2, idx_pinf, idx_ninf]
      exact ⟨h2.1, h1.1, by decide⟩

set_option maxHeartbeats 1000000 in
theorem none_ref_any (a b : Nat) (ha : a < 18446744073709551616) (hb : b < 18446744073709551616) : Gives 14 #[(.agg #[.float .f64 a, .float .f64 b])] (.bool (noneB a b)) := by
  intro w
  have r1 := right2_any a b ha hb
  clear ha hb
  refine (byB (rightB a b) (fun hc0 => (byB (flt b a) (fun hc1 => ?_) (fun hc1 => ?_))) (fun hc0 => ?_))
  all_goals
    go_enter Try.func14, Try.ntmps14
    go_wp2_with (go_at_call 25; refine (r1.go _).mono ?_; rintro _ _ ⟨n, rfl, rfl⟩)
    go_ret
    exact ⟨ret_bool (by rw [noneB_eq]; simp [*]), by (repeat' (first | (with_reducible exact Below.refl _ _) | (with_reducible assumption) | (with_reducible refine Later.belowOf _ ?_ ?_) | (with_reducible refine Below.alloc ?_ ?_ _) | (with_reducible refine Below.setCell ?_ ?_ _) | (with_reducible refine Below.drewN' _ ?_) | (with_reducible refine Below.drew ?_) | (with_reducible exact Ge.le) | go_size))⟩
end Go.Proofs.Ytjaedfmoomodgaa
