/- Contracts: whether some of one or two intervals hold nothing; what an interval holds. -/
import Derived.Test.YtjdccbigaahkeaaW3
import Derived.LoopN
namespace Go.Proofs.Ytjdccbigaahkeaa
set_option linter.unusedSimpArgs false
set_option linter.unusedVariables false
open Go.RowKit
open Fl

def noneB (a b : Nat) : Bool := !rightB a b || eqI a b 9218868437227405312 18442240474082181120

set_option maxHeartbeats 2000000 in
theorem none1_any (a b : Nat) (w : World) (blk : Nat) (hG : Ge w (blk + 1)) (h0 : w.cell? ⟨blk, 0, none⟩ = some (.float .f64 a)) (h1 : w.cell? ⟨blk, 1, none⟩ = some (.float .f64 b)) :
    Calls Try.prog 99 #[.slice (some ⟨blk, 0, none⟩) 1 1] w fun e w' => ∃ n : Later w, e = .returned (.bool (noneB a b)) ∧ w' = n.val := by
  refine (byB (rightB a b) (fun hc0 => (byB (eqI a b 9218868437227405312 18442240474082181120) (fun hc1 => ?_) (fun hc1 => ?_))) (fun hc0 => ?_))
  all_goals
    go_enter Try.func99, Try.ntmps99
    go_wp2_with (fail)
    refine wp_loop_rounds 2 ?_
    rw [rounds_succ]
    go_wp2_with (fail)
    refine wp_region_later (by kernel_rfl) (by kernel_rfl) ?_
    repeat (go_big_quiet_step (first | (go_at_call 20; (with_reducible exact (right_any _ _).later _)) | (go_at_call 26; (with_reducible exact empty_any.later _))))
    (refine wpQuiet_nil ?_; rintro _ ⟨nq, rfl⟩)
    go_wp2_with (fail)
    first
      | (go_ret; exact ⟨⟨_, by (repeat' (first | (with_reducible exact Below.refl _ _) | (with_reducible assumption) | (with_reducible refine Later.belowOf _ ?_ ?_) | (with_reducible refine Below.alloc ?_ ?_ _) | (with_reducible refine Below.setCell ?_ ?_ _) | (with_reducible refine Below.drewN' _ ?_) | (with_reducible refine Below.drew ?_) | (with_reducible exact Ge.le) | go_size))⟩, ret_bool (by unfold noneB; simp [*]), rfl⟩)
      | (rw [rounds_succ]
         go_wp2_with (fail)
         go_ret
         exact ⟨⟨_, by (repeat' (first | (with_reducible exact Below.refl _ _) | (with_reducible assumption) | (with_reducible refine Later.belowOf _ ?_ ?_) | (with_reducible refine Below.alloc ?_ ?_ _) | (with_reducible refine Below.setCell ?_ ?_ _) | (with_reducible refine Below.drewN' _ ?_) | (with_reducible refine Below.drew ?_) | (with_reducible exact Ge.le) | go_size))⟩, ret_bool (by unfold noneB; simp [*]), rfl⟩)

set_option maxHeartbeats 2000000 in
theorem none2_any (a b c d : Nat) (w : World) (blk : Nat) (hG : Ge w (blk + 1)) (h0 : w.cell? ⟨blk, 0, none⟩ = some (.float .f64 a)) (h1 : w.cell? ⟨blk, 1, none⟩ = some (.float .f64 b)) (h2 : w.cell? ⟨blk, 2, none⟩ = some (.float .f64 c)) (h3 : w.cell? ⟨blk, 3, none⟩ = some (.float .f64 d)) :
    Calls Try.prog 99 #[.slice (some ⟨blk, 0, none⟩) 2 2] w fun e w' => ∃ n : Later w, e = .returned (.bool (noneB a b || noneB c d)) ∧ w' = n.val := by
  refine (byB (rightB a b) (fun hc0 => (byB (eqI a b 9218868437227405312 18442240474082181120) (fun hc1 => ?_) (fun hc1 => (byB (rightB c d) (fun hc2 => (byB (eqI c d 9218868437227405312 18442240474082181120) (fun hc3 => ?_) (fun hc3 => ?_))) (fun hc2 => ?_))))) (fun hc0 => ?_))
  all_goals
    go_enter Try.func99, Try.ntmps99
    go_wp2_with (fail)
    refine wp_loop_rounds 3 ?_
    rw [rounds_succ]
    go_wp2_with (fail)
    refine wp_region_later (by kernel_rfl) (by kernel_rfl) ?_
    repeat (go_big_quiet_step (first | (go_at_call 20; (with_reducible exact (right_any _ _).later _)) | (go_at_call 26; (with_reducible exact empty_any.later _))))
    (refine wpQuiet_nil ?_; rintro _ ⟨nq, rfl⟩)
    go_wp2_with (fail)
    first
      | (go_ret; exact ⟨⟨_, by (repeat' (first | (with_reducible exact Below.refl _ _) | (with_reducible assumption) | (with_reducible refine Later.belowOf _ ?_ ?_) | (with_reducible refine Below.alloc ?_ ?_ _) | (with_reducible refine Below.setCell ?_ ?_ _) | (with_reducible refine Below.drewN' _ ?_) | (with_reducible refine Below.drew ?_) | (with_reducible exact Ge.le) | go_size))⟩, ret_bool (by unfold noneB; simp [*]), rfl⟩)
      | (skip
         rw [rounds_succ]
         go_wp2_with (fail)
         refine wp_region_later (by kernel_rfl) (by kernel_rfl) ?_
         repeat (go_big_quiet_step (first | (go_at_call 20; (with_reducible exact (right_any _ _).later _)) | (go_at_call 26; (with_reducible exact empty_any.later _))))
         (refine wpQuiet_nil ?_; rintro _ ⟨nq, rfl⟩)
         go_wp2_with (fail)
         first
           | (go_ret; exact ⟨⟨_, by (repeat' (first | (with_reducible exact Below.refl _ _) | (with_reducible assumption) | (with_reducible refine Later.belowOf _ ?_ ?_) | (with_reducible refine Below.alloc ?_ ?_ _) | (with_reducible refine Below.setCell ?_ ?_ _) | (with_reducible refine Below.drewN' _ ?_) | (with_reducible refine Below.drew ?_) | (with_reducible exact Ge.le) | go_size))⟩, ret_bool (by unfold noneB; simp [*]), rfl⟩)
           | (rw [rounds_succ]
              go_wp2_with (fail)
              go_ret
              exact ⟨⟨_, by (repeat' (first | (with_reducible exact Below.refl _ _) | (with_reducible assumption) | (with_reducible refine Later.belowOf _ ?_ ?_) | (with_reducible refine Below.alloc ?_ ?_ _) | (with_reducible refine Below.setCell ?_ ?_ _) | (with_reducible refine Below.drewN' _ ?_) | (with_reducible refine Below.drew ?_) | (with_reducible exact Ge.le) | go_size))⟩, ret_bool (by unfold noneB; simp [*]), rfl⟩))

/-! ### Is it infinite? -/

def infinB (x : Nat) : Bool := decide (rung x = 9218868437227405312)

theorem idx_rung (x : Nat) : idx (rung x) = rung x := by
  rw [idx_small]; exact rung_lt x
theorem nan_rung (x : Nat) : nan (rung x) = nan x := by
  unfold nan; rw [show rung (rung x) = rung x from Nat.mod_mod _ _]

theorem isInf0_fact {x : Nat} (h : nan x = false) : flt 9218868437227405311 (rung x) = infinB x := by
  unfold flt infinB
  have h1 : nan 9218868437227405311 = false := by decide
  have h2 : idx 9218868437227405311 = 9218868437227405311 := by decide
  have := nan_false.1 h
  unfold INFR at this
  rw [h1, h2, nan_rung, h, idx_rung]; simp; omega

theorem flt_nan_right {a b : Nat} (h : nan b = true) : flt a b = false := by unfold flt; rw [h]; simp
theorem flt_nan_left {a b : Nat} (h : nan a = true) : flt a b = false := by unfold flt; rw [h]; simp

set_option maxHeartbeats 400000 in
theorem isInf0_any (x : Nat) (hx : x < 18446744073709551616) : Gives 100 #[(.float .f64 x), .int .i64 0] (.bool (flt 9218868437227405311 (rung x))) := by
  intro w
  have a1 := abs_any x hx
  clear hx
  go_enter Try.func100, Try.ntmps100
  go_wp2_with (go_at_call 80; refine (a1.go _).mono ?_; rintro _ _ ⟨n, rfl, rfl⟩)
  go_ret
  exact ⟨rfl, by (repeat' (first | (with_reducible exact Below.refl _ _) | (with_reducible assumption) | (with_reducible refine Later.belowOf _ ?_ ?_) | (with_reducible refine Below.alloc ?_ ?_ _) | (with_reducible refine Below.setCell ?_ ?_ _) | (with_reducible refine Below.drewN' _ ?_) | (with_reducible refine Below.drew ?_) | (with_reducible exact Ge.le) | go_size))⟩
set_option maxHeartbeats 400000 in
theorem isInfP_any (x : Nat) : Gives 100 #[(.float .f64 x), .int .i64 1] (.bool (flt 9218868437227405311 x)) := by
  intro w
  go_enter Try.func100, Try.ntmps100
  go_wp2
  go_ret
  exact ⟨rfl, by (repeat' (first | (with_reducible exact Below.refl _ _) | (with_reducible assumption) | (with_reducible refine Later.belowOf _ ?_ ?_) | (with_reducible refine Below.alloc ?_ ?_ _) | (with_reducible refine Below.setCell ?_ ?_ _) | (with_reducible refine Below.drewN' _ ?_) | (with_reducible refine Below.drew ?_) | (with_reducible exact Ge.le) | go_size))⟩
set_option maxHeartbeats 400000 in
theorem isInfM_any (x : Nat) (hx : x < 18446744073709551616) : Gives 100 #[(.float .f64 x), .int .i64 (-1)] (.bool (flt 9218868437227405311 (fneg x))) := by
  intro w
  have e := fneg_eq hx
  clear hx
  go_enter Try.func100, Try.ntmps100
  go_wp2
  go_ret
  exact ⟨rfl, by (repeat' (first | (with_reducible exact Below.refl _ _) | (with_reducible assumption) | (with_reducible refine Later.belowOf _ ?_ ?_) | (with_reducible refine Below.alloc ?_ ?_ _) | (with_reducible refine Below.setCell ?_ ?_ _) | (with_reducible refine Below.drewN' _ ?_) | (with_reducible refine Below.drew ?_) | (with_reducible exact Ge.le) | go_size))⟩

/-! ### What is asked -/

def hasB (a b v : Nat) : Bool := !noneB a b && (fle a v && (fle v b && !infinB v))

/-- A slice of one, or of two. -/
theorem go_none1 {w : World} {blk : Nat} {a b : Nat} [hG : Ge w (blk + 1)] (h0 : w.cell? ⟨blk, 0, none⟩ = some (.float .f64 a)) (h1 : w.cell? ⟨blk, 1, none⟩ = some (.float .f64 b)) :
    Calls Try.prog 99 #[.slice (some ⟨blk, 0, none⟩) 1 1] w fun e w' => ∃ n : Later w, e = .returned (.bool (noneB a b)) ∧ w' = n.val := none1_any a b w blk hG h0 h1

set_option maxHeartbeats 1000000 in
theorem has_any (a b v : Nat) (hv : v < 18446744073709551616) : Gives 35 #[(.agg #[.float .f64 a, .float .f64 b]), (.float .f64 v)] (.bool (hasB a b v)) := by
  intro w
  have i1 := isInf0_any v hv
  clear hv
  refine (byB (noneB a b) (fun hc0 => ?_) (fun hc0 => (byB (fle a v) (fun hc1 => (byB (fle v b) (fun hc2 => ?_) (fun hc2 => ?_))) (fun hc1 => ?_))))
  all_goals
    go_enter Try.func35, Try.ntmps35
    go_wp2_with (first | (go_at_call 99; refine Calls.mono (go_none1 (a := a) (b := b) (by simp [go_sem]) (by simp [go_sem])) ?_; rintro _ _ ⟨n, rfl, rfl⟩) | (go_at_call 100; refine (i1.go _).mono ?_; rintro _ _ ⟨n, rfl, rfl⟩))
    go_ret
    exact ⟨ret_bool (by unfold hasB; simp [*]; try exact isInf0_fact (fle_true.1 hc1).2.1), by (repeat' (first | (with_reducible exact Below.refl _ _) | (with_reducible assumption) | (with_reducible refine Later.belowOf _ ?_ ?_) | (with_reducible refine Below.alloc ?_ ?_ _) | (with_reducible refine Below.setCell ?_ ?_ _) | (with_reducible refine Below.drewN' _ ?_) | (with_reducible refine Below.drew ?_) | (with_reducible exact Ge.le) | go_size))⟩

theorem infP_fact (x : Nat) : flt 9218868437227405311 x = feq x 9218868437227405312 := by
  unfold flt feq
  have h1 : nan 9218868437227405311 = false := by decide
  have h2 : idx 9218868437227405311 = 9218868437227405311 := by decide
  rw [h1, h2, nan_pinf, idx_pinf]
  cases h : nan x
  · have := idx_le h
    simp; omega
  · simp
theorem infM_fact (x : Nat) : flt 9218868437227405311 (fneg x) = feq x 18442240474082181120 := by
  rw [infP_fact]
  unfold feq
  rw [nan_fneg, idx_fneg, nan_pinf, idx_pinf, nan_ninf, idx_ninf]
  cases nan x
  · simp; omega
  · simp

def insideB (a b c d : Nat) : Bool := noneB a b || (!noneB c d && (fle c a && fle b d))

set_option maxHeartbeats 1000000 in
theorem inside_any (a b c d : Nat) : Gives 37 #[(.agg #[.float .f64 a, .float .f64 b]), (.agg #[.float .f64 c, .float .f64 d])] (.bool (insideB a b c d)) := by
  intro w
  refine (byB (noneB a b) (fun hc0 => ?_) (fun hc0 => (byB (noneB c d) (fun hc1 => ?_) (fun hc1 => (byB (fle c a) (fun hc2 => ?_) (fun hc2 => ?_))))))
  all_goals
    go_enter Try.func37, Try.ntmps37
    go_wp2_with (fail)
    refine Calls.mono (go_none1 (a := a) (b := b) (by simp [go_sem]) (by simp [go_sem])) ?_
    rintro _ _ ⟨n, rfl, rfl⟩
    go_wp2_with (go_at_call 99; refine Calls.mono (go_none1 (a := c) (b := d) (by simp [go_sem]) (by simp [go_sem])) ?_; rintro _ _ ⟨n, rfl, rfl⟩)
    go_ret
    exact ⟨ret_bool (by unfold insideB; simp [*]), by (repeat' (first | (with_reducible exact Below.refl _ _) | (with_reducible assumption) | (with_reducible refine Later.belowOf _ ?_ ?_) | (with_reducible refine Below.alloc ?_ ?_ _) | (with_reducible refine Below.setCell ?_ ?_ _) | (with_reducible refine Below.drewN' _ ?_) | (with_reducible refine Below.drew ?_) | (with_reducible exact Ge.le) | go_size))⟩

def strictB (a b c d : Nat) : Bool := noneB a b || (!noneB c d && ((feq c 18442240474082181120 || flt c a) && (feq d 9218868437227405312 || flt b d)))

set_option maxHeartbeats 1000000 in
theorem strict_any (a b c d : Nat) (hc : c < 18446744073709551616) : Gives 39 #[(.agg #[.float .f64 a, .float .f64 b]), (.agg #[.float .f64 c, .float .f64 d])] (.bool (strictB a b c d)) := by
  intro w
  have i1 := isInfM_any c hc
  rw [infM_fact] at i1
  have i2 := isInfP_any d
  rw [infP_fact] at i2
  clear hc
  refine (byB (noneB a b) (fun hc0 => ?_) (fun hc0 => (byB (noneB c d) (fun hc1 => ?_) (fun hc1 => (byB (feq c 18442240474082181120) (fun hc2 => (byB (feq d 9218868437227405312) (fun hc3 => ?_) (fun hc3 => ?_))) (fun hc2 => (byB (flt c a) (fun hc4 => (byB (feq d 9218868437227405312) (fun hc5 => ?_) (fun hc5 => ?_))) (fun hc4 => ?_))))))))
  all_goals
    go_enter Try.func39, Try.ntmps39
    go_wp2_with (fail)
    refine Calls.mono (go_none1 (a := a) (b := b) (by simp [go_sem]) (by simp [go_sem])) ?_
    rintro _ _ ⟨n, rfl, rfl⟩
    go_wp2_with (first | (go_at_call 99; refine Calls.mono (go_none1 (a := c) (b := d) (by simp [go_sem]) (by simp [go_sem])) ?_; rintro _ _ ⟨n, rfl, rfl⟩) | (go_at_call 100; first | ((with_reducible refine (i1.go _).mono ?_); rintro _ _ ⟨n, rfl, rfl⟩) | ((with_reducible refine (i2.go _).mono ?_); rintro _ _ ⟨n, rfl, rfl⟩)))
    go_ret
    exact ⟨ret_bool (by unfold strictB; simp [*]), by (repeat' (first | (with_reducible exact Below.refl _ _) | (with_reducible assumption) | (with_reducible refine Later.belowOf _ ?_ ?_) | (with_reducible refine Below.alloc ?_ ?_ _) | (with_reducible refine Below.setCell ?_ ?_ _) | (with_reducible refine Below.drewN' _ ?_) | (with_reducible refine Below.drew ?_) | (with_reducible exact Ge.le) | go_size))⟩

/-! ### The reference -/

theorem noneB_eq (a b : Nat) : noneB a b = (!rightB a b || flt b a) := by
  unfold noneB
  cases h : rightB a b
  · rfl
  · simp
    unfold rightB at h
    cases e : eqI a b 9218868437227405312 18442240474082181120
    · rw [e] at h
      simp at h
      have := fle_true.1 h.1
      unfold flt
      rw [this.1, this.2.1]; simp; omega
    · unfold eqI at e
      simp at e
      have h1 := feq_true.1 e.1
      have h2 := feq_true.1 e.2
      symm
      rw [flt_true, h1.2.2, h2.2.2, idx_pinf, idx_ninf]
      exact ⟨h2.1, h1.1, by decide⟩

set_option maxHeartbeats 1000000 in
theorem none_ref_any (a b : Nat) (ha : a < 18446744073709551616) (hb : b < 18446744073709551616) : Gives 83 #[(.agg #[.float .f64 a, .float .f64 b])] (.bool (noneB a b)) := by
  intro w
  have r1 := right2_any a b ha hb
  clear ha hb
  refine (byB (rightB a b) (fun hc0 => (byB (flt b a) (fun hc1 => ?_) (fun hc1 => ?_))) (fun hc0 => ?_))
  all_goals
    go_enter Try.func83, Try.ntmps83
    go_wp2_with (go_at_call 21; refine (r1.go _).mono ?_; rintro _ _ ⟨n, rfl, rfl⟩)
    go_ret
    exact ⟨ret_bool (by rw [noneB_eq]; simp [*]), by (repeat' (first | (with_reducible exact Below.refl _ _) | (with_reducible assumption) | (with_reducible refine Later.belowOf _ ?_ ?_) | (with_reducible refine Below.alloc ?_ ?_ _) | (with_reducible refine Below.setCell ?_ ?_ _) | (with_reducible refine Below.drewN' _ ?_) | (with_reducible refine Below.drew ?_) | (with_reducible exact Ge.le) | go_size))⟩

theorem infin_fact {x : Nat} (h : nan x = false) : (!infinB x) = (!feq x 9218868437227405312 && !feq x 18442240474082181120) := by
  unfold infinB feq
  rw [h, nan_pinf, idx_pinf, nan_ninf, idx_ninf]
  have l := nan_false.1 h
  unfold INFR at l
  unfold idx
  simp
  rw [Bool.eq_iff_iff]
  cases sgn x <;> simp <;> omega

set_option maxHeartbeats 1000000 in
theorem has_ref_any (a b v : Nat) (ha : a < 18446744073709551616) (hb : b < 18446744073709551616) : Gives 36 #[(.agg #[.float .f64 a, .float .f64 b]), (.float .f64 v)] (.bool (hasB a b v)) := by
  intro w
  have n1 := none_ref_any a b ha hb
  clear ha hb
  refine (byB (noneB a b) (fun hc0 => ?_) (fun hc0 => (byB (fle a v) (fun hc1 => (byB (fle v b) (fun hc2 => (byB (!feq v 9218868437227405312) (fun hc3 => ?_) (fun hc3 => ?_))) (fun hc2 => ?_))) (fun hc1 => ?_))))
  all_goals
    go_enter Try.func36, Try.ntmps36
    go_wp2_with (first | (go_at_call 83; refine (n1.go _).mono ?_; rintro _ _ ⟨n, rfl, rfl⟩) | (go_at_call 90; first | ((with_reducible refine (inf2_pos.go _).mono ?_); rintro _ _ ⟨n, rfl, rfl⟩) | ((with_reducible refine (inf2_neg.go _).mono ?_); rintro _ _ ⟨n, rfl, rfl⟩)))
    go_ret
    exact ⟨ret_bool (by unfold hasB; first | (simp [*]; done) | (rw [infin_fact (fle_true.1 hc1).2.1]; simp_all)), by (repeat' (first | (with_reducible exact Below.refl _ _) | (with_reducible assumption) | (with_reducible refine Later.belowOf _ ?_ ?_) | (with_reducible refine Below.alloc ?_ ?_ _) | (with_reducible refine Below.setCell ?_ ?_ _) | (with_reducible refine Below.drewN' _ ?_) | (with_reducible refine Below.drew ?_) | (with_reducible exact Ge.le) | go_size))⟩

set_option maxHeartbeats 1000000 in
theorem inside_ref_any (a b c d : Nat) (ha : a < 18446744073709551616) (hb : b < 18446744073709551616) (hc : c < 18446744073709551616) (hd : d < 18446744073709551616) : Gives 38 #[(.agg #[.float .f64 a, .float .f64 b]), (.agg #[.float .f64 c, .float .f64 d])] (.bool (insideB a b c d)) := by
  intro w
  have n1 := none_ref_any a b ha hb
  have n2 := none_ref_any c d hc hd
  clear ha hb hc hd
  refine (byB (noneB a b) (fun hc0 => ?_) (fun hc0 => (byB (noneB c d) (fun hc1 => ?_) (fun hc1 => (byB (fle c a) (fun hc2 => ?_) (fun hc2 => ?_))))))
  all_goals
    go_enter Try.func38, Try.ntmps38
    go_wp2_with (fail)
    refine (n1.go _).mono ?_
    rintro _ _ ⟨n, rfl, rfl⟩
    go_wp2_with (go_at_call 83; refine (n2.go _).mono ?_; rintro _ _ ⟨n, rfl, rfl⟩)
    go_ret
    exact ⟨ret_bool (by unfold insideB; simp [*]), by (repeat' (first | (with_reducible exact Below.refl _ _) | (with_reducible assumption) | (with_reducible refine Later.belowOf _ ?_ ?_) | (with_reducible refine Below.alloc ?_ ?_ _) | (with_reducible refine Below.setCell ?_ ?_ _) | (with_reducible refine Below.drewN' _ ?_) | (with_reducible refine Below.drew ?_) | (with_reducible exact Ge.le) | go_size))⟩

set_option maxHeartbeats 2000000 in
theorem strict_ref_any (a b c d : Nat) (ha : a < 18446744073709551616) (hb : b < 18446744073709551616) (hc : c < 18446744073709551616) (hd : d < 18446744073709551616) : Gives 40 #[(.agg #[.float .f64 a, .float .f64 b]), (.agg #[.float .f64 c, .float .f64 d])] (.bool (strictB a b c d)) := by
  intro w
  have n1 := none_ref_any a b ha hb
  have n2 := none_ref_any c d hc hd
  clear ha hb hc hd
  refine (byB (noneB a b) (fun hc0 => ?_) (fun hc0 => (byB (noneB c d) (fun hc1 => ?_) (fun hc1 => (byB (feq c 18442240474082181120) (fun hc2 => (byB (feq d 9218868437227405312) (fun hc3 => ?_) (fun hc3 => (byB (flt b d) (fun hc4 => ?_) (fun hc4 => ?_))))) (fun hc2 => (byB (flt c a) (fun hc5 => (byB (feq d 9218868437227405312) (fun hc6 => ?_) (fun hc6 => (byB (flt b d) (fun hc7 => ?_) (fun hc7 => ?_))))) (fun hc5 => (byB (feq d 9218868437227405312) (fun hc8 => ?_) (fun hc8 => (byB (flt b d) (fun hc9 => ?_) (fun hc9 => ?_))))))))))))
  all_goals
    go_enter Try.func40, Try.ntmps40
    go_wp2_with (fail)
    refine (n1.go _).mono ?_
    rintro _ _ ⟨n, rfl, rfl⟩
    go_wp2_with (go_at_call 83; refine (n2.go _).mono ?_; rintro _ _ ⟨n, rfl, rfl⟩)
    first
      | (go_ret; exact ⟨ret_bool (by unfold strictB; simp [*]), by (repeat' (first | (with_reducible exact Below.refl _ _) | (with_reducible assumption) | (with_reducible refine Later.belowOf _ ?_ ?_) | (with_reducible refine Below.alloc ?_ ?_ _) | (with_reducible refine Below.setCell ?_ ?_ _) | (with_reducible refine Below.drewN' _ ?_) | (with_reducible refine Below.drew ?_) | (with_reducible exact Ge.le) | go_size))⟩)
      | (refine wp_region_later (by kernel_rfl) (by kernel_rfl) ?_
         repeat (go_big_quiet_step ((go_at_call 90; first | (with_reducible exact inf2_pos.later _) | (with_reducible exact inf2_neg.later _))))
         (refine wpQuiet_nil ?_; rintro _ ⟨nq, rfl⟩)
         go_wp2_with (fail)
         refine wp_region_later (by kernel_rfl) (by kernel_rfl) ?_
         repeat (go_big_quiet_step ((go_at_call 90; first | (with_reducible exact inf2_pos.later _) | (with_reducible exact inf2_neg.later _))))
         (refine wpQuiet_nil ?_; rintro _ ⟨nq, rfl⟩)
         go_wp2
         go_ret
         exact ⟨ret_bool (by unfold strictB; simp [*]), by (repeat' (first | (with_reducible exact Below.refl _ _) | (with_reducible assumption) | (with_reducible refine Later.belowOf _ ?_ ?_) | (with_reducible refine Below.alloc ?_ ?_ _) | (with_reducible refine Below.setCell ?_ ?_ _) | (with_reducible refine Below.drewN' _ ?_) | (with_reducible refine Below.drew ?_) | (with_reducible exact Ge.le) | go_size))⟩)
end Go.Proofs.Ytjdccbigaahkeaa
