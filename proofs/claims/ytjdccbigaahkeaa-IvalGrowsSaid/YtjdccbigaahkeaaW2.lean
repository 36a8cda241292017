/- Contracts: intervals made; the reference's own small functions. -/
import Derived.Test.YtjdccbigaahkeaaW1
import Derived.Test.YtjdccbigaahkeaaFlA
namespace Go.Proofs.Ytjdccbigaahkeaa
set_option linter.unusedSimpArgs false
set_option linter.unusedVariables false
open Go.RowKit
open Fl

theorem rightB_nan {a b : Nat} (h : nan a = true ∨ nan b = true) : rightB a b = false := by
  unfold rightB eqI feq fle
  rcases h with h | h <;> simp [h]

def makeI (a b : Nat) : Nat × Nat := if rightB (cl a) (cl b) then (cl a, cl b) else (9218868437227405312, 18442240474082181120)

theorem notB (b : Bool) : (!b) = false → b = true := by cases b <;> simp

set_option maxHeartbeats 1000000 in
theorem make_any (a b : Nat) (ha : a < 18446744073709551616) (hb : b < 18446744073709551616) : Gives 23 #[(.float .f64 a), (.float .f64 b)] (.agg #[.float .f64 ((makeI a b).1), .float .f64 ((makeI a b).2)]) := by
  intro w
  have fa := fun w => fop_add_zero w ha
  have fb := fun w => fop_add_zero w hb
  by_cases hn : nan a = true ∨ nan b = true
  · have e : makeI a b = (9218868437227405312, 18442240474082181120) := by
      unfold makeI
      rw [rightB_nan]
      · rfl
      · rcases hn with h | h
        · left; rw [cl_nan h]; exact h
        · right; rw [cl_nan h]; exact h
    rw [e]
    have hR : ∀ w w', rightB (fop .add a 0 w) (fop .add b 0 w') = false := by
      intro w w'
      apply rightB_nan
      rcases hn with h | h
      · left; rcases fa w with h' | h'
        · exact h'.2
        · rw [h] at h'; exact absurd h'.1 (by decide)
      · right; rcases fb w' with h' | h'
        · exact h'.2
        · rw [h] at h'; exact absurd h'.1 (by decide)
    clear fa fb hn e ha hb
    go_enter Try.func23, Try.ntmps23
    go_wp2_with (first | (go_at_call 20; refine ((right_any _ _).go _).mono ?_; rintro _ _ ⟨n, rfl, rfl⟩) | (go_at_call 26; refine (empty_any.go _).mono ?_; rintro _ _ ⟨n, rfl, rfl⟩))
    go_returns
    exact ⟨rfl, by (repeat' (first | (with_reducible exact Below.refl _ _) | (with_reducible assumption) | (with_reducible refine Later.belowOf _ ?_ ?_) | (with_reducible refine Below.alloc ?_ ?_ _) | (with_reducible refine Below.setCell ?_ ?_ _) | (with_reducible refine Below.drewN' _ ?_) | (with_reducible refine Below.drew ?_) | (with_reducible exact Ge.le) | go_size))⟩
  · have hna : nan a = false := by cases h : nan a <;> simp [h] at hn ⊢
    have hnb : nan b = false := by cases h : nan b <;> simp [h] at hn ⊢
    have a1 : ∀ w, fop .add a 0 w = cl a := fun w => by rcases fa w with h | h; (rw [hna] at h; exact absurd h.1 (by decide)); exact h.2.1
    have a2 : nd .add a 0 = 0 := by rcases fa w with h | h; (rw [hna] at h; exact absurd h.1 (by decide)); exact h.2.2
    have b1 : ∀ w, fop .add b 0 w = cl b := fun w => by rcases fb w with h | h; (rw [hnb] at h; exact absurd h.1 (by decide)); exact h.2.1
    have b2 : nd .add b 0 = 0 := by rcases fb w with h | h; (rw [hnb] at h; exact absurd h.1 (by decide)); exact h.2.2
    unfold makeI
    rcases Bool.eq_false_or_eq_true (rightB (cl a) (cl b)) with h1 | h1
    all_goals
      rw [h1]
      clear fa fb hn hna hnb ha hb
      go_enter Try.func23, Try.ntmps23
      go_wp2_with (first | (go_at_call 20; refine ((right_any _ _).go _).mono ?_; rintro _ _ ⟨n, rfl, rfl⟩) | (go_at_call 26; refine (empty_any.go _).mono ?_; rintro _ _ ⟨n, rfl, rfl⟩))
      go_returns
      exact ⟨rfl, by (repeat' (first | (with_reducible exact Below.refl _ _) | (with_reducible assumption) | (with_reducible refine Later.belowOf _ ?_ ?_) | (with_reducible refine Below.alloc ?_ ?_ _) | (with_reducible refine Below.setCell ?_ ?_ _) | (with_reducible refine Below.drewN' _ ?_) | (with_reducible refine Below.drew ?_) | (with_reducible exact Ge.le) | go_size))⟩

set_option maxHeartbeats 400000 in
theorem point_any (a : Nat) (ha : a < 18446744073709551616) : Gives 25 #[(.float .f64 a)] (.agg #[.float .f64 ((makeI a a).1), .float .f64 ((makeI a a).2)]) := by
  intro w
  go_enter Try.func25, Try.ntmps25
  go_wp2_with (go_at_call 23; refine ((make_any a a ha ha).go _).mono ?_; rintro _ _ ⟨n, rfl, rfl⟩)
  go_returns
  exact ⟨rfl, by (repeat' (first | (with_reducible exact Below.refl _ _) | (with_reducible assumption) | (with_reducible refine Later.belowOf _ ?_ ?_) | (with_reducible refine Below.alloc ?_ ?_ _) | (with_reducible refine Below.setCell ?_ ?_ _) | (with_reducible refine Below.drewN' _ ?_) | (with_reducible refine Below.drew ?_) | (with_reducible exact Ge.le) | go_size))⟩

/-! ### The reference -/

theorem isnum_fact (x : Nat) : (fle x 0 || flt 0 x) = !nan x := by
  unfold fle flt
  have z : nan 0 = false := by decide
  rw [z]
  cases nan x <;> simp
  omega

set_option maxHeartbeats 400000 in
theorem isNum_any (x : Nat) : Gives 43 #[(.float .f64 x)] (.bool (!nan x)) := by
  intro w
  rw [← isnum_fact]
  refine (byB (fle x 0) (fun hc0 => ?_) (fun hc0 => (byB (flt 0 x) (fun hc1 => ?_) (fun hc1 => ?_))))
  all_goals
    go_enter Try.func43, Try.ntmps43
    go_wp2
    go_ret
    exact ⟨ret_bool (by simp [*]), by (repeat' (first | (with_reducible exact Below.refl _ _) | (with_reducible assumption) | (with_reducible refine Later.belowOf _ ?_ ?_) | (with_reducible refine Below.alloc ?_ ?_ _) | (with_reducible refine Below.setCell ?_ ?_ _) | (with_reducible refine Below.drewN' _ ?_) | (with_reducible refine Below.drew ?_) | (with_reducible exact Ge.le) | go_size))⟩

/-- The same value; of no numbers all are one. -/
def sameB (a b : Nat) : Bool := if nan a || nan b then nan a && nan b else ((a : Int) == (b : Int))

set_option maxHeartbeats 400000 in
theorem same1_any (a b : Nat) : Gives 30 #[(.float .f64 a), (.float .f64 b)] (.bool (sameB a b)) := by
  intro w
  rcases tof (nan a) with h1 | h1 <;> rcases tof (nan b) with h2 | h2
  all_goals
    go_enter Try.func30, Try.ntmps30
    go_wp2_with (go_at_call 43; refine ((isNum_any _).go _).mono ?_; rintro _ _ ⟨n, rfl, rfl⟩)
    go_ret
    exact ⟨ret_bool (by unfold sameB; simp [h1, h2]), by (repeat' (first | (with_reducible exact Below.refl _ _) | (with_reducible assumption) | (with_reducible refine Later.belowOf _ ?_ ?_) | (with_reducible refine Below.alloc ?_ ?_ _) | (with_reducible refine Below.setCell ?_ ?_ _) | (with_reducible refine Below.drewN' _ ?_) | (with_reducible refine Below.drew ?_) | (with_reducible exact Ge.le) | go_size))⟩

set_option maxHeartbeats 400000 in
theorem inf2_pos : Gives 90 #[.int .i64 1] (.float .f64 9218868437227405312) := by
  intro w
  go_enter Try.func90, Try.ntmps90
  go_wp2_with (go_at_call 88; refine (math_Inf_pos.go _).mono ?_; rintro _ _ ⟨n, rfl, rfl⟩)
  go_ret
  exact ⟨rfl, by (repeat' (first | (with_reducible exact Below.refl _ _) | (with_reducible assumption) | (with_reducible refine Later.belowOf _ ?_ ?_) | (with_reducible refine Below.alloc ?_ ?_ _) | (with_reducible refine Below.setCell ?_ ?_ _) | (with_reducible refine Below.drewN' _ ?_) | (with_reducible refine Below.drew ?_) | (with_reducible exact Ge.le) | go_size))⟩
set_option maxHeartbeats 400000 in
theorem inf2_neg : Gives 90 #[.int .i64 (-1)] (.float .f64 18442240474082181120) := by
  intro w
  go_enter Try.func90, Try.ntmps90
  go_wp2_with (go_at_call 88; refine (math_Inf_neg.go _).mono ?_; rintro _ _ ⟨n, rfl, rfl⟩)
  go_ret
  exact ⟨rfl, by (repeat' (first | (with_reducible exact Below.refl _ _) | (with_reducible assumption) | (with_reducible refine Later.belowOf _ ?_ ?_) | (with_reducible refine Below.alloc ?_ ?_ _) | (with_reducible refine Below.setCell ?_ ?_ _) | (with_reducible refine Below.drewN' _ ?_) | (with_reducible refine Below.drew ?_) | (with_reducible exact Ge.le) | go_size))⟩

set_option maxHeartbeats 400000 in
theorem empty2_any : Gives 27 #[] (.agg #[.float .f64 9218868437227405312, .float .f64 18442240474082181120]) := by
  intro w
  go_enter Try.func27, Try.ntmps27
  go_wp2_with (first | (go_at_call 90; (with_reducible refine (inf2_pos.go _).mono ?_); rintro _ _ ⟨n, rfl, rfl⟩) | (go_at_call 90; (with_reducible refine (inf2_neg.go _).mono ?_); rintro _ _ ⟨n, rfl, rfl⟩))
  go_returns
  exact ⟨rfl, by (repeat' (first | (with_reducible exact Below.refl _ _) | (with_reducible assumption) | (with_reducible refine Later.belowOf _ ?_ ?_) | (with_reducible refine Below.alloc ?_ ?_ _) | (with_reducible refine Below.setCell ?_ ?_ _) | (with_reducible refine Below.drewN' _ ?_) | (with_reducible refine Below.drew ?_) | (with_reducible exact Ge.le) | go_size))⟩
set_option maxHeartbeats 400000 in
theorem whole2_any : Gives 29 #[] (.agg #[.float .f64 18442240474082181120, .float .f64 9218868437227405312]) := by
  intro w
  go_enter Try.func29, Try.ntmps29
  go_wp2_with (first | (go_at_call 90; (with_reducible refine (inf2_pos.go _).mono ?_); rintro _ _ ⟨n, rfl, rfl⟩) | (go_at_call 90; (with_reducible refine (inf2_neg.go _).mono ?_); rintro _ _ ⟨n, rfl, rfl⟩))
  go_returns
  exact ⟨rfl, by (repeat' (first | (with_reducible exact Below.refl _ _) | (with_reducible assumption) | (with_reducible refine Later.belowOf _ ?_ ?_) | (with_reducible refine Below.alloc ?_ ?_ _) | (with_reducible refine Below.setCell ?_ ?_ _) | (with_reducible refine Below.drewN' _ ?_) | (with_reducible refine Below.drew ?_) | (with_reducible exact Ge.le) | go_size))⟩

/-- -0, of 64 bits. -/
theorem plusB_eq {x : Nat} (hx : x < 18446744073709551616) : plusB x = !(feq x 0 && !((x : Int) == 0)) := by
  unfold plusB signB
  cases h : feq x 0
  · simp
  · have := feq_true.1 h
    have z : idx 0 = 0 := by decide
    have h2 := (idx_zero_iff x).1 (by rw [this.2.2, z])
    unfold rung SW at h2
    have e : x = 0 ∨ x = 9223372036854775808 := by omega
    rcases e with rfl | rfl <;> simp [wrap64]

set_option maxHeartbeats 400000 in
theorem minus0_any (x : Nat) (hx : x < 18446744073709551616) : Gives 91 #[(.float .f64 x)] (.bool (!plusB x)) := by
  intro w
  rw [plusB_eq hx]
  clear hx
  refine (byB (feq x 0) (fun hc0 => ?_) (fun hc0 => ?_))
  all_goals
    go_enter Try.func91, Try.ntmps91
    go_wp2
    go_ret
    exact ⟨ret_bool (by simp [hc0] <;> rfl), by (repeat' (first | (with_reducible exact Below.refl _ _) | (with_reducible assumption) | (with_reducible refine Later.belowOf _ ?_ ?_) | (with_reducible refine Below.alloc ?_ ?_ _) | (with_reducible refine Below.setCell ?_ ?_ _) | (with_reducible refine Below.drewN' _ ?_) | (with_reducible refine Below.drew ?_) | (with_reducible exact Ge.le) | go_size))⟩

theorem cl_feq {x : Nat} : cl x = if feq x 0 then 0 else x := by
  unfold cl feq
  have z : idx 0 = 0 := by decide
  have z2 : nan 0 = false := by decide
  rw [z, z2]
  cases h : nan x
  · simp
  · simp
    intro h0
    have := (idx_zero_iff x).1 h0
    have := nan_true.1 h
    unfold INFR at this; omega

set_option maxHeartbeats 400000 in
theorem zero_any (x : Nat) : Gives 92 #[(.float .f64 x)] (.float .f64 (cl x)) := by
  intro w
  refine (byB (feq x 0) (fun hc0 => ?_) (fun hc0 => ?_))
  all_goals
    go_enter Try.func92, Try.ntmps92
    go_wp2
    go_ret
    exact ⟨ret_float (by rw [cl_feq]; simp [hc0]), by (repeat' (first | (with_reducible exact Below.refl _ _) | (with_reducible assumption) | (with_reducible refine Later.belowOf _ ?_ ?_) | (with_reducible refine Below.alloc ?_ ?_ _) | (with_reducible refine Below.setCell ?_ ?_ _) | (with_reducible refine Below.drewN' _ ?_) | (with_reducible refine Below.drew ?_) | (with_reducible exact Ge.le) | go_size))⟩

theorem idx_le {x : Nat} (h : nan x = false) : -9218868437227405312 ≤ idx x ∧ idx x ≤ 9218868437227405312 := by
  have := nan_false.1 h
  unfold INFR at this
  unfold idx
  cases sgn x <;> simp <;> omega

theorem idx_pinf : idx 9218868437227405312 = 9218868437227405312 := by decide
theorem idx_ninf : idx 18442240474082181120 = -9218868437227405312 := by decide
theorem nan_pinf : nan 9218868437227405312 = false := by decide
theorem nan_ninf : nan 18442240474082181120 = false := by decide

theorem rightB_eq (a b : Nat) : rightB a b = ((feq a 9218868437227405312 && feq b 18442240474082181120) || (fle a b && (!feq a 9218868437227405312 && (!feq b 18442240474082181120 && (plusB a && plusB b))))) := by
  unfold rightB eqI
  cases h1 : fle a b
  · simp
  · have h := fle_true.1 h1
    have la := idx_le h.1
    have lb := idx_le h.2.1
    have e1 : flt a 9218868437227405312 = !feq a 9218868437227405312 := by
      unfold flt feq; rw [nan_pinf, idx_pinf, h.1]; simp; rw [Bool.eq_iff_iff]; simp; omega
    have e2 : flt 18442240474082181120 b = !feq b 18442240474082181120 := by
      unfold flt feq; rw [nan_ninf, idx_ninf, h.2.1]; simp; rw [Bool.eq_iff_iff]; simp; omega
    rw [e1, e2]

set_option maxHeartbeats 2000000 in
theorem right2_any (a b : Nat) (ha : a < 18446744073709551616) (hb : b < 18446744073709551616) : Gives 21 #[(.agg #[.float .f64 a, .float .f64 b])] (.bool (rightB a b)) := by
  intro w
  have ma := minus0_any a ha
  have mb := minus0_any b hb
  rw [rightB_eq]
  clear ha hb
  refine (byB (feq a 9218868437227405312) (fun hc0 => (byB (feq b 18442240474082181120) (fun hc1 => ?_) (fun hc1 => (byB (fle a b) (fun hc2 => ?_) (fun hc2 => ?_))))) (fun hc0 => (byB (feq b 18442240474082181120) (fun hc3 => (byB (fle a b) (fun hc4 => ?_) (fun hc4 => ?_))) (fun hc3 => (byB (fle a b) (fun hc5 => (byB (plusB a) (fun hc6 => (byB (plusB b) (fun hc7 => ?_) (fun hc7 => ?_))) (fun hc6 => ?_))) (fun hc5 => ?_))))))
  all_goals
    go_enter Try.func21, Try.ntmps21
    go_wp2_with (fail)
    refine wp_region_later (by kernel_rfl) (by kernel_rfl) ?_
    repeat (go_big_quiet_step ((go_at_call 90; first | (with_reducible exact inf2_pos.later _) | (with_reducible exact inf2_neg.later _))))
    (refine wpQuiet_nil ?_; rintro _ ⟨nq, rfl⟩)
    go_wp2_with (fail)
    first
      | (go_ret; exact ⟨ret_bool (by simp [*]), by (repeat' (first | (with_reducible exact Below.refl _ _) | (with_reducible assumption) | (with_reducible refine Later.belowOf _ ?_ ?_) | (with_reducible refine Below.alloc ?_ ?_ _) | (with_reducible refine Below.setCell ?_ ?_ _) | (with_reducible refine Below.drewN' _ ?_) | (with_reducible refine Below.drew ?_) | (with_reducible exact Ge.le) | go_size))⟩)
      | (refine wp_region_later (by kernel_rfl) (by kernel_rfl) ?_
         repeat (go_big_quiet_step (first | (go_at_call 90; first | (with_reducible exact inf2_pos.later _) | (with_reducible exact inf2_neg.later _)) | (go_at_call 91; first | (with_reducible exact ma.later _) | (with_reducible exact mb.later _))))
         (refine wpQuiet_nil ?_; rintro _ ⟨nq, rfl⟩)
         go_wp2
         go_ret
         exact ⟨ret_bool (by simp [*]), by (repeat' (first | (with_reducible exact Below.refl _ _) | (with_reducible assumption) | (with_reducible refine Later.belowOf _ ?_ ?_) | (with_reducible refine Below.alloc ?_ ?_ _) | (with_reducible refine Below.setCell ?_ ?_ _) | (with_reducible refine Below.drewN' _ ?_) | (with_reducible refine Below.drew ?_) | (with_reducible exact Ge.le) | go_size))⟩)

set_option maxHeartbeats 1000000 in
theorem make2_any (a b : Nat) (ha : a < 18446744073709551616) (hb : b < 18446744073709551616) : Gives 24 #[(.float .f64 a), (.float .f64 b)] (.agg #[.float .f64 ((makeI a b).1), .float .f64 ((makeI a b).2)]) := by
  intro w
  have hr := right2_any (cl a) (cl b) (cl_lt ha) (cl_lt hb)
  clear ha hb
  refine (byB (rightB (cl a) (cl b)) (fun hc0 => ?_) (fun hc0 => ?_))
  all_goals
    have e : makeI a b = if rightB (cl a) (cl b) then (cl a, cl b) else (9218868437227405312, 18442240474082181120) := rfl
    rw [e, hc0]
    clear e
    go_enter Try.func24, Try.ntmps24
    go_wp2_with (first | (go_at_call 92; refine ((zero_any _).go _).mono ?_; rintro _ _ ⟨n, rfl, rfl⟩) | (go_at_call 21; refine (hr.go _).mono ?_; rintro _ _ ⟨n, rfl, rfl⟩) | (go_at_call 27; refine (empty2_any.go _).mono ?_; rintro _ _ ⟨n, rfl, rfl⟩))
    go_returns
    exact ⟨rfl, by (repeat' (first | (with_reducible exact Below.refl _ _) | (with_reducible assumption) | (with_reducible refine Later.belowOf _ ?_ ?_) | (with_reducible refine Below.alloc ?_ ?_ _) | (with_reducible refine Below.setCell ?_ ?_ _) | (with_reducible refine Below.drewN' _ ?_) | (with_reducible refine Below.drew ?_) | (with_reducible exact Ge.le) | go_size))⟩

theorem sameB_refl (a : Nat) : sameB a a = true := by unfold sameB; cases nan a <;> simp

set_option maxHeartbeats 1000000 in
theorem same2_any (a b c d : Nat) : Gives 22 #[(.agg #[.float .f64 a, .float .f64 b]), (.agg #[.float .f64 c, .float .f64 d])] (.bool (sameB a c && sameB b d)) := by
  intro w
  refine (byB (sameB a c) (fun hc0 => ?_) (fun hc0 => ?_))
  all_goals
    go_enter Try.func22, Try.ntmps22
    go_wp2_with (go_at_call 30; refine ((same1_any _ _).go _).mono ?_; rintro _ _ ⟨n, rfl, rfl⟩)
    go_ret
    exact ⟨ret_bool (by simp [*]), by (repeat' (first | (with_reducible exact Below.refl _ _) | (with_reducible assumption) | (with_reducible refine Later.belowOf _ ?_ ?_) | (with_reducible refine Below.alloc ?_ ?_ _) | (with_reducible refine Below.setCell ?_ ?_ _) | (with_reducible refine Below.drewN' _ ?_) | (with_reducible refine Below.drew ?_) | (with_reducible exact Ge.le) | go_size))⟩

theorem same2_refl (a b : Nat) : Gives 22 #[(.agg #[.float .f64 a, .float .f64 b]), (.agg #[.float .f64 a, .float .f64 b])] (.bool true) := by
  have := same2_any a b a b
  rwa [sameB_refl, sameB_refl] at this
end Go.Proofs.Ytjdccbigaahkeaa
