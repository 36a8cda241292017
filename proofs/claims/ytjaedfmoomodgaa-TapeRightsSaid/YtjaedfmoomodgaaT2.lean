/- Contracts: how many operations one needs; whether an operation may be (tapes). -/
import Derived.Test.YtjaedfmoomodgaaT1
namespace Go.Proofs.Ytjaedfmoomodgaa
set_option linter.unusedSimpArgs false
set_option linter.unusedVariables false
open Go.RowKit
open Fl

/-- How many earlier operations a kind needs. -/
def needI (k : Int) : Int := if k = 1 ∨ k = 2 then 0 else if 3 ≤ k ∧ k ≤ 6 then 2 else if 7 ≤ k ∧ k ≤ 14 then 1 else -1

theorem need_kinds (k : Int) : k = 1 ∨ k = 2 ∨ (3 ≤ k ∧ k ≤ 6) ∨ (7 ≤ k ∧ k ≤ 14) ∨ k ≤ 0 ∨ 15 ≤ k := by omega

set_option maxHeartbeats 1000000 in
theorem needs_any (k : Int) : Gives 16 #[.int .i64 k] (.int .i64 (needI k)) := by
  intro w
  rcases need_kinds k with h | h | h | h | h | h
  · subst h
    go_enter Try.func16, Try.ntmps16
    go_wp2
    go_ret
    exact ⟨rfl, by (repeat' (first | (with_reducible exact Below.refl _ _) | (with_reducible assumption) | (with_reducible refine Later.belowOf _ ?_ ?_) | (with_reducible refine Below.alloc ?_ ?_ _) | (with_reducible refine Below.setCell ?_ ?_ _) | (with_reducible refine Below.drewN' _ ?_) | (with_reducible refine Below.drew ?_) | (with_reducible exact Ge.le) | go_size))⟩
  · subst h
    go_enter Try.func16, Try.ntmps16
    go_wp2
    go_ret
    exact ⟨rfl, by (repeat' (first | (with_reducible exact Below.refl _ _) | (with_reducible assumption) | (with_reducible refine Later.belowOf _ ?_ ?_) | (with_reducible refine Below.alloc ?_ ?_ _) | (with_reducible refine Below.setCell ?_ ?_ _) | (with_reducible refine Below.drewN' _ ?_) | (with_reducible refine Below.drew ?_) | (with_reducible exact Ge.le) | go_size))⟩
  all_goals
    have e1 : (k == 1) = false := by simp; omega
    have e2 : (k == 2) = false := by simp; omega
    have e3 : k ≠ 1 := by omega
    have e4 : k ≠ 2 := by omega
    go_enter Try.func16, Try.ntmps16
    go_wp2
    go_ret
    exact ⟨ret_int (by unfold needI; repeat' split; all_goals omega), by (repeat' (first | (with_reducible exact Below.refl _ _) | (with_reducible assumption) | (with_reducible refine Later.belowOf _ ?_ ?_) | (with_reducible refine Below.alloc ?_ ?_ _) | (with_reducible refine Below.setCell ?_ ?_ _) | (with_reducible refine Below.drewN' _ ?_) | (with_reducible refine Below.drew ?_) | (with_reducible exact Ge.le) | go_size))⟩

set_option maxHeartbeats 1000000 in
theorem args_any (k : Int) : Gives 13 #[.int .i64 k] (.int .i64 (needI k)) := by
  intro w
  rcases need_kinds k with h | h | h | h | h | h
  · subst h
    go_enter Try.func13, Try.ntmps13
    go_wp2
    go_ret
    exact ⟨rfl, by (repeat' (first | (with_reducible exact Below.refl _ _) | (with_reducible assumption) | (with_reducible refine Later.belowOf _ ?_ ?_) | (with_reducible refine Below.alloc ?_ ?_ _) | (with_reducible refine Below.setCell ?_ ?_ _) | (with_reducible refine Below.drewN' _ ?_) | (with_reducible refine Below.drew ?_) | (with_reducible exact Ge.le) | go_size))⟩
  · subst h
    go_enter Try.func13, Try.ntmps13
    go_wp2
    go_ret
    exact ⟨rfl, by (repeat' (first | (with_reducible exact Below.refl _ _) | (with_reducible assumption) | (with_reducible refine Later.belowOf _ ?_ ?_) | (with_reducible refine Below.alloc ?_ ?_ _) | (with_reducible refine Below.setCell ?_ ?_ _) | (with_reducible refine Below.drewN' _ ?_) | (with_reducible refine Below.drew ?_) | (with_reducible exact Ge.le) | go_size))⟩
  all_goals
    have e1 : (k == 1) = false := by simp; omega
    have e2 : (k == 2) = false := by simp; omega
    have e3 : k ≠ 1 := by omega
    have e4 : k ≠ 2 := by omega
    go_enter Try.func13, Try.ntmps13
    go_wp2
    go_ret
    exact ⟨ret_int (by unfold needI; repeat' split; all_goals omega), by (repeat' (first | (with_reducible exact Below.refl _ _) | (with_reducible assumption) | (with_reducible refine Later.belowOf _ ?_ ?_) | (with_reducible refine Below.alloc ?_ ?_ _) | (with_reducible refine Below.setCell ?_ ?_ _) | (with_reducible refine Below.drewN' _ ?_) | (with_reducible refine Below.drew ?_) | (with_reducible exact Ge.le) | go_size))⟩

/-- An operation that may be, at a place, of so many variables. -/
def OpR (K A B N : Int) (lo hi : Nat) (at' vars : Int) : Prop :=
  (K = 1 ∧ noneB lo hi = false) ∨ (K = 2 ∧ 0 ≤ N ∧ N < vars) ∨ (3 ≤ K ∧ K ≤ 6 ∧ 0 ≤ A ∧ A < at' ∧ 0 ≤ B ∧ B < at') ∨ (K = 8 ∧ 0 ≤ A ∧ A < at' ∧ -64 ≤ N ∧ N ≤ 64) ∨ ((K = 7 ∨ 9 ≤ K ∧ K ≤ 14) ∧ 0 ≤ A ∧ A < at')

theorem OpR_1 (A B N : Int) (lo hi : Nat) (at' vars : Int) : OpR 1 A B N lo hi at' vars ↔ noneB lo hi = false := by simp [OpR]
theorem OpR_2 (A B N : Int) (lo hi : Nat) (at' vars : Int) : OpR 2 A B N lo hi at' vars ↔ (0 ≤ N ∧ N < vars) := by simp [OpR]
theorem OpR_8 (A B N : Int) (lo hi : Nat) (at' vars : Int) : OpR 8 A B N lo hi at' vars ↔ (0 ≤ A ∧ A < at' ∧ -64 ≤ N ∧ N ≤ 64) := by simp [OpR]
theorem OpR_two {K : Int} (h : 3 ≤ K ∧ K ≤ 6) (A B N : Int) (lo hi : Nat) (at' vars : Int) : OpR K A B N lo hi at' vars ↔ (0 ≤ A ∧ A < at' ∧ 0 ≤ B ∧ B < at') := by
  unfold OpR
  constructor
  · rintro (⟨hk, _⟩ | ⟨hk, _⟩ | hk | ⟨hk, _⟩ | ⟨hk, _⟩) <;> omega
  · intro hk; exact Or.inr (Or.inr (Or.inl ⟨h.1, h.2, hk⟩))
theorem OpR_one {K : Int} (h : K = 7 ∨ 9 ≤ K ∧ K ≤ 14) (A B N : Int) (lo hi : Nat) (at' vars : Int) : OpR K A B N lo hi at' vars ↔ (0 ≤ A ∧ A < at') := by
  unfold OpR
  constructor
  · rintro (⟨hk, _⟩ | ⟨hk, _⟩ | hk | ⟨hk, _⟩ | ⟨_, hk⟩) <;> omega
  · intro hk; exact Or.inr (Or.inr (Or.inr (Or.inr ⟨h, hk⟩)))
theorem OpR_no {K : Int} (h : K ≤ 0 ∨ 15 ≤ K) (A B N : Int) (lo hi : Nat) (at' vars : Int) : OpR K A B N lo hi at' vars ↔ False := by
  unfold OpR
  constructor
  · rintro (⟨hk, _⟩ | ⟨hk, _⟩ | hk | ⟨hk, _⟩ | ⟨hk, _⟩) <;> omega
  · exact False.elim

theorem op_kinds (k : Int) : k = 1 ∨ k = 2 ∨ k = 8 ∨ (3 ≤ k ∧ k ≤ 6) ∨ (k = 7 ∨ 9 ≤ k ∧ k ≤ 14) ∨ (k ≤ 0 ∨ 15 ≤ k) := by omega

open Classical in
set_option maxHeartbeats 4000000 in
theorem opright_any (K A B N : Int) (lo hi : Nat) (at' vars : Int) : Gives 10 #[(.agg #[.int .i64 K, .int .i64 A, .int .i64 B, .int .i64 N, .float .f64 lo, .float .f64 hi]), .int .i64 at', .int .i64 vars] (.bool (decide (OpR K A B N lo hi at' vars))) := by
  intro w
  have hn := needs_any K
  rcases op_kinds K with h | h | h | h | h | h
  · subst h
    rw [show needI 1 = 0 by decide] at hn
    rcases fot (rightB lo hi) with h1 | h1 <;> rcases fot (eqI lo hi 9218868437227405312 18442240474082181120) with h2 | h2
    all_goals
      have e : decide (OpR 1 A B N lo hi at' vars) = (rightB lo hi && !eqI lo hi 9218868437227405312 18442240474082181120) := by
        unfold OpR noneB
        rw [h1, h2]
        simp
      rw [e]
      clear e
      have hr := right_any lo hi
      rw [h1] at hr
      go_enter Try.func10, Try.ntmps10
      go_wp2_with (go_at_call 16; refine (hn.go _).mono ?_; rintro _ _ ⟨n, rfl, rfl⟩)
      refine wp_region_later (by kernel_rfl) (by kernel_rfl) ?_
      repeat (go_big_quiet_step (first | (go_at_call 22; exact hr.later _) | (go_at_call 23; exact empty_any.later _)))
      (refine wpQuiet_nil ?_; rintro _ ⟨nq, rfl⟩)
      go_wp2
      go_ret
      exact ⟨ret_bool (by simp [h1, h2]), by (repeat' (first | (with_reducible exact Below.refl _ _) | (with_reducible assumption) | (with_reducible refine Later.belowOf _ ?_ ?_) | (with_reducible refine Below.alloc ?_ ?_ _) | (with_reducible refine Below.setCell ?_ ?_ _) | (with_reducible refine Below.drewN' _ ?_) | (with_reducible refine Below.drew ?_) | (with_reducible exact Ge.le) | go_size))⟩
  · subst h
    clear hn
    have hn := needs_any 2
    rw [show needI 2 = 0 by decide] at hn
    have c : N < 0 ∨ (0 ≤ N ∧ vars ≤ N) ∨ (0 ≤ N ∧ N < vars) := by omega
    rcases c with c | ⟨c, c2⟩ | ⟨c, c2⟩
    all_goals
      go_enter Try.func10, Try.ntmps10
      go_wp2_with (go_at_call 16; refine (hn.go _).mono ?_; rintro _ _ ⟨n, rfl, rfl⟩)
      go_ret
      exact ⟨ret_bool (by rw [Bool.eq_iff_iff, decide_eq_true_eq, OpR_2]; first | omega | (simp; done) | (simp; omega)), by (repeat' (first | (with_reducible exact Below.refl _ _) | (with_reducible assumption) | (with_reducible refine Later.belowOf _ ?_ ?_) | (with_reducible refine Below.alloc ?_ ?_ _) | (with_reducible refine Below.setCell ?_ ?_ _) | (with_reducible refine Below.drewN' _ ?_) | (with_reducible refine Below.drew ?_) | (with_reducible exact Ge.le) | go_size))⟩
  · subst h
    clear hn
    have hn := needs_any 8
    rw [show needI 8 = 1 by decide] at hn
    have c : A < 0 ∨ (0 ≤ A ∧ at' ≤ A) ∨ (0 ≤ A ∧ A < at' ∧ N < -64) ∨ (0 ≤ A ∧ A < at' ∧ -64 ≤ N ∧ 64 < N) ∨ (0 ≤ A ∧ A < at' ∧ -64 ≤ N ∧ N ≤ 64) := by omega
    rcases c with c | ⟨c, c2⟩ | ⟨c, c2, c3⟩ | ⟨c, c2, c3, c4⟩ | ⟨c, c2, c3, c4⟩
    all_goals
      go_enter Try.func10, Try.ntmps10
      go_wp2_with (go_at_call 16; refine (hn.go _).mono ?_; rintro _ _ ⟨n, rfl, rfl⟩)
      go_ret
      exact ⟨ret_bool (by rw [Bool.eq_iff_iff, decide_eq_true_eq, OpR_8]; first | omega | (simp; done) | (simp; omega)), by (repeat' (first | (with_reducible exact Below.refl _ _) | (with_reducible assumption) | (with_reducible refine Later.belowOf _ ?_ ?_) | (with_reducible refine Below.alloc ?_ ?_ _) | (with_reducible refine Below.setCell ?_ ?_ _) | (with_reducible refine Below.drewN' _ ?_) | (with_reducible refine Below.drew ?_) | (with_reducible exact Ge.le) | go_size))⟩
  · have e1 : (K == 1) = false := by simp; omega
    have e2 : (K == 2) = false := by simp; omega
    have e3 : (K == 8) = false := by simp; omega
    rw [show needI K = 2 by unfold needI; rw [if_neg (by omega), if_pos h]] at hn
    have c : A < 0 ∨ (0 ≤ A ∧ at' ≤ A) ∨ (0 ≤ A ∧ A < at' ∧ B < 0) ∨ (0 ≤ A ∧ A < at' ∧ 0 ≤ B ∧ at' ≤ B) ∨ (0 ≤ A ∧ A < at' ∧ 0 ≤ B ∧ B < at') := by omega
    rcases c with c | ⟨c, c2⟩ | ⟨c, c2, c3⟩ | ⟨c, c2, c3, c4⟩ | ⟨c, c2, c3, c4⟩
    all_goals
      have H := Lib.hid h
      clear h
      go_enter Try.func10, Try.ntmps10
      go_wp2_with (go_at_call 16; refine (hn.go _).mono ?_; rintro _ _ ⟨n, rfl, rfl⟩)
      go_ret
      exact ⟨ret_bool (by rw [Bool.eq_iff_iff, decide_eq_true_eq, OpR_two H.out]; first | omega | (simp; done) | (simp; omega)), by (repeat' (first | (with_reducible exact Below.refl _ _) | (with_reducible assumption) | (with_reducible refine Later.belowOf _ ?_ ?_) | (with_reducible refine Below.alloc ?_ ?_ _) | (with_reducible refine Below.setCell ?_ ?_ _) | (with_reducible refine Below.drewN' _ ?_) | (with_reducible refine Below.drew ?_) | (with_reducible exact Ge.le) | go_size))⟩
  · have e1 : (K == 1) = false := by simp; omega
    have e2 : (K == 2) = false := by simp; omega
    have e3 : (K == 8) = false := by simp; omega
    rw [show needI K = 1 by unfold needI; rw [if_neg (by omega), if_neg (by omega), if_pos (by omega)]] at hn
    have c : A < 0 ∨ (0 ≤ A ∧ at' ≤ A) ∨ (0 ≤ A ∧ A < at') := by omega
    rcases c with c | ⟨c, c2⟩ | ⟨c, c2⟩
    all_goals
      have H := Lib.hid h
      clear h
      go_enter Try.func10, Try.ntmps10
      go_wp2_with (go_at_call 16; refine (hn.go _).mono ?_; rintro _ _ ⟨n, rfl, rfl⟩)
      go_ret
      exact ⟨ret_bool (by rw [Bool.eq_iff_iff, decide_eq_true_eq, OpR_one H.out]; first | omega | (simp; done) | (simp; omega)), by (repeat' (first | (with_reducible exact Below.refl _ _) | (with_reducible assumption) | (with_reducible refine Later.belowOf _ ?_ ?_) | (with_reducible refine Below.alloc ?_ ?_ _) | (with_reducible refine Below.setCell ?_ ?_ _) | (with_reducible refine Below.drewN' _ ?_) | (with_reducible refine Below.drew ?_) | (with_reducible exact Ge.le) | go_size))⟩
  · have e1 : (K == 1) = false := by simp; omega
    have e2 : (K == 2) = false := by simp; omega
    have e3 : (K == 8) = false := by simp; omega
    rw [show needI K = -1 by unfold needI; rw [if_neg (by omega), if_neg (by omega), if_neg (by omega)]] at hn
    have H := Lib.hid h
    clear h
    go_enter Try.func10, Try.ntmps10
    go_wp2_with (go_at_call 16; refine (hn.go _).mono ?_; rintro _ _ ⟨n, rfl, rfl⟩)
    go_ret
    exact ⟨ret_bool (by rw [Bool.eq_iff_iff, decide_eq_true_eq, OpR_no H.out]; first | omega | (simp; done) | (simp; omega)), by (repeat' (first | (with_reducible exact Below.refl _ _) | (with_reducible assumption) | (with_reducible refine Later.belowOf _ ?_ ?_) | (with_reducible refine Below.alloc ?_ ?_ _) | (with_reducible refine Below.setCell ?_ ?_ _) | (with_reducible refine Below.drewN' _ ?_) | (with_reducible refine Below.drew ?_) | (with_reducible exact Ge.le) | go_size))⟩
end Go.Proofs.Ytjaedfmoomodgaa
