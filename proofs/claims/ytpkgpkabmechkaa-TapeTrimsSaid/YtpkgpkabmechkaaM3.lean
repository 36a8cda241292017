/- Contracts: an operation without what it does not need, the program's and the reference's. -/
import Derived.Test.YtpkgpkabmechkaaM2
namespace Go.Proofs.Ytpkgpkabmechkaa
set_option linter.unusedSimpArgs false
set_option linter.unusedVariables false
open Go.RowKit
open Fl

theorem bareT_1 (A B N : Int) (lo hi : Nat) : bareT ⟨1, A, B, N, lo, hi⟩ = ⟨1, 0, 0, 0, lo, hi⟩ := rfl
theorem bareT_2 (A B N : Int) (lo hi : Nat) : bareT ⟨2, A, B, N, lo, hi⟩ = ⟨2, 0, 0, N, 0, 0⟩ := rfl
theorem bareT_8 (A B N : Int) (lo hi : Nat) : bareT ⟨8, A, B, N, lo, hi⟩ = ⟨8, A, 0, N, 0, 0⟩ := rfl
theorem bareT_two {K : Int} (h : 3 ≤ K ∧ K ≤ 6) (A B N : Int) (lo hi : Nat) : bareT ⟨K, A, B, N, lo, hi⟩ = ⟨K, A, B, 0, 0, 0⟩ := by
  have e : needI K = 2 := by unfold needI; rw [if_neg (by omega), if_pos h]
  unfold bareT
  simp only [e]
  rw [if_pos (by decide), if_pos (by decide), if_neg (by omega), if_neg (by omega), if_neg (by omega)]
theorem bareT_one {K : Int} (h : K = 7 ∨ 9 ≤ K ∧ K ≤ 14) (A B N : Int) (lo hi : Nat) : bareT ⟨K, A, B, N, lo, hi⟩ = ⟨K, A, 0, 0, 0, 0⟩ := by
  have e : needI K = 1 := by unfold needI; rw [if_neg (by omega), if_neg (by omega), if_pos (by omega)]
  unfold bareT
  simp only [e]
  rw [if_pos (by decide), if_neg (by decide), if_neg (by omega), if_neg (by omega), if_neg (by omega)]
theorem bareT_no {K : Int} (h : K ≤ 0 ∨ 15 ≤ K) (A B N : Int) (lo hi : Nat) : bareT ⟨K, A, B, N, lo, hi⟩ = ⟨K, 0, 0, 0, 0, 0⟩ := by
  have e : needI K = -1 := by unfold needI; rw [if_neg (by omega), if_neg (by omega), if_neg (by omega)]
  unfold bareT
  simp only [e]
  rw [if_neg (by decide), if_neg (by decide), if_neg (by omega), if_neg (by omega), if_neg (by omega)]

set_option maxHeartbeats 4000000 in
set_option maxRecDepth 100000 in
theorem bare_any (o : OpT) : Gives 11 #[opV o] (opV (bareT o)) := by
  intro w
  obtain ⟨K, A, B, N, lo, hi⟩ := o
  have hn := needs_any K
  rcases op_kinds K with h | h | h | h | h | h
  · subst h
    rw [bareT_1]
    rw [show needI 1 = 0 by decide] at hn
    unfold opV
    go_enter Try.func11, Try.ntmps11
    go_wp2_with (go_at_call 10; refine (hn.go _).mono ?_; rintro _ _ ⟨n, rfl, rfl⟩)
    go_returns
    exact ⟨rfl, by (repeat' first | (with_reducible first | exact Below.refl _ _ | assumption | refine Later.belowOf _ ?_ ?_ | refine Below.alloc ?_ ?_ _ | refine Below.setCell ?_ ?_ _ | refine Below.drewN' _ ?_ | refine Below.drew ?_ | exact Ge.le) | go_size)⟩
  · subst h
    rw [bareT_2]
    rw [show needI 2 = 0 by decide] at hn
    unfold opV
    go_enter Try.func11, Try.ntmps11
    go_wp2_with (go_at_call 10; refine (hn.go _).mono ?_; rintro _ _ ⟨n, rfl, rfl⟩)
    go_returns
    exact ⟨rfl, by (repeat' first | (with_reducible first | exact Below.refl _ _ | assumption | refine Later.belowOf _ ?_ ?_ | refine Below.alloc ?_ ?_ _ | refine Below.setCell ?_ ?_ _ | refine Below.drewN' _ ?_ | refine Below.drew ?_ | exact Ge.le) | go_size)⟩
  · subst h
    rw [bareT_8]
    rw [show needI 8 = 1 by decide] at hn
    unfold opV
    go_enter Try.func11, Try.ntmps11
    go_wp2_with (go_at_call 10; refine (hn.go _).mono ?_; rintro _ _ ⟨n, rfl, rfl⟩)
    go_returns
    exact ⟨rfl, by (repeat' first | (with_reducible first | exact Below.refl _ _ | assumption | refine Later.belowOf _ ?_ ?_ | refine Below.alloc ?_ ?_ _ | refine Below.setCell ?_ ?_ _ | refine Below.drewN' _ ?_ | refine Below.drew ?_ | exact Ge.le) | go_size)⟩
  · rw [bareT_two h]
    have e1 : (K == 1) = false := by simp; omega
    have e2 : (K == 2) = false := by simp; omega
    have e8 : (K == 8) = false := by simp; omega
    have i1 : (K != 1) = true := by simp; omega
    have i2 : (K != 2) = true := by simp; omega
    have i8 : (K != 8) = true := by simp; omega
    rw [show needI K = 2 by unfold needI; rw [if_neg (by omega), if_pos h]] at hn
    clear h
    unfold opV
    go_enter Try.func11, Try.ntmps11
    go_wp2_with (go_at_call 10; refine (hn.go _).mono ?_; rintro _ _ ⟨n, rfl, rfl⟩)
    go_returns
    exact ⟨rfl, by (repeat' first | (with_reducible first | exact Below.refl _ _ | assumption | refine Later.belowOf _ ?_ ?_ | refine Below.alloc ?_ ?_ _ | refine Below.setCell ?_ ?_ _ | refine Below.drewN' _ ?_ | refine Below.drew ?_ | exact Ge.le) | go_size)⟩
  · rw [bareT_one h]
    have e1 : (K == 1) = false := by simp; omega
    have e2 : (K == 2) = false := by simp; omega
    have e8 : (K == 8) = false := by simp; omega
    have i1 : (K != 1) = true := by simp; omega
    have i2 : (K != 2) = true := by simp; omega
    have i8 : (K != 8) = true := by simp; omega
    rw [show needI K = 1 by unfold needI; rw [if_neg (by omega), if_neg (by omega), if_pos (by omega)]] at hn
    clear h
    unfold opV
    go_enter Try.func11, Try.ntmps11
    go_wp2_with (go_at_call 10; refine (hn.go _).mono ?_; rintro _ _ ⟨n, rfl, rfl⟩)
    go_returns
    exact ⟨rfl, by (repeat' first | (with_reducible first | exact Below.refl _ _ | assumption | refine Later.belowOf _ ?_ ?_ | refine Below.alloc ?_ ?_ _ | refine Below.setCell ?_ ?_ _ | refine Below.drewN' _ ?_ | refine Below.drew ?_ | exact Ge.le) | go_size)⟩
  · rw [bareT_no h]
    have e1 : (K == 1) = false := by simp; omega
    have e2 : (K == 2) = false := by simp; omega
    have e8 : (K == 8) = false := by simp; omega
    have i1 : (K != 1) = true := by simp; omega
    have i2 : (K != 2) = true := by simp; omega
    have i8 : (K != 8) = true := by simp; omega
    rw [show needI K = -1 by unfold needI; rw [if_neg (by omega), if_neg (by omega), if_neg (by omega)]] at hn
    clear h
    unfold opV
    go_enter Try.func11, Try.ntmps11
    go_wp2_with (go_at_call 10; refine (hn.go _).mono ?_; rintro _ _ ⟨n, rfl, rfl⟩)
    go_returns
    exact ⟨rfl, by (repeat' first | (with_reducible first | exact Below.refl _ _ | assumption | refine Later.belowOf _ ?_ ?_ | refine Below.alloc ?_ ?_ _ | refine Below.setCell ?_ ?_ _ | refine Below.drewN' _ ?_ | refine Below.drew ?_ | exact Ge.le) | go_size)⟩

set_option maxHeartbeats 4000000 in
set_option maxRecDepth 100000 in
theorem rbare_any (o : OpT) : Gives 16 #[opV o] (opV (bareT o)) := by
  intro w
  obtain ⟨K, A, B, N, lo, hi⟩ := o
  have hn := args_any K
  rcases op_kinds K with h | h | h | h | h | h
  · subst h
    rw [bareT_1]
    rw [show needI 1 = 0 by decide] at hn
    unfold opV
    go_enter Try.func16, Try.ntmps16
    go_wp2_with (go_at_call 12; refine (hn.go _).mono ?_; rintro _ _ ⟨n, rfl, rfl⟩)
    go_returns
    exact ⟨rfl, by (repeat' first | (with_reducible first | exact Below.refl _ _ | assumption | refine Later.belowOf _ ?_ ?_ | refine Below.alloc ?_ ?_ _ | refine Below.setCell ?_ ?_ _ | refine Below.drewN' _ ?_ | refine Below.drew ?_ | exact Ge.le) | go_size)⟩
  · subst h
    rw [bareT_2]
    rw [show needI 2 = 0 by decide] at hn
    unfold opV
    go_enter Try.func16, Try.ntmps16
    go_wp2_with (go_at_call 12; refine (hn.go _).mono ?_; rintro _ _ ⟨n, rfl, rfl⟩)
    go_returns
    exact ⟨rfl, by (repeat' first | (with_reducible first | exact Below.refl _ _ | assumption | refine Later.belowOf _ ?_ ?_ | refine Below.alloc ?_ ?_ _ | refine Below.setCell ?_ ?_ _ | refine Below.drewN' _ ?_ | refine Below.drew ?_ | exact Ge.le) | go_size)⟩
  · subst h
    rw [bareT_8]
    rw [show needI 8 = 1 by decide] at hn
    unfold opV
    go_enter Try.func16, Try.ntmps16
    go_wp2_with (go_at_call 12; refine (hn.go _).mono ?_; rintro _ _ ⟨n, rfl, rfl⟩)
    go_returns
    exact ⟨rfl, by (repeat' first | (with_reducible first | exact Below.refl _ _ | assumption | refine Later.belowOf _ ?_ ?_ | refine Below.alloc ?_ ?_ _ | refine Below.setCell ?_ ?_ _ | refine Below.drewN' _ ?_ | refine Below.drew ?_ | exact Ge.le) | go_size)⟩
  · rw [bareT_two h]
    have e1 : (K == 1) = false := by simp; omega
    have e2 : (K == 2) = false := by simp; omega
    have e8 : (K == 8) = false := by simp; omega
    have i1 : (K != 1) = true := by simp; omega
    have i2 : (K != 2) = true := by simp; omega
    have i8 : (K != 8) = true := by simp; omega
    rw [show needI K = 2 by unfold needI; rw [if_neg (by omega), if_pos h]] at hn
    clear h
    unfold opV
    go_enter Try.func16, Try.ntmps16
    go_wp2_with (go_at_call 12; refine (hn.go _).mono ?_; rintro _ _ ⟨n, rfl, rfl⟩)
    go_returns
    exact ⟨rfl, by (repeat' first | (with_reducible first | exact Below.refl _ _ | assumption | refine Later.belowOf _ ?_ ?_ | refine Below.alloc ?_ ?_ _ | refine Below.setCell ?_ ?_ _ | refine Below.drewN' _ ?_ | refine Below.drew ?_ | exact Ge.le) | go_size)⟩
  · rw [bareT_one h]
    have e1 : (K == 1) = false := by simp; omega
    have e2 : (K == 2) = false := by simp; omega
    have e8 : (K == 8) = false := by simp; omega
    have i1 : (K != 1) = true := by simp; omega
    have i2 : (K != 2) = true := by simp; omega
    have i8 : (K != 8) = true := by simp; omega
    rw [show needI K = 1 by unfold needI; rw [if_neg (by omega), if_neg (by omega), if_pos (by omega)]] at hn
    clear h
    unfold opV
    go_enter Try.func16, Try.ntmps16
    go_wp2_with (go_at_call 12; refine (hn.go _).mono ?_; rintro _ _ ⟨n, rfl, rfl⟩)
    go_returns
    exact ⟨rfl, by (repeat' first | (with_reducible first | exact Below.refl _ _ | assumption | refine Later.belowOf _ ?_ ?_ | refine Below.alloc ?_ ?_ _ | refine Below.setCell ?_ ?_ _ | refine Below.drewN' _ ?_ | refine Below.drew ?_ | exact Ge.le) | go_size)⟩
  · rw [bareT_no h]
    have e1 : (K == 1) = false := by simp; omega
    have e2 : (K == 2) = false := by simp; omega
    have e8 : (K == 8) = false := by simp; omega
    have i1 : (K != 1) = true := by simp; omega
    have i2 : (K != 2) = true := by simp; omega
    have i8 : (K != 8) = true := by simp; omega
    rw [show needI K = -1 by unfold needI; rw [if_neg (by omega), if_neg (by omega), if_neg (by omega)]] at hn
    clear h
    unfold opV
    go_enter Try.func16, Try.ntmps16
    go_wp2_with (go_at_call 12; refine (hn.go _).mono ?_; rintro _ _ ⟨n, rfl, rfl⟩)
    go_returns
    exact ⟨rfl, by (repeat' first | (with_reducible first | exact Below.refl _ _ | assumption | refine Later.belowOf _ ?_ ?_ | refine Below.alloc ?_ ?_ _ | refine Below.setCell ?_ ?_ _ | refine Below.drewN' _ ?_ | refine Below.drew ?_ | exact Ge.le) | go_size)⟩
end Go.Proofs.Ytpkgpkabmechkaa
