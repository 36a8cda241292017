/- Contracts: how many operations one needs; whether an operation may be (tapes). -/
import Derived.Test.YtpkgpkabmechkaaGreatPqT1
import Derived.Deep.LoopGhost
import Derived.LoopTactic
namespace Go.Proofs.YtpkgpkabmechkaaGreat
set_option linter.unusedSimpArgs false
set_option linter.unusedVariables false
open Go.RowKit
open Fl

/-- How many earlier operations a kind needs. -/
def needI (k : Int) : Int := if k = 1 ∨ k = 2 then 0 else if 3 ≤ k ∧ k ≤ 6 then 2 else if 7 ≤ k ∧ k ≤ 14 then 1 else -1

theorem need_kinds (k : Int) : k = 1 ∨ k = 2 ∨ (3 ≤ k ∧ k ≤ 6) ∨ (7 ≤ k ∧ k ≤ 14) ∨ k ≤ 0 ∨ 15 ≤ k := by omega

set_option maxHeartbeats 1000000 in
theorem needs_any (k : Int) : Gives 113 #[.int .i64 k] (.int .i64 (needI k)) := by
  intro w
  rcases need_kinds k with h | h | h | h | h | h
  · subst h
    go_enter Tryz.func113, Tryz.ntmps113
    go_wp2
    go_ret
    exact ⟨rfl, by (repeat' first | (with_reducible first | exact Below.refl _ _ | assumption | refine Later.belowOf _ ?_ ?_ | refine Below.alloc ?_ ?_ _ | refine Below.setCell ?_ ?_ _ | refine Below.drewN' _ ?_ | refine Below.drew ?_ | exact Ge.le) | go_size)⟩
  · subst h
    go_enter Tryz.func113, Tryz.ntmps113
    go_wp2
    go_ret
    exact ⟨rfl, by (repeat' first | (with_reducible first | exact Below.refl _ _ | assumption | refine Later.belowOf _ ?_ ?_ | refine Below.alloc ?_ ?_ _ | refine Below.setCell ?_ ?_ _ | refine Below.drewN' _ ?_ | refine Below.drew ?_ | exact Ge.le) | go_size)⟩
  all_goals
    have e1 : (k == 1) = false := by simp; omega
    have e2 : (k == 2) = false := by simp; omega
    have e3 : k ≠ 1 := by omega
    have e4 : k ≠ 2 := by omega
    go_enter Tryz.func113, Tryz.ntmps113
    go_wp2
    go_ret
    exact ⟨ret_int (by unfold needI; repeat' split; all_goals omega), by (repeat' first | (with_reducible first | exact Below.refl _ _ | assumption | refine Later.belowOf _ ?_ ?_ | refine Below.alloc ?_ ?_ _ | refine Below.setCell ?_ ?_ _ | refine Below.drewN' _ ?_ | refine Below.drew ?_ | exact Ge.le) | go_size)⟩

/-- An operation that may be, at a place, of so many variables. -/
def OpR (K A B N : Int) (lo hi : Nat) (at' vars : Int) : Prop :=
  (K = 1 ∧ noneB lo hi = false) ∨ (K = 2 ∧ 0 ≤ N ∧ N < vars) ∨ (3 ≤ K ∧ K ≤ 6 ∧ 0 ≤ A ∧ A < at' ∧ 0 ≤ B ∧ B < at') ∨ (K = 8 ∧ 0 ≤ A ∧ A < at' ∧ -64 ≤ N ∧ N ≤ 64) ∨ ((K = 7 ∨ 9 ≤ K ∧ K ≤ 14) ∧ 0 ≤ A ∧ A < at')

theorem OpR_1 (A B N : Int) (lo hi : Nat) (at' vars : Int) : OpR 1 A B N lo hi at' vars ↔ noneB lo hi = false := by simp [OpR]
theorem OpR_2 (A B N : Int) (lo hi : Nat) (at' vars : Int) : OpR 2 A B N lo hi at' vars ↔ (0 ≤ N ∧ N < vars) := by simp [OpR]
theorem OpR_8 (A B N : Int) (lo hi : Nat) (at' vars : Int) : OpR 8 A B N lo hi at' vars ↔ (0 ≤ A ∧ A < at' ∧ -64 ≤ N ∧ N ≤ 64) := by simp [OpR]
theorem OpR_two {K : Int} (h : 3 ≤ K ∧ K ≤ 6) (A B N : Int) (lo hi : Nat) (at' vars : Int) : OpR K A B N lo hi at' vars ↔ (0 ≤ A ∧ A < at' ∧ 0 ≤ B ∧ B < at') := by
  unfold OpR
  constructor
  · rintro (⟨hk, _⟩ | ⟨hk, _⟩ | hk | ⟨hk, _⟩ | ⟨hk, _⟩) <;> omega
  · intro hk; exact Or.inr (Or.inr (Or.inl ⟨h.1, h.2, hk⟩))
theorem OpR_one {K : Int} (h : K = 7 ∨ 9 ≤ K ∧ K ≤ 14) (A B N : Int) (lo hi : Nat) (at' vars : Int) : OpR K A B N lo hi at' vars ↔ (0 ≤ A ∧ A < at') := by
  unfold OpR
  constructor
  · rintro (⟨hk, _⟩ | ⟨hk, _⟩ | hk | ⟨hk, _⟩ | ⟨_, hk⟩) <;> omega
  · intro hk; exact Or.inr (Or.inr (Or.inr (Or.inr ⟨h, hk⟩)))
theorem OpR_no {K : Int} (h : K ≤ 0 ∨ 15 ≤ K) (A B N : Int) (lo hi : Nat) (at' vars : Int) : OpR K A B N lo hi at' vars ↔ False := by
  unfold OpR
  constructor
  · rintro (⟨hk, _⟩ | ⟨hk, _⟩ | hk | ⟨hk, _⟩ | ⟨hk, _⟩) <;> omega
  · exact False.elim

theorem op_kinds (k : Int) : k = 1 ∨ k = 2 ∨ k = 8 ∨ (3 ≤ k ∧ k ≤ 6) ∨ (k = 7 ∨ 9 ≤ k ∧ k ≤ 14) ∨ (k ≤ 0 ∨ 15 ≤ k) := by omega

open Classical in
set_option maxHeartbeats 4000000 in
theorem opright_any (K A B N : Int) (lo hi : Nat) (at' vars : Int) : Gives 109 #[(.agg #[.int .i64 K, .int .i64 A, .int .i64 B, .int .i64 N, .float .f64 lo, .float .f64 hi]), .int .i64 at', .int .i64 vars] (.bool (decide (OpR K A B N lo hi at' vars))) := by
  intro w
  have hn := needs_any K
  rcases op_kinds K with h | h | h | h | h | h
  · subst h
    rw [show needI 1 = 0 by decide] at hn
    rcases fot (rightB lo hi) with h1 | h1 <;> rcases fot (eqI lo hi 9218868437227405312 18442240474082181120) with h2 | h2
    all_goals
      have e : decide (OpR 1 A B N lo hi at' vars) = (rightB lo hi && !eqI lo hi 9218868437227405312 18442240474082181120) := by
        unfold OpR noneB
        rw [h1, h2]
        simp
      rw [e]
      clear e
      have hr := right_any lo hi
      rw [h1] at hr
      go_enter Tryz.func109, Tryz.ntmps109
      go_wp2_with (go_at_call 113; refine (hn.go _).mono ?_; rintro _ _ ⟨n, rfl, rfl⟩)
      refine wp_region_later (by kernel_rfl) (by kernel_rfl) ?_
      repeat (go_big_quiet_step (first | (go_at_call 134; exact hr.later _) | (go_at_call 135; exact empty_any.later _)))
      (refine wpQuiet_nil ?_; rintro _ ⟨nq, rfl⟩)
      go_wp2
      go_ret
      exact ⟨ret_bool (by simp [h1, h2]), by (repeat' first | (with_reducible first | exact Below.refl _ _ | assumption | refine Later.belowOf _ ?_ ?_ | refine Below.alloc ?_ ?_ _ | refine Below.setCell ?_ ?_ _ | refine Below.drewN' _ ?_ | refine Below.drew ?_ | exact Ge.le) | go_size)⟩
  · subst h
    clear hn
    have hn := needs_any 2
    rw [show needI 2 = 0 by decide] at hn
    have c : N < 0 ∨ (0 ≤ N ∧ vars ≤ N) ∨ (0 ≤ N ∧ N < vars) := by omega
    rcases c with c | ⟨c, c2⟩ | ⟨c, c2⟩
    all_goals
      go_enter Tryz.func109, Tryz.ntmps109
      go_wp2_with (go_at_call 113; refine (hn.go _).mono ?_; rintro _ _ ⟨n, rfl, rfl⟩)
      go_ret
      exact ⟨ret_bool (by rw [Bool.eq_iff_iff, decide_eq_true_eq, OpR_2]; first | omega | (simp; done) | (simp; omega)), by (repeat' first | (with_reducible first | exact Below.refl _ _ | assumption | refine Later.belowOf _ ?_ ?_ | refine Below.alloc ?_ ?_ _ | refine Below.setCell ?_ ?_ _ | refine Below.drewN' _ ?_ | refine Below.drew ?_ | exact Ge.le) | go_size)⟩
  · subst h
    clear hn
    have hn := needs_any 8
    rw [show needI 8 = 1 by decide] at hn
    have c : A < 0 ∨ (0 ≤ A ∧ at' ≤ A) ∨ (0 ≤ A ∧ A < at' ∧ N < -64) ∨ (0 ≤ A ∧ A < at' ∧ -64 ≤ N ∧ 64 < N) ∨ (0 ≤ A ∧ A < at' ∧ -64 ≤ N ∧ N ≤ 64) := by omega
    rcases c with c | ⟨c, c2⟩ | ⟨c, c2, c3⟩ | ⟨c, c2, c3, c4⟩ | ⟨c, c2, c3, c4⟩
    all_goals
      go_enter Tryz.func109, Tryz.ntmps109
      go_wp2_with (go_at_call 113; refine (hn.go _).mono ?_; rintro _ _ ⟨n, rfl, rfl⟩)
      go_ret
      exact ⟨ret_bool (by rw [Bool.eq_iff_iff, decide_eq_true_eq, OpR_8]; first | omega | (simp; done) | (simp; omega)), by (repeat' first | (with_reducible first | exact Below.refl _ _ | assumption | refine Later.belowOf _ ?_ ?_ | refine Below.alloc ?_ ?_ _ | refine Below.setCell ?_ ?_ _ | refine Below.drewN' _ ?_ | refine Below.drew ?_ | exact Ge.le) | go_size)⟩
  · have e1 : (K == 1) = false := by simp; omega
    have e2 : (K == 2) = false := by simp; omega
    have e3 : (K == 8) = false := by simp; omega
    rw [show needI K = 2 by unfold needI; rw [if_neg (by omega), if_pos h]] at hn
    have c : A < 0 ∨ (0 ≤ A ∧ at' ≤ A) ∨ (0 ≤ A ∧ A < at' ∧ B < 0) ∨ (0 ≤ A ∧ A < at' ∧ 0 ≤ B ∧ at' ≤ B) ∨ (0 ≤ A ∧ A < at' ∧ 0 ≤ B ∧ B < at') := by omega
    rcases c with c | ⟨c, c2⟩ | ⟨c, c2, c3⟩ | ⟨c, c2, c3, c4⟩ | ⟨c, c2, c3, c4⟩
    all_goals
      have H := Lib.hid h
      clear h
      go_enter Tryz.func109, Tryz.ntmps109
      go_wp2_with (go_at_call 113; refine (hn.go _).mono ?_; rintro _ _ ⟨n, rfl, rfl⟩)
      go_ret
      exact ⟨ret_bool (by rw [Bool.eq_iff_iff, decide_eq_true_eq, OpR_two H.out]; first | omega | (simp; done) | (simp; omega)), by (repeat' first | (with_reducible first | exact Below.refl _ _ | assumption | refine Later.belowOf _ ?_ ?_ | refine Below.alloc ?_ ?_ _ | refine Below.setCell ?_ ?_ _ | refine Below.drewN' _ ?_ | refine Below.drew ?_ | exact Ge.le) | go_size)⟩
  · have e1 : (K == 1) = false := by simp; omega
    have e2 : (K == 2) = false := by simp; omega
    have e3 : (K == 8) = false := by simp; omega
    rw [show needI K = 1 by unfold needI; rw [if_neg (by omega), if_neg (by omega), if_pos (by omega)]] at hn
    have c : A < 0 ∨ (0 ≤ A ∧ at' ≤ A) ∨ (0 ≤ A ∧ A < at') := by omega
    rcases c with c | ⟨c, c2⟩ | ⟨c, c2⟩
    all_goals
      have H := Lib.hid h
      clear h
      go_enter Tryz.func109, Tryz.ntmps109
      go_wp2_with (go_at_call 113; refine (hn.go _).mono ?_; rintro _ _ ⟨n, rfl, rfl⟩)
      go_ret
      exact ⟨ret_bool (by rw [Bool.eq_iff_iff, decide_eq_true_eq, OpR_one H.out]; first | omega | (simp; done) | (simp; omega)), by (repeat' first | (with_reducible first | exact Below.refl _ _ | assumption | refine Later.belowOf _ ?_ ?_ | refine Below.alloc ?_ ?_ _ | refine Below.setCell ?_ ?_ _ | refine Below.drewN' _ ?_ | refine Below.drew ?_ | exact Ge.le) | go_size)⟩
  · have e1 : (K == 1) = false := by simp; omega
    have e2 : (K == 2) = false := by simp; omega
    have e3 : (K == 8) = false := by simp; omega
    rw [show needI K = -1 by unfold needI; rw [if_neg (by omega), if_neg (by omega), if_neg (by omega)]] at hn
    have H := Lib.hid h
    clear h
    go_enter Tryz.func109, Tryz.ntmps109
    go_wp2_with (go_at_call 113; refine (hn.go _).mono ?_; rintro _ _ ⟨n, rfl, rfl⟩)
    go_ret
    exact ⟨ret_bool (by rw [Bool.eq_iff_iff, decide_eq_true_eq, OpR_no H.out]; first | omega | (simp; done) | (simp; omega)), by (repeat' first | (with_reducible first | exact Below.refl _ _ | assumption | refine Later.belowOf _ ?_ ?_ | refine Below.alloc ?_ ?_ _ | refine Below.setCell ?_ ?_ _ | refine Below.drewN' _ ?_ | refine Below.drew ?_ | exact Ge.le) | go_size)⟩
end Go.Proofs.YtpkgpkabmechkaaGreat

/- Contracts: a tape's outs; whether it may be. -/
namespace Go.Proofs.YtpkgpkabmechkaaGreat
set_option linter.unusedSimpArgs false
set_option linter.unusedVariables false
open Go.RowKit
open Fl

/-- A slice of numbers, and one of operations, as they lie. -/
def OutsAt (w : World) (v : Value) (outs : Nat → Int) (n : Nat) : Prop :=
  ∃ A c, v = .slice A n c ∧ ∀ i, i < n → ∃ b o, A = some ⟨b, o, none⟩ ∧ w.cell? ⟨b, o + i, none⟩ = some (.int .i64 (outs i))
structure OpT where
  K : Int
  A : Int
  B : Int
  N : Int
  lo : Nat
  hi : Nat
def OpsAt (w : World) (v : Value) (ops : Nat → OpT) (n : Nat) : Prop :=
  ∃ A c, v = .slice A n c ∧ ∀ i, i < n → ∃ b o, A = some ⟨b, o, none⟩ ∧ (ops i).lo < 18446744073709551616 ∧ (ops i).hi < 18446744073709551616
    ∧ w.cell? ⟨b, o + i * 6, none⟩ = some (.int .i64 (ops i).K) ∧ w.cell? ⟨b, o + i * 6 + 1, none⟩ = some (.int .i64 (ops i).A) ∧ w.cell? ⟨b, o + i * 6 + 2, none⟩ = some (.int .i64 (ops i).B)
    ∧ w.cell? ⟨b, o + i * 6 + 3, none⟩ = some (.int .i64 (ops i).N) ∧ w.cell? ⟨b, o + i * 6 + 4, none⟩ = some (.float .f64 ((ops i).lo)) ∧ w.cell? ⟨b, o + i * 6 + 5, none⟩ = some (.float .f64 ((ops i).hi))

theorem cellBelow {w w' : World} {b o : Nat} {v : Value} (hb : Below w.heap.size w w') (h : w.cell? ⟨b, o, none⟩ = some v) : w'.cell? ⟨b, o, none⟩ = some v :=
  (hb.cell (World.block_lt_of_cell? w _ h)).trans h
theorem OutsAt.below {w w' : World} {v : Value} {outs : Nat → Int} {n : Nat} (h : OutsAt w v outs n) (hb : Below w.heap.size w w') : OutsAt w' v outs n := by
  obtain ⟨A, c, e, h⟩ := h
  refine ⟨A, c, e, fun i hi => ?_⟩
  obtain ⟨b, o, e2, h2⟩ := h i hi
  exact ⟨b, o, e2, cellBelow hb h2⟩
theorem OpsAt.below {w w' : World} {v : Value} {ops : Nat → OpT} {n : Nat} (h : OpsAt w v ops n) (hb : Below w.heap.size w w') : OpsAt w' v ops n := by
  obtain ⟨A, c, e, h⟩ := h
  refine ⟨A, c, e, fun i hi => ?_⟩
  obtain ⟨b, o, e2, l1, l2, h0, h1, h2, h3, h4, h5⟩ := h i hi
  exact ⟨b, o, e2, l1, l2, cellBelow hb h0, cellBelow hb h1, cellBelow hb h2, cellBelow hb h3, cellBelow hb h4, cellBelow hb h5⟩

/-- The number of no operation. -/
def badO (nO : Nat) (n : Int) : Bool := decide (n < 0) || decide ((nO : Int) ≤ n)

set_option maxHeartbeats 1000000 in
theorem closure_any (n : Int) (B : Nat) (A : Option Addr) (nO c : Nat) (w : World) (h : w.cell? ⟨B, 1, none⟩ = some (.slice A nO c)) :
    Calls Tryz.prog 111 #[.int .i64 n, .pointer (some ⟨B, 0, none⟩)] w fun e w' => e = .returned (.bool (badO nO n)) ∧ Below w.heap.size w w' := by
  unfold badO
  by_cases h1 : n < 0
  · go_enter Tryz.func111, Tryz.ntmps111
    go_wp2
    go_ret
    exact ⟨ret_bool (by simp [h1]), by (repeat' first | (with_reducible first | exact Below.refl _ _ | assumption | refine Later.belowOf _ ?_ ?_ | refine Below.alloc ?_ ?_ _ | refine Below.setCell ?_ ?_ _ | refine Below.drewN' _ ?_ | refine Below.drew ?_ | exact Ge.le) | go_size)⟩
  · go_enter Tryz.func111, Tryz.ntmps111
    go_wp2
    go_ret
    exact ⟨ret_bool (by rw [show decide (n < 0) = false by simp; omega]; simp), by (repeat' first | (with_reducible first | exact Below.refl _ _ | assumption | refine Later.belowOf _ ?_ ?_ | refine Below.alloc ?_ ?_ _ | refine Below.setCell ?_ ?_ _ | refine Below.drewN' _ ?_ | refine Below.drew ?_ | exact Ge.le) | go_size)⟩

def IdxInv (W : World) (outs : Nat → Int) (n nO : Nat) (i : Value) (w : World) : Prop :=
  ∃ k : Nat, i = .int .i64 k ∧ k ≤ n ∧ (∀ j, j < k → badO nO (outs j) = false) ∧ Below W.heap.size W w

set_option maxHeartbeats 2000000 in
theorem indexf_any (v : Value) (outs : Nat → Int) (n B : Nat) (A : Option Addr) (nO c : Nat) (w : World) (hl : n ≤ 1000000) (hv : OutsAt w v outs n) (h : w.cell? ⟨B, 1, none⟩ = some (.slice A nO c)) :
    Calls Tryz.prog 178 #[v, .func (.func 111) #[] #[.pointer (some ⟨B, 0, none⟩)]] w fun e w' => (∃ r, e = .returned (.int .i64 r) ∧ (0 ≤ r ↔ ∃ j, j < n ∧ badO nO (outs j) = true)) ∧ Below w.heap.size w w' := by
  obtain ⟨A2, c2, rfl, hv⟩ := hv
  have HV := Lib.hid hv
  clear hv
  go_enter Tryz.func178, Tryz.ntmps178
  go_wp2
  go_loopw [8] (fun i wr => IdxInv w outs n nO i wr) (fun i _ => n - (intOf i).toNat)
  case atStart => exact ⟨0, rfl, Nat.zero_le _, fun j hj => by omega, Below.refl _ _⟩
  case round =>
    obtain ⟨k, rfl, hk, hE, hbel⟩ := hrel
    have HE := Lib.hid hE
    clear hE
    have hk2 : (k : Int) ≤ 1000000 := by omega
    by_cases h1 : k < n
    · obtain ⟨b1, o1, eA, c1⟩ := HV.out k h1
      subst eA
      replace c1 := cellBelow hbel c1
      have hc := cellBelow hbel h
      have ca := closure_any (outs k) B A nO c wr hc
      generalize hx : outs k = x at *
      have HX := Lib.hid hx
      clear hx
      rcases fot (badO nO x) with h2 | h2
      · rw [h2] at ca
        go_wp2_with (go_at_call 111; refine ca.mono ?_; rintro _ w1 ⟨rfl, hb1⟩)
        go_roundw
        case rel => exact ⟨k + 1, by go_num, h1, fun j hj => by rcases Nat.lt_succ_iff_lt_or_eq.1 hj with h | h; exact HE.out j h; rw [h, HX.out]; exact h2, hbel.trans (hb1.mono hbel.size)⟩
        case measure => simp [intOf]; omega
      · rw [h2] at ca
        go_wp2_with (go_at_call 111; refine ca.mono ?_; rintro _ w1 ⟨rfl, hb1⟩)
        go_ret
        exact ⟨⟨_, rfl, by constructor; (intro _; exact ⟨k, h1, by rw [HX.out]; exact h2⟩); (intro _; omega)⟩, hbel.trans (hb1.mono hbel.size)⟩
    · go_wp2
      go_ret
      exact ⟨⟨_, rfl, by constructor; (intro hh; omega); (rintro ⟨j, hj, hb⟩; have := HE.out j (by omega); rw [hb] at this; cases this)⟩, hbel⟩

open Classical in
set_option maxHeartbeats 1000000 in
theorem contains_any (v : Value) (outs : Nat → Int) (n B : Nat) (A : Option Addr) (nO c : Nat) (w : World) (hl : n ≤ 1000000) (hv : OutsAt w v outs n) (h : w.cell? ⟨B, 1, none⟩ = some (.slice A nO c)) :
    Calls Tryz.prog 110 #[v, .func (.func 111) #[] #[.pointer (some ⟨B, 0, none⟩)]] w fun e w' => e = .returned (.bool (decide (∃ j, j < n ∧ badO nO (outs j) = true))) ∧ Below w.heap.size w w' := by
  have ix := indexf_any v outs n B A nO c w hl hv h
  clear hv h
  go_enter Tryz.func110, Tryz.ntmps110
  go_wp2_with (go_at_call 178; refine ix.mono ?_; rintro _ w1 ⟨⟨r, rfl, hr⟩, hb1⟩)
  go_ret
  exact ⟨ret_bool (by simp [← hr]), by (repeat' first | (with_reducible first | exact Below.refl _ _ | assumption | refine Later.belowOf _ ?_ ?_ | refine Below.alloc ?_ ?_ _ | refine Below.setCell ?_ ?_ _ | refine Below.drewN' _ ?_ | refine Below.drew ?_ | exact Ge.le) | go_size)⟩
end Go.Proofs.YtpkgpkabmechkaaGreat

/- Contracts: whether a tape may be, as the program says. -/
namespace Go.Proofs.YtpkgpkabmechkaaGreat
set_option linter.unusedSimpArgs false
set_option linter.unusedVariables false
open Go.RowKit
open Fl

/-- A tape that may be. -/
def opR (o : OpT) (i vars : Int) : Prop := OpR o.K o.A o.B o.N o.lo o.hi i vars
def TapeR (V : Int) (nO : Nat) (ops : Nat → OpT) (nN : Nat) (outs : Nat → Int) : Prop :=
  0 ≤ V ∧ V ≤ 64 ∧ nO ≤ 4000 ∧ nN ≤ 400 ∧ (∀ i, i < nO → opR (ops i) i V) ∧ (∀ j, j < nN → badO nO (outs j) = false)

def TopInv (W : World) (ops : Nat → OpT) (n : Nat) (V : Int) (i : Value) (w : World) : Prop :=
  ∃ k : Nat, i = .int .i64 k ∧ k ≤ n ∧ (∀ j, j < k → opR (ops j) j V) ∧ Below W.heap.size W w

theorem Later.after {W wr : World} {o : Obj} (h : Below W.heap.size W wr) (n : Later (wr.alloc o)) : Below W.heap.size W n.val :=
  n.belowOf (h.alloc h.size _) (Nat.le_trans h.size (by simp))

open Classical in
set_option maxHeartbeats 4000000 in
theorem tright_any (V : Int) (vO vN : Value) (ops : Nat → OpT) (outs : Nat → Int) (nO nN : Nat) (w : World) (hO : OpsAt w vO ops nO) (hN : OutsAt w vN outs nN) :
    Calls Tryz.prog 49 #[.agg #[.int .i64 V, vO, vN]] w fun e w' => e = .returned (.int .i64 (if TapeR V nO ops nN outs then 0 else 50)) ∧ Below w.heap.size w w' := by
  have hO0 := hO
  have hN0 := hN
  obtain ⟨A, c, rfl, hO⟩ := hO
  obtain ⟨A2, c2, rfl, hN⟩ := hN
  have hmf : ∀ (fn : Fn) (first cap : Array Value) (w : World), (Instr.makeFunc fn first cap).run Tryz.prog w = .ok (.func fn first cap) w := fun _ _ _ _ => rfl
  have cV : V < 0 ∨ (0 ≤ V ∧ 64 < V) ∨ (0 ≤ V ∧ V ≤ 64 ∧ 4000 < nO) ∨ (0 ≤ V ∧ V ≤ 64 ∧ nO ≤ 4000 ∧ 400 < nN) ∨ (0 ≤ V ∧ V ≤ 64 ∧ nO ≤ 4000 ∧ nN ≤ 400) := by omega
  rcases cV with h1 | ⟨h1, h2⟩ | ⟨h1, h2, h3⟩ | ⟨h1, h2, h3, h4⟩ | ⟨h1, h2, h3, h4⟩
  case inr.inr.inr.inr =>
    have HO := Lib.hid hO
    have HN := Lib.hid hN
    have HN0 := Lib.hid hN0
    clear hO hN hO0 hN0
    obtain ⟨R, hR⟩ : ∃ R : Int, R = if TapeR V nO ops nN outs then 0 else 50 := ⟨_, rfl⟩
    rw [← hR]
    have HR := Lib.hid hR
    clear hR
    go_enter Tryz.func49, Tryz.ntmps49
    go_wp2
    go_loopw [28] (fun i wr => TopInv (w.alloc (Obj.cells #[.int .i64 V, .slice A nO c, .slice A2 nN c2] 45)) ops nO V i wr) (fun i _ => nO - (intOf i).toNat)
    case atStart => exact ⟨0, rfl, Nat.zero_le _, fun j hj => by omega, Below.refl _ _⟩
    case round =>
      obtain ⟨k, rfl, hk, hE, hbel⟩ := hrel
      have HE := Lib.hid hE
      clear hE
      have b0 : Below w.heap.size w (w.alloc (Obj.cells #[.int .i64 V, .slice A nO c, .slice A2 nN c2] 45)) := (Below.refl _ _).alloc (Nat.le_refl _) _
      have b1 := b0.trans (hbel.mono b0.size)
      have g0 : wr.cell? ⟨w.heap.size, 0, none⟩ = some (.int .i64 V) := cellBelow hbel (by simp [go_sem])
      have g1 : wr.cell? ⟨w.heap.size, 1, none⟩ = some (.slice A nO c) := cellBelow hbel (by simp [go_sem])
      have g2 : wr.cell? ⟨w.heap.size, 2, none⟩ = some (.slice A2 nN c2) := cellBelow hbel (by simp [go_sem])
      have hk2 : (k : Int) ≤ 4000 := by omega
      haveI hge : Ge wr (w.heap.size + 1) := ⟨by have := hbel.size; simpa using this⟩
      by_cases q1 : k < nO
      · obtain ⟨b, o, eA, l1, l2, d0, d1, d2, d3, d4, d5⟩ := HO.out k q1
        subst eA
        have d0 := cellBelow b1 d0
        have d1 := cellBelow b1 d1
        have d2 := cellBelow b1 d2
        have d3 := cellBelow b1 d3
        have d4 := cellBelow b1 d4
        have d5 := cellBelow b1 d5
        have r := opright_any (ops k).K (ops k).A (ops k).B (ops k).N (ops k).lo (ops k).hi k V
        have er : OpR (ops k).K (ops k).A (ops k).B (ops k).N (ops k).lo (ops k).hi k V = opR (ops k) k V := rfl
        rw [er] at r
        clear er l1 l2
        generalize (ops k).K = xK at *
        generalize (ops k).A = xA at *
        generalize (ops k).B = xB at *
        generalize (ops k).N = xN at *
        generalize (ops k).lo = xlo at *
        generalize (ops k).hi = xhi at *
        by_cases q2 : opR (ops k) k V
        · rw [decide_eq_true q2] at r
          have Q2 := Lib.hid q2
          clear q2
          go_wp2_with (go_at_call 109; refine (r.go _).mono ?_; rintro _ _ ⟨n, rfl, rfl⟩)
          go_roundw
          case rel => exact ⟨k + 1, by go_num, q1, fun j hj => by rcases Nat.lt_succ_iff_lt_or_eq.1 hj with h | h; exact HE.out j h; rw [h]; exact Q2.out, Later.after hbel n⟩
          case measure => simp [intOf]; omega
        · rw [decide_eq_false q2] at r
          have E := Lib.hid (show (50 : Int) = R from by rw [HR.out, if_neg (fun hh => q2 (hh.2.2.2.2.1 k q1))])
          clear q2
          go_wp2_with (go_at_call 109; refine (r.go _).mono ?_; rintro _ _ ⟨n, rfl, rfl⟩)
          go_ret
          exact ⟨ret_int E.out, b0.trans ((Later.after hbel n).mono b0.size)⟩
      · have ct := contains_any (.slice A2 nN c2) outs nN w.heap.size A nO c wr (by omega) (HN0.out.below b1) g1
        by_cases q2 : ∃ j, j < nN ∧ badO nO (outs j) = true
        · rw [decide_eq_true q2] at ct
          have E := Lib.hid (show (50 : Int) = R from by rw [HR.out, if_neg (fun hh => by obtain ⟨j, hj, hb⟩ := q2; rw [hh.2.2.2.2.2 j hj] at hb; cases hb)])
          clear q2
          go_wp2_with (go_at_call 110; refine ct.mono ?_; rintro _ w1 ⟨rfl, hb1⟩)
          go_ret
          exact ⟨ret_int E.out, b1.trans (hb1.mono b1.size)⟩
        · rw [decide_eq_false q2] at ct
          have E := Lib.hid (show (0 : Int) = R from by rw [HR.out, if_pos ⟨h1, h2, h3, h4, fun i hi => HE.out i (by omega), fun j hj => by cases hb : badO nO (outs j); rfl; exact absurd ⟨j, hj, hb⟩ q2⟩])
          clear q2
          go_wp2_with (go_at_call 110; refine ct.mono ?_; rintro _ w1 ⟨rfl, hb1⟩)
          go_ret
          exact ⟨ret_int E.out, b1.trans (hb1.mono b1.size)⟩
  all_goals
    rw [if_neg (fun hh => by have a1 := hh.1; have a2 := hh.2.1; have a3 := hh.2.2.1; have a4 := hh.2.2.2.1; omega)]
    clear hO hN hO0 hN0
    go_enter Tryz.func49, Tryz.ntmps49
    go_wp2
    go_ret
    exact ⟨rfl, by (repeat' first | (with_reducible first | exact Below.refl _ _ | assumption | refine Later.belowOf _ ?_ ?_ | refine Below.alloc ?_ ?_ _ | refine Below.setCell ?_ ?_ _ | refine Below.drewN' _ ?_ | refine Below.drew ?_ | exact Ge.le) | go_size)⟩
end Go.Proofs.YtpkgpkabmechkaaGreat
