/- Contracts: the reference's quotients, roots. -/
import Derived.Test.YtjdccbigaahkeaaW33
namespace Go.Proofs.Ytjdccbigaahkeaa
set_option linter.unusedSimpArgs false
set_option linter.unusedVariables false
open Go.RowKit
open Fl

theorem fM_zero {x : Nat} (hf : finB x = true) : fM x = 0 ↔ rung x = 0 := by
  unfold fM qM pM
  rw [hf]
  simp only [if_true]
  rw [Int.toNat_natCast]
  exact mag_zero

set_option maxHeartbeats 4000000 in
set_option maxRecDepth 100000 in
theorem div1_fin (a b : Nat) (dir : Int) (ha : a < 18446744073709551616) (hb : b < 18446744073709551616) (fa : finB a = true) (fb : finB b = true) (zb : rung b ≠ 0) : Gives 53 #[(.float .f64 a), (.float .f64 b), .int .i64 dir] (.float .f64 (divS a b dir)) := by
  intro w
  have na : nan a = false := nan_false.2 (Nat.le_of_lt (finB_rung.1 fa))
  have nb : nan b = false := nan_false.2 (Nat.le_of_lt (finB_rung.1 fb))
  have f1 := finite_any a ha
  have f2 := finite_any b hb
  rw [fa] at f1
  rw [fb] at f2
  have i1 := isNum_any a
  have i2 := isNum_any b
  rw [na] at i1
  rw [nb] at i2
  have q2 := feq_null nb
  rw [decide_eq_false zb] at q2
  have FL1 := Lib.hid (fun w => NumRes.go (float_any a ha w))
  have FL2 := Lib.hid (fun w => NumRes.go (float_any b hb w))
  have ra := qE_range a
  have rb := qE_range b
  have hS : divS a b dir = rnd (val a * (if sgn b then -1 else 1) * (pw 1074 : Nat)) (G (rung b)) dir := by
    unfold divS; rw [na, nb, fa, fb]; simp [zb]
  have hq := quo_eq (qNeg a) (fM a) (qE a) a b dir (by omega) (nv_float a fa) zb
  rw [← hS] at hq
  have ma := Nat.lt_of_lt_of_le (fM_bp a) (bp_le (show 2 ≤ 2000 by decide))
  have mb := Nat.lt_of_lt_of_le (fM_bp b) (bp_le (show 2 ≤ 100 by decide))
  have mz : fM b ≠ 0 := fun h => zb ((fM_zero fb).1 h)
  have rd := fun (A : Option Addr) (k c : Nat) (B : Option Addr) (l d : Nat) (w1 : World) (h1 : Big w1 (.slice A k c) (fM a)) (h2 : Big w1 (.slice B l d) (fM b)) =>
    FloatRes.go (rounded_any _ _ dir _ _ _ _ _ _ _ _ _ _ _ w1 (oracleQ (qNeg a) (qNeg b) (fM a) (fM b) (qE a) (qE b) 1074 A B k c l d w1 h1.stays h2.stays ma mb mz (by omega) (by omega) (by omega) (by omega) (by decide) (by omega) (by omega)))
  rw [nv_float b fb, hq] at rd
  have RD := Lib.hid rd
  clear rd hS hq ma mb mz ha hb fa fb na nb zb
  generalize divS a b dir = x at *
  go_enter Try.func53, Try.ntmps53
  go_wp2_with (first
    | (go_at_call 43; first | ((with_reducible refine (i1.go _).mono ?_); rintro _ _ ⟨k, rfl, rfl⟩) | ((with_reducible refine (i2.go _).mono ?_); rintro _ _ ⟨k, rfl, rfl⟩))
    | (go_at_call 107; first | ((with_reducible refine (f1.go _).mono ?_); rintro _ _ ⟨k, rfl, rfl⟩) | ((with_reducible refine (f2.go _).mono ?_); rintro _ _ ⟨k, rfl, rfl⟩))
    | (go_at_call 110; first | ((with_reducible refine (FL1.out _).mono ?_); rintro _ _ ⟨A1, k1, c1, q3, hq1, rfl, rfl⟩; have hq1' := hq1.out) | ((with_reducible refine (FL2.out _).mono ?_); rintro _ _ ⟨A2, k2, c2, q4, hq2, rfl, rfl⟩; have hq2' := hq2.out)))
  go_at_call 115
  refine (RD.out A1 k1 c1 A2 k2 c2 q4.val (hq1'.later q4) hq2').mono ?_
  rintro _ _ ⟨q6, rfl, rfl⟩
  go_wp2
  go_ret
  exact ⟨rfl, by (repeat' (first | (with_reducible exact Below.refl _ _) | (with_reducible assumption) | (with_reducible refine Later.belowOf _ ?_ ?_) | (with_reducible refine Below.alloc ?_ ?_ _) | (with_reducible refine Below.setCell ?_ ?_ _) | (with_reducible refine Below.drewN' _ ?_) | (with_reducible refine Below.drew ?_) | (with_reducible exact Ge.le) | go_size))⟩

set_option maxHeartbeats 8000000 in
theorem div1_any (a b : Nat) (dir : Int) (ha : a < 18446744073709551616) (hb : b < 18446744073709551616) : Gives 53 #[(.float .f64 a), (.float .f64 b), .int .i64 dir] (.float .f64 (divS a b dir)) := by
  have f1 := finite_any a ha
  have f2 := finite_any b hb
  have i1 := isNum_any a
  have i2 := isNum_any b
  have n1 := math_NaN
  cases na : nan a
  · cases nb : nan b
    · by_cases zb : rung b = 0
      · intro w
        have hS : divS a b dir = QN := by unfold divS; rw [na, nb]; simp [zb]
        have q2 := feq_null nb
        rw [decide_eq_true zb] at q2
        rw [hS]
        rw [na] at i1
        rw [nb] at i2
        clear hS na nb zb ha hb f1 f2
        go_enter Try.func53, Try.ntmps53
        go_wp2_with (first
          | (go_at_call 105; refine (n1.go _).mono ?_; rintro _ _ ⟨k, rfl, rfl⟩)
          | (go_at_call 43; first | ((with_reducible refine (i1.go _).mono ?_); rintro _ _ ⟨k, rfl, rfl⟩) | ((with_reducible refine (i2.go _).mono ?_); rintro _ _ ⟨k, rfl, rfl⟩)))
        go_ret
        exact ⟨rfl, by (repeat' (first | (with_reducible exact Below.refl _ _) | (with_reducible assumption) | (with_reducible refine Later.belowOf _ ?_ ?_) | (with_reducible refine Below.alloc ?_ ?_ _) | (with_reducible refine Below.setCell ?_ ?_ _) | (with_reducible refine Below.drewN' _ ?_) | (with_reducible refine Below.drew ?_) | (with_reducible exact Ge.le) | go_size))⟩
      · cases hff : finB a && finB b
        · intro w
          have hS : divS a b dir = if finB a then 0 else if finB b then infW (sgn a ^^ sgn b) else QN := by unfold divS; rw [na, nb, hff]; simp [zb]
          have q2 := feq_null nb
          rw [decide_eq_false zb] at q2
          have l2 := flt_sgn nb zb
          rw [hS]
          rw [nb] at i2
          cases fa : finB a
          · have za : rung a ≠ 0 := by rw [(read_inf fa na).2]; decide
            have l1 := flt_sgn na za
            rw [na] at i1
            clear hS na nb za zb ha hb
            cases fb : finB b <;> cases sa : sgn a <;> cases sb : sgn b
            all_goals
              rw [fa] at f1
              rw [fb] at f2
              rw [sa] at l1
              rw [sb] at l2
              clear fa fb sa sb hff
              have in1 := inf1_any true
              have in2 := inf1_any false
              go_enter Try.func53, Try.ntmps53
              go_wp2_with (first
                | (go_at_call 105; refine (n1.go _).mono ?_; rintro _ _ ⟨k, rfl, rfl⟩)
                | (go_at_call 43; first | ((with_reducible refine (i1.go _).mono ?_); rintro _ _ ⟨k, rfl, rfl⟩) | ((with_reducible refine (i2.go _).mono ?_); rintro _ _ ⟨k, rfl, rfl⟩))
                | (go_at_call 107; first | ((with_reducible refine (f1.go _).mono ?_); rintro _ _ ⟨k, rfl, rfl⟩) | ((with_reducible refine (f2.go _).mono ?_); rintro _ _ ⟨k, rfl, rfl⟩))
                | (go_at_call 108; first | ((with_reducible refine (in1.go _).mono ?_); rintro _ _ ⟨k, rfl, rfl⟩) | ((with_reducible refine (in2.go _).mono ?_); rintro _ _ ⟨k, rfl, rfl⟩)))
              go_ret
              exact ⟨rfl, by (repeat' (first | (with_reducible exact Below.refl _ _) | (with_reducible assumption) | (with_reducible refine Later.belowOf _ ?_ ?_) | (with_reducible refine Below.alloc ?_ ?_ _) | (with_reducible refine Below.setCell ?_ ?_ _) | (with_reducible refine Below.drewN' _ ?_) | (with_reducible refine Below.drew ?_) | (with_reducible exact Ge.le) | go_size))⟩
          · have fb : finB b = false := by cases h : finB b; rfl; rw [fa, h] at hff; cases hff
            rw [na] at i1
            rw [fa] at f1
            rw [fb] at f2
            clear hS na nb zb ha hb fa fb hff
            go_enter Try.func53, Try.ntmps53
            go_wp2_with (first
              | (go_at_call 43; first | ((with_reducible refine (i1.go _).mono ?_); rintro _ _ ⟨k, rfl, rfl⟩) | ((with_reducible refine (i2.go _).mono ?_); rintro _ _ ⟨k, rfl, rfl⟩))
              | (go_at_call 107; first | ((with_reducible refine (f1.go _).mono ?_); rintro _ _ ⟨k, rfl, rfl⟩) | ((with_reducible refine (f2.go _).mono ?_); rintro _ _ ⟨k, rfl, rfl⟩)))
            go_ret
            exact ⟨rfl, by (repeat' (first | (with_reducible exact Below.refl _ _) | (with_reducible assumption) | (with_reducible refine Later.belowOf _ ?_ ?_) | (with_reducible refine Below.alloc ?_ ?_ _) | (with_reducible refine Below.setCell ?_ ?_ _) | (with_reducible refine Below.drewN' _ ?_) | (with_reducible refine Below.drew ?_) | (with_reducible exact Ge.le) | go_size))⟩
        · rw [Bool.and_eq_true] at hff
          exact div1_fin a b dir ha hb hff.1 hff.2 zb
    · intro w
      have hS : divS a b dir = QN := by unfold divS; rw [nb]; simp
      rw [hS]
      rw [na] at i1
      rw [nb] at i2
      clear hS na nb ha hb f1 f2
      go_enter Try.func53, Try.ntmps53
      go_wp2_with (first
        | (go_at_call 105; refine (n1.go _).mono ?_; rintro _ _ ⟨k, rfl, rfl⟩)
        | (go_at_call 43; first | ((with_reducible refine (i1.go _).mono ?_); rintro _ _ ⟨k, rfl, rfl⟩) | ((with_reducible refine (i2.go _).mono ?_); rintro _ _ ⟨k, rfl, rfl⟩)))
      go_ret
      exact ⟨rfl, by (repeat' (first | (with_reducible exact Below.refl _ _) | (with_reducible assumption) | (with_reducible refine Later.belowOf _ ?_ ?_) | (with_reducible refine Below.alloc ?_ ?_ _) | (with_reducible refine Below.setCell ?_ ?_ _) | (with_reducible refine Below.drewN' _ ?_) | (with_reducible refine Below.drew ?_) | (with_reducible exact Ge.le) | go_size))⟩
  · intro w
    have hS : divS a b dir = QN := by unfold divS; rw [na]; simp
    rw [hS]
    rw [na] at i1
    clear hS na ha hb f1 f2 i2
    go_enter Try.func53, Try.ntmps53
    go_wp2_with (first
      | (go_at_call 105; refine (n1.go _).mono ?_; rintro _ _ ⟨k, rfl, rfl⟩)
      | (go_at_call 43; ((with_reducible refine (i1.go _).mono ?_); rintro _ _ ⟨k, rfl, rfl⟩)))
    go_ret
    exact ⟨rfl, by (repeat' (first | (with_reducible exact Below.refl _ _) | (with_reducible assumption) | (with_reducible refine Later.belowOf _ ?_ ?_) | (with_reducible refine Below.alloc ?_ ?_ _) | (with_reducible refine Below.setCell ?_ ?_ _) | (with_reducible refine Below.drewN' _ ?_) | (with_reducible refine Below.drew ?_) | (with_reducible exact Ge.le) | go_size))⟩

theorem rnd_null (D : Nat) (hD : 0 < D) (dir : Int) : rnd 0 D dir = 0 := by
  rw [rnd_eq]
  unfold plc
  rw [if_neg (by decide)]
  show bitsOf ((rungOf 0 D dir : Nat) : Int) = 0
  rw [rungOf_zero D hD]; rfl

set_option maxHeartbeats 4000000 in
set_option maxRecDepth 100000 in
theorem sqrt1_any (a : Nat) (dir : Int) (ha : a < 18446744073709551616) : Gives 55 #[(.float .f64 a), .int .i64 dir] (.float .f64 (rootS a dir)) := by
  have f1 := finite_any a ha
  have i1 := isNum_any a
  have n1 := math_NaN
  intro w
  cases na : nan a
  · rw [na] at i1
    by_cases hneg : sgn a = true ∧ rung a ≠ 0
    · have hS : rootS a dir = QN := by unfold rootS; rw [na, hneg.1]; simp [hneg.2]
      have l1 := flt_sgn na hneg.2
      rw [hneg.1] at l1
      rw [hS]
      clear hS hneg na ha f1
      go_enter Try.func55, Try.ntmps55
      go_wp2_with (first
        | (go_at_call 105; refine (n1.go _).mono ?_; rintro _ _ ⟨k, rfl, rfl⟩)
        | (go_at_call 43; ((with_reducible refine (i1.go _).mono ?_); rintro _ _ ⟨k, rfl, rfl⟩)))
      go_ret
      exact ⟨rfl, by (repeat' (first | (with_reducible exact Below.refl _ _) | (with_reducible assumption) | (with_reducible refine Later.belowOf _ ?_ ?_) | (with_reducible refine Below.alloc ?_ ?_ _) | (with_reducible refine Below.setCell ?_ ?_ _) | (with_reducible refine Below.drewN' _ ?_) | (with_reducible refine Below.drew ?_) | (with_reducible exact Ge.le) | go_size))⟩
    · have l1 : flt a 0 = false := by
        rw [flt_zero na]
        unfold pNeg
        cases hs : sgn a
        · rfl
        · simp; exact Classical.not_not.1 fun h => hneg ⟨hs, h⟩
      cases fa : finB a
      · have hz : rung a ≠ 0 := by rw [(read_inf fa na).2]; decide
        have hs : sgn a = false := by cases hs : sgn a; rfl; exact absurd ⟨hs, hz⟩ hneg
        have hS : rootS a dir = a := by unfold rootS; rw [na, fa, hs]; simp [hz]
        rw [hS]
        rw [fa] at f1
        clear hS hs hz hneg na fa ha
        go_enter Try.func55, Try.ntmps55
        go_wp2_with (first
          | (go_at_call 43; ((with_reducible refine (i1.go _).mono ?_); rintro _ _ ⟨k, rfl, rfl⟩))
          | (go_at_call 107; ((with_reducible refine (f1.go _).mono ?_); rintro _ _ ⟨k, rfl, rfl⟩)))
        go_ret
        exact ⟨rfl, by (repeat' (first | (with_reducible exact Below.refl _ _) | (with_reducible assumption) | (with_reducible refine Later.belowOf _ ?_ ?_) | (with_reducible refine Below.alloc ?_ ?_ _) | (with_reducible refine Below.setCell ?_ ?_ _) | (with_reducible refine Below.drewN' _ ?_) | (with_reducible refine Below.drew ?_) | (with_reducible exact Ge.le) | go_size))⟩
      · have hS : rootS a dir = rnd (rootN (G (rung a))) (rootD (G (rung a))) dir := by
          by_cases hz : rung a = 0
          · unfold rootS
            rw [na]
            simp only [Bool.false_eq_true, if_false, if_pos hz]
            rw [hz, G_zero]
            have e1 : isq (4 * 0 * pw 1074) = 0 := by
              have := isq_spec (4 * 0 * pw 1074)
              rcases Nat.eq_zero_or_pos (isq (4 * 0 * pw 1074)) with h | h
              · exact h
              · have h2 := Nat.mul_pos h h
                have h3 : 4 * 0 * pw 1074 = 0 := by simp
                rw [h3] at this h2
                omega
            have e2 : rootN 0 = 0 := by
              unfold rootN
              rw [e1]; simp
            rw [e2]
            exact (rnd_null _ (rootD_pos 0) dir).symm
          · have hs : sgn a = false := by cases hs : sgn a; rfl; exact absurd ⟨hs, hz⟩ hneg
            unfold rootS; rw [na, fa, hs]; simp [hz]
        rw [hS]
        rw [fa] at f1
        have ra := qE_range a
        have hX : nv (1075 + 1075) (qNeg a) (fM a) (qE a) = ((4 * G (rung a) * pw 1074 : Nat) : Int) := by
          by_cases hz : rung a = 0
          · rw [(fM_zero fa).2 hz, nv_zero, hz, G_zero]; simp
          · have hs : sgn a = false := by cases hs : sgn a; rfl; exact absurd ⟨hs, hz⟩ hneg
            exact root_eq4 _ _ _ a (by omega) (nv_float a fa) hs
        have ma := Nat.lt_of_lt_of_le (fM_bp a) (bp_le (show 2 ≤ 2000 by decide))
        have FL1 := Lib.hid (fun w => NumRes.go (float_any a ha w))
        have rd := fun (A : Option Addr) (k c : Nat) (w1 : World) (h1 : Big w1 (.slice A k c) (fM a)) =>
          FloatRes.go (rounded_any _ _ dir _ _ _ _ _ _ _ _ _ _ _ w1 (oracleR (qNeg a) (fM a) (G (rung a)) (qE a) A k c w1 h1.stays ma (by omega) (by omega) hX))
        have RD := Lib.hid rd
        clear rd hS hX ma ha fa na hneg
        generalize rnd (rootN (G (rung a))) (rootD (G (rung a))) dir = x at *
        go_enter Try.func55, Try.ntmps55
        go_wp2_with (first
          | (go_at_call 43; ((with_reducible refine (i1.go _).mono ?_); rintro _ _ ⟨k, rfl, rfl⟩))
          | (go_at_call 107; ((with_reducible refine (f1.go _).mono ?_); rintro _ _ ⟨k, rfl, rfl⟩))
          | (go_at_call 110; (refine (FL1.out _).mono ?_); rintro _ _ ⟨A1, k1, c1, q3, hq1, rfl, rfl⟩; have hq1' := hq1.out))
        go_at_call 115
        refine (RD.out A1 k1 c1 q3.val hq1').mono ?_
        rintro _ _ ⟨q6, rfl, rfl⟩
        go_wp2
        go_ret
        exact ⟨rfl, by (repeat' (first | (with_reducible exact Below.refl _ _) | (with_reducible assumption) | (with_reducible refine Later.belowOf _ ?_ ?_) | (with_reducible refine Below.alloc ?_ ?_ _) | (with_reducible refine Below.setCell ?_ ?_ _) | (with_reducible refine Below.drewN' _ ?_) | (with_reducible refine Below.drew ?_) | (with_reducible exact Ge.le) | go_size))⟩
  · rw [na] at i1
    have hS : rootS a dir = QN := by unfold rootS; rw [na]; rfl
    rw [hS]
    clear hS na ha f1
    go_enter Try.func55, Try.ntmps55
    go_wp2_with (first
      | (go_at_call 105; refine (n1.go _).mono ?_; rintro _ _ ⟨k, rfl, rfl⟩)
      | (go_at_call 43; ((with_reducible refine (i1.go _).mono ?_); rintro _ _ ⟨k, rfl, rfl⟩)))
    go_ret
    exact ⟨rfl, by (repeat' (first | (with_reducible exact Below.refl _ _) | (with_reducible assumption) | (with_reducible refine Later.belowOf _ ?_ ?_) | (with_reducible refine Below.alloc ?_ ?_ _) | (with_reducible refine Below.setCell ?_ ?_ _) | (with_reducible refine Below.drewN' _ ?_) | (with_reducible refine Below.drew ?_) | (with_reducible exact Ge.le) | go_size))⟩
end Go.Proofs.Ytjdccbigaahkeaa
