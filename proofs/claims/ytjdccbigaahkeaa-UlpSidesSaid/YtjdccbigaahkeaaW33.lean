/- Contracts: the reference's differences, products, quotients, roots. -/
import Derived.Test.YtjdccbigaahkeaaW32
namespace Go.Proofs.Ytjdccbigaahkeaa
set_option linter.unusedSimpArgs false
set_option linter.unusedVariables false
open Go.RowKit
open Fl

theorem fsub0_num {b : Nat} (w : World) (hb : b < 18446744073709551616) (nb : nan b = false) : fop .sub 0 b w = cl (fneg b) := by
  have hs : floatBits .sub .f64 0 b = FloatKind.f64.format.add 0 (fneg b) := fsub_eq hb
  have nf : nan (fneg b) = false := by rw [nan_fneg]; exact nb
  have hz := fadd_zero (fneg_lt b) nf
  have hc : FloatKind.f64.format.add 0 (fneg b) = FloatKind.f64.format.add (fneg b) 0 := by
    rcases Nat.lt_or_eq_of_le (nan_false.1 nf) with h1 | h1
    · rw [fadd_eq (by decide) h1, fadd_eq h1 (by decide)]
      unfold sumNeg
      rw [Int.add_comm (val 0), Bool.and_comm]
    · unfold Ieee.Format.add
      have e : FloatKind.f64.format.read (fneg b) = .infinity (sgn (fneg b)) := by rw [read_eq, if_neg (by omega), if_pos h1]
      have e0 : FloatKind.f64.format.read 0 = .number (sgn 0) (mag (rung 0)) (-1074 + (exn (rung 0) : Nat)) := read_fin (by decide)
      rw [e, e0]
      rfl
  rw [hc, hz] at hs
  exact fop_some w hs
theorem fsub0_nan {b : Nat} (w : World) (hb : b < 18446744073709551616) (nb : nan b = true) : nan (fop .sub 0 b w) = true ∧ fop .sub 0 b w < 18446744073709551616 := by
  have hs : floatBits .sub .f64 0 b = none := by
    have h1 : floatBits .sub .f64 0 b = floatBits .add .f64 0 (fneg b) := fsub_eq hb
    rw [h1]
    exact fadd_nan (Or.inr (by rw [nan_fneg]; exact nb))
  exact ⟨fop_none w hs, fop_none_lt w hs⟩

set_option maxHeartbeats 1000000 in
theorem sub1_any (a b : Nat) (dir : Int) (ha : a < 18446744073709551616) (hb : b < 18446744073709551616) : Gives 51 #[(.float .f64 a), (.float .f64 b), .int .i64 dir] (.float .f64 (subS a b dir)) := by
  intro w
  unfold subS
  cases nb : nan b
  · have a1 := add1_any a (cl (fneg b)) dir ha (cl_lt (fneg_lt b))
    rw [addS_cl a (fneg b) dir (by rw [nan_fneg]; exact nb)] at a1
    have e1 := fun w => fsub0_num w hb nb
    generalize addS a (fneg b) dir = x at *
    generalize cl (fneg b) = y at *
    clear ha hb nb
    go_enter Try.func51, Try.ntmps51
    go_wp2_with (go_at_call 49; refine (a1.go _).mono ?_; rintro _ _ ⟨k, rfl, rfl⟩)
    go_ret
    exact ⟨rfl, by (repeat' (first | (with_reducible exact Below.refl _ _) | (with_reducible assumption) | (with_reducible refine Later.belowOf _ ?_ ?_) | (with_reducible refine Below.alloc ?_ ?_ _) | (with_reducible refine Below.setCell ?_ ?_ _) | (with_reducible refine Below.drewN' _ ?_) | (with_reducible refine Below.drew ?_) | (with_reducible exact Ge.le) | go_size))⟩
  · have hn : addS a (fneg b) dir = QN := by
      have f0 : finB (fneg b) = false := by rw [finB_fneg, finB_false]; have := nan_true.1 nb; omega
      unfold addS; rw [f0, nan_fneg, nb]; simp
    rw [hn]
    have a1 : ∀ w : World, Gives 49 #[(.float .f64 a), (.float .f64 (fop .sub 0 b w)), .int .i64 dir] (.float .f64 QN) := by
      intro w
      obtain ⟨h1, h2⟩ := fsub0_nan w hb nb
      have h3 : addS a (fop .sub 0 b w) dir = QN := by
        have f0 : finB (fop .sub 0 b w) = false := by rw [finB_false]; have := nan_true.1 h1; omega
        unfold addS; rw [f0, h1]; simp
      have := add1_any a (fop .sub 0 b w) dir ha h2
      rwa [h3] at this
    have A1 := Lib.hid a1
    clear a1 hn nb ha hb
    go_enter Try.func51, Try.ntmps51
    go_wp2_with (go_at_call 49; refine ((A1.out _).go _).mono ?_; rintro _ _ ⟨k, rfl, rfl⟩)
    go_ret
    exact ⟨rfl, by (repeat' (first | (with_reducible exact Below.refl _ _) | (with_reducible assumption) | (with_reducible refine Later.belowOf _ ?_ ?_) | (with_reducible refine Below.alloc ?_ ?_ _) | (with_reducible refine Below.setCell ?_ ?_ _) | (with_reducible refine Below.drewN' _ ?_) | (with_reducible refine Below.drew ?_) | (with_reducible exact Ge.le) | go_size))⟩

theorem feq_null {x : Nat} (h : nan x = false) : feq x 0 = decide (rung x = 0) := by
  unfold feq
  have z : nan 0 = false := by decide
  have z2 : idx 0 = 0 := by decide
  rw [h, z, z2]
  simp only [Bool.not_false, Bool.true_and]
  rw [Bool.eq_iff_iff]; simp only [decide_eq_true_eq]; exact idx_zero_iff x
theorem flt_sgn {x : Nat} (h : nan x = false) (h0 : rung x ≠ 0) : flt x 0 = sgn x := by
  rw [flt_zero h]; unfold pNeg; simp [h0]

set_option maxHeartbeats 4000000 in
set_option maxRecDepth 100000 in
theorem mul1_fin (a b : Nat) (dir : Int) (ha : a < 18446744073709551616) (hb : b < 18446744073709551616) (fa : finB a = true) (fb : finB b = true) (za : rung a ≠ 0) (zb : rung b ≠ 0) : Gives 47 #[(.float .f64 a), (.float .f64 b), .int .i64 dir] (.float .f64 (mulS a b dir)) := by
  intro w
  have na : nan a = false := nan_false.2 (Nat.le_of_lt (finB_rung.1 fa))
  have nb : nan b = false := nan_false.2 (Nat.le_of_lt (finB_rung.1 fb))
  have f1 := finite_any a ha
  have f2 := finite_any b hb
  rw [fa] at f1
  rw [fb] at f2
  have i1 := isNum_any a
  have i2 := isNum_any b
  rw [na] at i1
  rw [nb] at i2
  have q1 := feq_null na
  have q2 := feq_null nb
  rw [decide_eq_false za] at q1
  rw [decide_eq_false zb] at q2
  have FL1 := Lib.hid (fun w => NumRes.go (float_any a ha w))
  have FL2 := Lib.hid (fun w => NumRes.go (float_any b hb w))
  have ra := qE_range a
  have rb := qE_range b
  have hpv : nv (1074 + 1074) (prodS (qNeg a) (qNeg b) (fM a) (fM b)) (fM a * fM b) (prodE (fM a) (fM b) (qE a) (qE b)) = val a * val b := by
    rw [prod_amount _ _ _ _ _ _ (by omega) (by omega), nv_float a fa, nv_float b fb]
  have hS : mulS a b dir = rnd (val a * val b) (pw 1074) dir := by
    unfold mulS; rw [na, nb, fa, fb]; simp [za, zb]
  have hpe : -2148 ≤ prodE (fM a) (fM b) (qE a) (qE b) ∧ prodE (fM a) (fM b) (qE a) (qE b) ≤ 2000 := by unfold prodE; split <;> omega
  have ma := fM_bp a
  have mb := fM_bp b
  have mab : fM a * fM b < bp 2000 := by
    have := Nat.mul_lt_mul'' ma mb
    rw [← bp_add] at this
    exact Nat.lt_of_lt_of_le this (bp_le (by decide))
  have wh := fun (A : Option Addr) (k c : Nat) (w1 : World) (h : Big w1 (.slice A k c) (fM a * fM b)) => FloatRes.go (bwhole_any (prodS (qNeg a) (qNeg b) (fM a) (fM b)) (fM a * fM b) (prodE (fM a) (fM b) (qE a) (qE b)) 1074 dir A k c w1 h.stays mab (by omega) (by omega) (by decide) (by omega))
  rw [whole_prod _ _ _ _ dir hpe.1 hpv, ← hS] at wh
  have pr := fun (A : Option Addr) (k c : Nat) (B : Option Addr) (l d : Nat) (w1 : World) (h1 : Big w1 (.slice A k c) (fM a)) (h2 : Big w1 (.slice B l d) (fM b)) => NumRes.go (product_any (qNeg a) (qNeg b) A k c B l d (fM a) (fM b) (qE a) (qE b) w1 h1.stays h2.stays (Nat.lt_of_lt_of_le ma (bp_le (by decide))) (Nat.lt_of_lt_of_le mb (bp_le (by decide))) (by omega) (by omega) (by omega) (by omega))
  have WH := Lib.hid wh
  have PR := Lib.hid pr
  clear wh pr hS hpv hpe ma mb mab ha hb fa fb na nb za zb
  generalize mulS a b dir = x at *
  go_enter Try.func47, Try.ntmps47
  go_wp2_with (first
    | (go_at_call 43; first | ((with_reducible refine (i1.go _).mono ?_); rintro _ _ ⟨k, rfl, rfl⟩) | ((with_reducible refine (i2.go _).mono ?_); rintro _ _ ⟨k, rfl, rfl⟩))
    | (go_at_call 107; first | ((with_reducible refine (f1.go _).mono ?_); rintro _ _ ⟨k, rfl, rfl⟩) | ((with_reducible refine (f2.go _).mono ?_); rintro _ _ ⟨k, rfl, rfl⟩))
    | (go_at_call 110; first | ((with_reducible refine (FL1.out _).mono ?_); rintro _ _ ⟨A1, k1, c1, q3, hq1, rfl, rfl⟩; have hq1' := hq1.out) | ((with_reducible refine (FL2.out _).mono ?_); rintro _ _ ⟨A2, k2, c2, q4, hq2, rfl, rfl⟩; have hq2' := hq2.out)))
  go_at_call 109
  refine (PR.out A1 k1 c1 A2 k2 c2 q4.val (hq1'.later q4) hq2').mono ?_
  rintro _ _ ⟨A3, k3, c3, q5, hq3, rfl, rfl⟩
  go_wp2_with (fail)
  go_at_call 102
  refine (WH.out A3 k3 c3 q5.val hq3.out).mono ?_
  rintro _ _ ⟨q6, rfl, rfl⟩
  go_wp2
  go_ret
  exact ⟨rfl, by (repeat' (first | (with_reducible exact Below.refl _ _) | (with_reducible assumption) | (with_reducible refine Later.belowOf _ ?_ ?_) | (with_reducible refine Below.alloc ?_ ?_ _) | (with_reducible refine Below.setCell ?_ ?_ _) | (with_reducible refine Below.drewN' _ ?_) | (with_reducible refine Below.drew ?_) | (with_reducible exact Ge.le) | go_size))⟩

set_option maxHeartbeats 8000000 in
theorem mul1_any (a b : Nat) (dir : Int) (ha : a < 18446744073709551616) (hb : b < 18446744073709551616) : Gives 47 #[(.float .f64 a), (.float .f64 b), .int .i64 dir] (.float .f64 (mulS a b dir)) := by
  have f1 := finite_any a ha
  have f2 := finite_any b hb
  have i1 := isNum_any a
  have i2 := isNum_any b
  have n1 := math_NaN
  cases na : nan a
  · cases nb : nan b
    · by_cases za : rung a = 0
      · intro w
        have hS : mulS a b dir = 0 := by unfold mulS; rw [na, nb]; simp [za]
        have q1 := feq_null na
        rw [decide_eq_true za] at q1
        rw [hS]
        rw [na] at i1
        rw [nb] at i2
        clear hS na nb za ha hb f1 f2
        go_enter Try.func47, Try.ntmps47
        go_wp2_with (go_at_call 43; first | ((with_reducible refine (i1.go _).mono ?_); rintro _ _ ⟨k, rfl, rfl⟩) | ((with_reducible refine (i2.go _).mono ?_); rintro _ _ ⟨k, rfl, rfl⟩))
        go_ret
        exact ⟨rfl, by (repeat' (first | (with_reducible exact Below.refl _ _) | (with_reducible assumption) | (with_reducible refine Later.belowOf _ ?_ ?_) | (with_reducible refine Below.alloc ?_ ?_ _) | (with_reducible refine Below.setCell ?_ ?_ _) | (with_reducible refine Below.drewN' _ ?_) | (with_reducible refine Below.drew ?_) | (with_reducible exact Ge.le) | go_size))⟩
      · by_cases zb : rung b = 0
        · intro w
          have hS : mulS a b dir = 0 := by unfold mulS; rw [na, nb]; simp [zb]
          have q1 := feq_null na
          rw [decide_eq_false za] at q1
          have q2 := feq_null nb
          rw [decide_eq_true zb] at q2
          rw [hS]
          rw [na] at i1
          rw [nb] at i2
          clear hS na nb za zb ha hb f1 f2
          go_enter Try.func47, Try.ntmps47
          go_wp2_with (go_at_call 43; first | ((with_reducible refine (i1.go _).mono ?_); rintro _ _ ⟨k, rfl, rfl⟩) | ((with_reducible refine (i2.go _).mono ?_); rintro _ _ ⟨k, rfl, rfl⟩))
          go_ret
          exact ⟨rfl, by (repeat' (first | (with_reducible exact Below.refl _ _) | (with_reducible assumption) | (with_reducible refine Later.belowOf _ ?_ ?_) | (with_reducible refine Below.alloc ?_ ?_ _) | (with_reducible refine Below.setCell ?_ ?_ _) | (with_reducible refine Below.drewN' _ ?_) | (with_reducible refine Below.drew ?_) | (with_reducible exact Ge.le) | go_size))⟩
        · cases hff : finB a && finB b
          · intro w
            have hS : mulS a b dir = infW (sgn a ^^ sgn b) := by unfold mulS; rw [na, nb, hff]; simp [za, zb]
            have q1 := feq_null na
            rw [decide_eq_false za] at q1
            have q2 := feq_null nb
            rw [decide_eq_false zb] at q2
            have l1 := flt_sgn na za
            have l2 := flt_sgn nb zb
            rw [hS]
            rw [na] at i1
            rw [nb] at i2
            clear hS na nb za zb ha hb
            cases fa : finB a <;> cases fb : finB b <;> cases sa : sgn a <;> cases sb : sgn b
            all_goals first
              | (rw [fa, fb] at hff; cases hff; done)
              | (rw [fa] at f1
                 rw [fb] at f2
                 rw [sa] at l1
                 rw [sb] at l2
                 clear fa fb sa sb hff
                 have in1 := inf1_any true
                 have in2 := inf1_any false
                 go_enter Try.func47, Try.ntmps47
                 go_wp2_with (first
                   | (go_at_call 43; first | ((with_reducible refine (i1.go _).mono ?_); rintro _ _ ⟨k, rfl, rfl⟩) | ((with_reducible refine (i2.go _).mono ?_); rintro _ _ ⟨k, rfl, rfl⟩))
                   | (go_at_call 107; first | ((with_reducible refine (f1.go _).mono ?_); rintro _ _ ⟨k, rfl, rfl⟩) | ((with_reducible refine (f2.go _).mono ?_); rintro _ _ ⟨k, rfl, rfl⟩))
                   | (go_at_call 108; first | ((with_reducible refine (in1.go _).mono ?_); rintro _ _ ⟨k, rfl, rfl⟩) | ((with_reducible refine (in2.go _).mono ?_); rintro _ _ ⟨k, rfl, rfl⟩)))
                 go_ret
                 exact ⟨rfl, by (repeat' (first | (with_reducible exact Below.refl _ _) | (with_reducible assumption) | (with_reducible refine Later.belowOf _ ?_ ?_) | (with_reducible refine Below.alloc ?_ ?_ _) | (with_reducible refine Below.setCell ?_ ?_ _) | (with_reducible refine Below.drewN' _ ?_) | (with_reducible refine Below.drew ?_) | (with_reducible exact Ge.le) | go_size))⟩)
          · rw [Bool.and_eq_true] at hff
            exact mul1_fin a b dir ha hb hff.1 hff.2 za zb
    · intro w
      have hS : mulS a b dir = QN := by unfold mulS; rw [nb]; simp
      rw [hS]
      rw [na] at i1
      rw [nb] at i2
      clear hS na nb ha hb f1 f2
      go_enter Try.func47, Try.ntmps47
      go_wp2_with (first
        | (go_at_call 105; refine (n1.go _).mono ?_; rintro _ _ ⟨k, rfl, rfl⟩)
        | (go_at_call 43; first | ((with_reducible refine (i1.go _).mono ?_); rintro _ _ ⟨k, rfl, rfl⟩) | ((with_reducible refine (i2.go _).mono ?_); rintro _ _ ⟨k, rfl, rfl⟩)))
      go_ret
      exact ⟨rfl, by (repeat' (first | (with_reducible exact Below.refl _ _) | (with_reducible assumption) | (with_reducible refine Later.belowOf _ ?_ ?_) | (with_reducible refine Below.alloc ?_ ?_ _) | (with_reducible refine Below.setCell ?_ ?_ _) | (with_reducible refine Below.drewN' _ ?_) | (with_reducible refine Below.drew ?_) | (with_reducible exact Ge.le) | go_size))⟩
  · intro w
    have hS : mulS a b dir = QN := by unfold mulS; rw [na]; simp
    rw [hS]
    rw [na] at i1
    clear hS na ha hb f1 f2 i2
    go_enter Try.func47, Try.ntmps47
    go_wp2_with (first
      | (go_at_call 105; refine (n1.go _).mono ?_; rintro _ _ ⟨k, rfl, rfl⟩)
      | (go_at_call 43; ((with_reducible refine (i1.go _).mono ?_); rintro _ _ ⟨k, rfl, rfl⟩)))
    go_ret
    exact ⟨rfl, by (repeat' (first | (with_reducible exact Below.refl _ _) | (with_reducible assumption) | (with_reducible refine Later.belowOf _ ?_ ?_) | (with_reducible refine Below.alloc ?_ ?_ _) | (with_reducible refine Below.setCell ?_ ?_ _) | (with_reducible refine Below.drewN' _ ?_) | (with_reducible refine Below.drew ?_) | (with_reducible exact Ge.le) | go_size))⟩
end Go.Proofs.Ytjdccbigaahkeaa
