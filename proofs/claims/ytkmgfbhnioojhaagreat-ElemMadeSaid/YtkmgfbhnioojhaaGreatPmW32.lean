/- Contracts: the reference's sums, differences, products. -/
import Derived.Test.YtkmgfbhnioojhaaGreatPmW31
import Derived.Test.YtkmgfbhnioojhaaGreatPmEnd
namespace Go.Proofs.YtkmgfbhnioojhaaGreat
set_option linter.unusedSimpArgs false
set_option linter.unusedVariables false
open Go.RowKit
open Fl

set_option maxHeartbeats 1000000 in
theorem finite_any (x : Nat) (hx : x < 18446744073709551616) : Gives 187 #[(.float .f64 x)] (.bool (finB x)) := by
  intro w
  have s1 := split1_any x hx
  have hn : nan x = true → finB x = false := by
    intro h
    rw [finB_false]
    have := nan_true.1 h
    omega
  generalize qNeg x = a at *
  generalize qM x = b at *
  generalize qE x = c at *
  cases h : nan x
  · clear hn hx
    go_enter Tryz.func187, Tryz.ntmps187
    go_wp2_with (first | (go_at_call 128; refine (s1.go _).mono ?_; rintro _ _ ⟨k, rfl, rfl⟩) | (go_at_call 109; refine ((isNum_any _).go _).mono ?_; rintro _ _ ⟨k1, rfl, rfl⟩))
    go_ret
    exact ⟨by simp [h], by (repeat' first | (with_reducible first | exact Below.refl _ _ | assumption | refine Later.belowOf _ ?_ ?_ | refine Below.alloc ?_ ?_ _ | refine Below.setCell ?_ ?_ _ | refine Below.drewN' _ ?_ | refine Below.drew ?_ | exact Ge.le) | go_size)⟩
  · have hf := hn h
    rw [hf] at s1 ⊢
    clear hn hx
    go_enter Tryz.func187, Tryz.ntmps187
    go_wp2_with (first | (go_at_call 128; refine (s1.go _).mono ?_; rintro _ _ ⟨k, rfl, rfl⟩) | (go_at_call 109; refine ((isNum_any _).go _).mono ?_; rintro _ _ ⟨k1, rfl, rfl⟩))
    go_ret
    exact ⟨by simp [h], by (repeat' first | (with_reducible first | exact Below.refl _ _ | assumption | refine Later.belowOf _ ?_ ?_ | refine Below.alloc ?_ ?_ _ | refine Below.setCell ?_ ?_ _ | refine Below.drewN' _ ?_ | refine Below.drew ?_ | exact Ge.le) | go_size)⟩

set_option maxHeartbeats 1000000 in
theorem inf1_any (neg : Bool) : Gives 188 #[.bool neg] (.float .f64 (infW neg)) := by
  intro w
  have a1 := at_any 9218868437227405312 (by decide) (by decide)
  have a2 := at_any (-9218868437227405312) (by decide) (by decide)
  rw [show bitsOf 9218868437227405312 = infW false by decide] at a1
  rw [show bitsOf (-9218868437227405312) = infW true by decide] at a2
  cases neg
  all_goals
    go_enter Tryz.func188, Tryz.ntmps188
    go_wp2_with (go_at_call 111; first | ((with_reducible refine (a1.go _).mono ?_); rintro _ _ ⟨k, rfl, rfl⟩) | ((with_reducible refine (a2.go _).mono ?_); rintro _ _ ⟨k, rfl, rfl⟩))
    go_ret
    exact ⟨rfl, by (repeat' first | (with_reducible first | exact Below.refl _ _ | assumption | refine Later.belowOf _ ?_ ?_ | refine Below.alloc ?_ ?_ _ | refine Below.setCell ?_ ?_ _ | refine Below.drewN' _ ?_ | refine Below.drew ?_ | exact Ge.le) | go_size)⟩

/-- Of two finite ones. -/
theorem fin_sum (a b : Nat) (fa : finB a = true) (fb : finB b = true) (A B : Option Addr) (ak ac bk bc : Nat) (w : World) (ha : BigS w (.slice A ak ac) (fM a)) (hb : BigS w (.slice B bk bc) (fM b)) :
    ∃ r p g, nv 1074 r p g = val a + val b ∧ p < bp 2000 ∧ -1074 ≤ g ∧ g ≤ 1024 ∧ Calls Tryz.prog 79 #[(.agg #[.bool (qNeg a), (.slice A ak ac), .int .i64 (qE a)]), (.agg #[.bool (qNeg b), (.slice B bk bc), .int .i64 (qE b)])] w (NumRes r p g w) := by
  have sz : ∀ (m : Nat) (d : Int), m < bp 2 → d ≤ 2100 → m * 2 ^ d.toNat < bp 80 := by
    intro m d hm hd
    have a1 : m * 2 ^ d.toNat < bp 2 * 2 ^ d.toNat := Nat.mul_lt_mul_of_pos_right hm (Nat.two_pow_pos _)
    rw [← pw_eq] at a1 ⊢
    rw [bp_pw, ← pw_add] at a1
    rw [bp_pw]
    refine Nat.lt_of_lt_of_le a1 (pw_le ?_)
    omega
  have ea := qE_range a
  have eb := qE_range b
  have s1 := sz (fM a) (qE a - min (qE a) (qE b)) (fM_bp a) (by omega)
  have s2 := sz (fM b) (qE b - min (qE a) (qE b)) (fM_bp b) (by omega)
  have b80 : bp 80 ≤ bp 30000 := bp_le (by decide)
  have b2 : bp 2 ≤ bp 30000 := bp_le (by decide)
  have b81 : 2 * bp 80 ≤ bp 2000 := by
    have : bp 2000 = bp 1920 * bp 80 := by rw [← bp_add]
    rw [this]
    refine Nat.mul_le_mul_right _ ?_
    have : bp 1 ≤ bp 1920 := bp_le (by decide)
    rw [bp_succ, bp_zero] at this
    omega
  have ma := fM_bp a
  have mb := fM_bp b
  obtain ⟨r, p, g, h3, h4, h5, h6⟩ := bsum_any (K := 1074) (qNeg a) (qNeg b) A ak ac B bk bc (fM a) (fM b) (qE a) (qE b) w ha hb (by omega) (by omega) (by omega) (by omega) (by omega) (by omega) (by omega) (by omega) (by decide) (by omega) (by omega)
  exact ⟨r, p, g, by rw [h3, nv_float a fa, nv_float b fb], by omega, by omega, by omega, h6⟩

set_option maxHeartbeats 4000000 in
set_option maxRecDepth 100000 in
theorem add1_fin (a b : Nat) (dir : Int) (ha : a < 18446744073709551616) (hb : b < 18446744073709551616) (fa : finB a = true) (fb : finB b = true) : Gives 108 #[(.float .f64 a), (.float .f64 b), .int .i64 dir] (.float .f64 (addS a b dir)) := by
  intro w
  have na : nan a = false := nan_false.2 (Nat.le_of_lt (finB_rung.1 fa))
  have nb : nan b = false := nan_false.2 (Nat.le_of_lt (finB_rung.1 fb))
  have f1 := finite_any a ha
  have f2 := finite_any b hb
  rw [fa] at f1
  rw [fb] at f2
  have i1 := isNum_any a
  have i2 := isNum_any b
  rw [na] at i1
  rw [nb] at i2
  have FL1 := Lib.hid (fun w => NumRes.go (float_any a ha w))
  have FL2 := Lib.hid (fun w => NumRes.go (float_any b hb w))
  have FA := Lib.hid fa
  have FB := Lib.hid fb
  have hS : addS a b dir = rnd (val a + val b) 1 dir := by unfold addS; rw [fa, fb]; rfl
  rw [hS]
  clear hS ha hb fa fb
  generalize hx : rnd (val a + val b) 1 dir = x
  have HX := Lib.hid hx
  clear hx
  go_enter Tryz.func108, Tryz.ntmps108
  go_wp2_with (first
    | (go_at_call 109; first | ((with_reducible refine (i1.go _).mono ?_); rintro _ _ ⟨k, rfl, rfl⟩) | ((with_reducible refine (i2.go _).mono ?_); rintro _ _ ⟨k, rfl, rfl⟩))
    | (go_at_call 187; first | ((with_reducible refine (f1.go _).mono ?_); rintro _ _ ⟨k, rfl, rfl⟩) | ((with_reducible refine (f2.go _).mono ?_); rintro _ _ ⟨k, rfl, rfl⟩))
    | (go_at_call 62; first | ((with_reducible refine (FL1.out _).mono ?_); rintro _ _ ⟨A1, k1, c1, q1, hq1, rfl, rfl⟩; have hq1' := hq1.out) | ((with_reducible refine (FL2.out _).mono ?_); rintro _ _ ⟨A2, k2, c2, q2, hq2, rfl, rfl⟩; have hq2' := hq2.out)))
  go_at_call 79
  obtain ⟨r, p, g, h1, h2, h3, h4, h5⟩ := fin_sum a b FA.out FB.out A1 A2 k1 c1 k2 c2 q2.val (Big.stays (hq1'.later q2)) (Big.stays hq2')
  refine (NumRes.go h5).mono ?_
  rintro _ _ ⟨A3, k3, c3, q3, hq3, rfl, rfl⟩
  have wh := FloatRes.go (bwhole_any r p g 0 dir A3 k3 c3 q3.val (Big.stays hq3.out) h2 (by omega) (by omega) (by decide) (by omega))
  rw [whole_sum r p g _ dir h3 h1, HX.out] at wh
  clear h5
  go_wp2_with (fail)
  go_at_call 189
  refine wh.mono ?_
  rintro _ _ ⟨q4, rfl, rfl⟩
  go_wp2
  go_ret
  exact ⟨rfl, by (repeat' first | (with_reducible first | exact Below.refl _ _ | assumption | refine Later.belowOf _ ?_ ?_ | refine Below.alloc ?_ ?_ _ | refine Below.setCell ?_ ?_ _ | refine Below.drewN' _ ?_ | refine Below.drew ?_ | exact Ge.le) | go_size)⟩

theorem feq_inf {a b : Nat} (na : nan a = false) (nb : nan b = false) (fa : finB a = false) (fb : finB b = false) : feq a b = decide (sgn a = sgn b) := by
  have ha := (read_inf fa na).2
  have hb := (read_inf fb nb).2
  unfold feq idx
  rw [na, nb, ha, hb]
  unfold INFR
  cases sgn a <;> cases sgn b <;> simp

theorem feq_fin {a b : Nat} (na : nan a = false) (nb : nan b = false) (fa : finB a = false) (fb : finB b = true) : feq a b = false := by
  have ha := (read_inf fa na).2
  have hb := finB_rung.1 fb
  unfold feq idx
  rw [na, nb, ha]
  unfold INFR at *
  cases sgn a <;> cases sgn b <;> simp <;> omega
theorem inf_same {a b : Nat} (ha : a < 18446744073709551616) (hb : b < 18446744073709551616) (na : nan a = false) (nb : nan b = false) (fa : finB a = false) (fb : finB b = false) (hs : sgn a = sgn b) : a = b := by
  rw [← infW_of ha (read_inf fa na).2, ← infW_of hb (read_inf fb nb).2, hs]

set_option maxHeartbeats 4000000 in
theorem add1_any (a b : Nat) (dir : Int) (ha : a < 18446744073709551616) (hb : b < 18446744073709551616) : Gives 108 #[(.float .f64 a), (.float .f64 b), .int .i64 dir] (.float .f64 (addS a b dir)) := by
  cases hff : finB a && finB b
  · intro w
    have f1 := finite_any a ha
    have f2 := finite_any b hb
    have i1 := isNum_any a
    have i2 := isNum_any b
    have n1 := math_NaN
    have hS : addS a b dir = if nan a || nan b then QN else if finB a then b else if finB b then a else if sgn a = sgn b then a else QN := by
      unfold addS; rw [hff]; rfl
    rw [hS]
    clear hS
    cases na : nan a
    · cases nb : nan b
      · rw [na] at i1
        rw [nb] at i2
        cases fa : finB a <;> cases fb : finB b
        · have hq := feq_inf na nb fa fb
          rw [fa] at f1
          rw [fb] at f2
          by_cases hs : sgn a = sgn b
          · rw [decide_eq_true hs] at hq
            simp only [Bool.or_false, Bool.false_eq_true, if_false, if_pos hs]
            obtain rfl := inf_same ha hb na nb fa fb hs
            clear na nb fa fb hs hff ha hb f2 i2
            go_enter Tryz.func108, Tryz.ntmps108
            go_wp2_with (first
              | (go_at_call 109; ((with_reducible refine (i1.go _).mono ?_); rintro _ _ ⟨k, rfl, rfl⟩))
              | (go_at_call 187; ((with_reducible refine (f1.go _).mono ?_); rintro _ _ ⟨k, rfl, rfl⟩)))
            go_ret
            exact ⟨rfl, by (repeat' first | (with_reducible first | exact Below.refl _ _ | assumption | refine Later.belowOf _ ?_ ?_ | refine Below.alloc ?_ ?_ _ | refine Below.setCell ?_ ?_ _ | refine Below.drewN' _ ?_ | refine Below.drew ?_ | exact Ge.le) | go_size)⟩
          · rw [decide_eq_false hs] at hq
            simp only [Bool.or_false, Bool.false_eq_true, if_false, if_neg hs]
            clear na nb fa fb hs hff ha hb
            go_enter Tryz.func108, Tryz.ntmps108
            go_wp2_with (first
              | (go_at_call 186; refine (n1.go _).mono ?_; rintro _ _ ⟨k, rfl, rfl⟩)
              | (go_at_call 109; first | ((with_reducible refine (i1.go _).mono ?_); rintro _ _ ⟨k, rfl, rfl⟩) | ((with_reducible refine (i2.go _).mono ?_); rintro _ _ ⟨k, rfl, rfl⟩))
              | (go_at_call 187; first | ((with_reducible refine (f1.go _).mono ?_); rintro _ _ ⟨k, rfl, rfl⟩) | ((with_reducible refine (f2.go _).mono ?_); rintro _ _ ⟨k, rfl, rfl⟩)))
            go_ret
            exact ⟨rfl, by (repeat' first | (with_reducible first | exact Below.refl _ _ | assumption | refine Later.belowOf _ ?_ ?_ | refine Below.alloc ?_ ?_ _ | refine Below.setCell ?_ ?_ _ | refine Below.drewN' _ ?_ | refine Below.drew ?_ | exact Ge.le) | go_size)⟩
        all_goals
          rw [fa] at f1
          rw [fb] at f2
          first
            | (rw [fa, fb] at hff; cases hff; done)
            | (simp only [Bool.or_false, Bool.false_eq_true, if_false, if_true]
               have hq : feq a b = false := by first | exact feq_fin na nb fa fb | (unfold feq; have := feq_fin nb na fb fa; unfold feq at this; rw [Bool.and_comm (!nan a)]; rw [show decide (idx a = idx b) = decide (idx b = idx a) by rw [Bool.eq_iff_iff]; simp only [decide_eq_true_eq]; exact eq_comm]; exact this)
               clear na nb fa fb hff ha hb
               go_enter Tryz.func108, Tryz.ntmps108
               go_wp2_with (first
                 | (go_at_call 186; refine (n1.go _).mono ?_; rintro _ _ ⟨k, rfl, rfl⟩)
                 | (go_at_call 109; first | ((with_reducible refine (i1.go _).mono ?_); rintro _ _ ⟨k, rfl, rfl⟩) | ((with_reducible refine (i2.go _).mono ?_); rintro _ _ ⟨k, rfl, rfl⟩))
                 | (go_at_call 187; first | ((with_reducible refine (f1.go _).mono ?_); rintro _ _ ⟨k, rfl, rfl⟩) | ((with_reducible refine (f2.go _).mono ?_); rintro _ _ ⟨k, rfl, rfl⟩)))
               go_ret
               exact ⟨rfl, by (repeat' first | (with_reducible first | exact Below.refl _ _ | assumption | refine Later.belowOf _ ?_ ?_ | refine Below.alloc ?_ ?_ _ | refine Below.setCell ?_ ?_ _ | refine Below.drewN' _ ?_ | refine Below.drew ?_ | exact Ge.le) | go_size)⟩)
      · rw [na] at i1
        rw [nb] at i2
        simp only [Bool.or_true, if_true]
        clear na nb hff ha hb f1 f2
        go_enter Tryz.func108, Tryz.ntmps108
        go_wp2_with (first
          | (go_at_call 186; refine (n1.go _).mono ?_; rintro _ _ ⟨k, rfl, rfl⟩)
          | (go_at_call 109; first | ((with_reducible refine (i1.go _).mono ?_); rintro _ _ ⟨k, rfl, rfl⟩) | ((with_reducible refine (i2.go _).mono ?_); rintro _ _ ⟨k, rfl, rfl⟩)))
        go_ret
        exact ⟨rfl, by (repeat' first | (with_reducible first | exact Below.refl _ _ | assumption | refine Later.belowOf _ ?_ ?_ | refine Below.alloc ?_ ?_ _ | refine Below.setCell ?_ ?_ _ | refine Below.drewN' _ ?_ | refine Below.drew ?_ | exact Ge.le) | go_size)⟩
    · rw [na] at i1
      simp only [Bool.true_or, if_true]
      clear na hff ha hb f1 f2 i2
      go_enter Tryz.func108, Tryz.ntmps108
      go_wp2_with (first
        | (go_at_call 186; refine (n1.go _).mono ?_; rintro _ _ ⟨k, rfl, rfl⟩)
        | (go_at_call 109; ((with_reducible refine (i1.go _).mono ?_); rintro _ _ ⟨k, rfl, rfl⟩)))
      go_ret
      exact ⟨rfl, by (repeat' first | (with_reducible first | exact Below.refl _ _ | assumption | refine Later.belowOf _ ?_ ?_ | refine Below.alloc ?_ ?_ _ | refine Below.setCell ?_ ?_ _ | refine Below.drewN' _ ?_ | refine Below.drew ?_ | exact Ge.le) | go_size)⟩
  · rw [Bool.and_eq_true] at hff
    exact add1_fin a b dir ha hb hff.1 hff.2
end Go.Proofs.YtkmgfbhnioojhaaGreat

/- Contracts: the reference's differences, products, quotients, roots. -/
namespace Go.Proofs.YtkmgfbhnioojhaaGreat
set_option linter.unusedSimpArgs false
set_option linter.unusedVariables false
open Go.RowKit
open Fl

theorem feq_null {x : Nat} (h : nan x = false) : feq x 0 = decide (rung x = 0) := by
  unfold feq
  have z : nan 0 = false := by decide
  have z2 : idx 0 = 0 := by decide
  rw [h, z, z2]
  simp only [Bool.not_false, Bool.true_and]
  rw [Bool.eq_iff_iff]; simp only [decide_eq_true_eq]; exact idx_zero_iff x
theorem flt_sgn {x : Nat} (h : nan x = false) (h0 : rung x ≠ 0) : flt x 0 = sgn x := by
  rw [flt_zero h]; unfold pNeg; simp [h0]

set_option maxHeartbeats 4000000 in
set_option maxRecDepth 100000 in
theorem mul1_fin (a b : Nat) (dir : Int) (ha : a < 18446744073709551616) (hb : b < 18446744073709551616) (fa : finB a = true) (fb : finB b = true) (za : rung a ≠ 0) (zb : rung b ≠ 0) : Gives 107 #[(.float .f64 a), (.float .f64 b), .int .i64 dir] (.float .f64 (mulS a b dir)) := by
  intro w
  have na : nan a = false := nan_false.2 (Nat.le_of_lt (finB_rung.1 fa))
  have nb : nan b = false := nan_false.2 (Nat.le_of_lt (finB_rung.1 fb))
  have f1 := finite_any a ha
  have f2 := finite_any b hb
  rw [fa] at f1
  rw [fb] at f2
  have i1 := isNum_any a
  have i2 := isNum_any b
  rw [na] at i1
  rw [nb] at i2
  have q1 := feq_null na
  have q2 := feq_null nb
  rw [decide_eq_false za] at q1
  rw [decide_eq_false zb] at q2
  have FL1 := Lib.hid (fun w => NumRes.go (float_any a ha w))
  have FL2 := Lib.hid (fun w => NumRes.go (float_any b hb w))
  have ra := qE_range a
  have rb := qE_range b
  have hpv : nv (1074 + 1074) (prodS (qNeg a) (qNeg b) (fM a) (fM b)) (fM a * fM b) (prodE (fM a) (fM b) (qE a) (qE b)) = val a * val b := by
    rw [prod_amount _ _ _ _ _ _ (by omega) (by omega), nv_float a fa, nv_float b fb]
  have hS : mulS a b dir = rnd (val a * val b) (pw 1074) dir := by
    unfold mulS; rw [na, nb, fa, fb]; simp [za, zb]
  have hpe : -2148 ≤ prodE (fM a) (fM b) (qE a) (qE b) ∧ prodE (fM a) (fM b) (qE a) (qE b) ≤ 2000 := by unfold prodE; split <;> omega
  have ma := fM_bp a
  have mb := fM_bp b
  have mab : fM a * fM b < bp 2000 := by
    have := Nat.mul_lt_mul'' ma mb
    rw [← bp_add] at this
    exact Nat.lt_of_lt_of_le this (bp_le (by decide))
  have wh := fun (A : Option Addr) (k c : Nat) (w1 : World) (h : Big w1 (.slice A k c) (fM a * fM b)) => FloatRes.go (bwhole_any (prodS (qNeg a) (qNeg b) (fM a) (fM b)) (fM a * fM b) (prodE (fM a) (fM b) (qE a) (qE b)) 1074 dir A k c w1 h.stays mab (by omega) (by omega) (by decide) (by omega))
  rw [whole_prod _ _ _ _ dir hpe.1 hpv, ← hS] at wh
  have pr := fun (A : Option Addr) (k c : Nat) (B : Option Addr) (l d : Nat) (w1 : World) (h1 : Big w1 (.slice A k c) (fM a)) (h2 : Big w1 (.slice B l d) (fM b)) => NumRes.go (product_any (qNeg a) (qNeg b) A k c B l d (fM a) (fM b) (qE a) (qE b) w1 h1.stays h2.stays (Nat.lt_of_lt_of_le ma (bp_le (by decide))) (Nat.lt_of_lt_of_le mb (bp_le (by decide))) (by omega) (by omega) (by omega) (by omega))
  have WH := Lib.hid wh
  have PR := Lib.hid pr
  clear wh pr hS hpv hpe ma mb mab ha hb fa fb na nb za zb
  generalize mulS a b dir = x at *
  go_enter Tryz.func107, Tryz.ntmps107
  go_wp2_with (first
    | (go_at_call 109; first | ((with_reducible refine (i1.go _).mono ?_); rintro _ _ ⟨k, rfl, rfl⟩) | ((with_reducible refine (i2.go _).mono ?_); rintro _ _ ⟨k, rfl, rfl⟩))
    | (go_at_call 187; first | ((with_reducible refine (f1.go _).mono ?_); rintro _ _ ⟨k, rfl, rfl⟩) | ((with_reducible refine (f2.go _).mono ?_); rintro _ _ ⟨k, rfl, rfl⟩))
    | (go_at_call 62; first | ((with_reducible refine (FL1.out _).mono ?_); rintro _ _ ⟨A1, k1, c1, q3, hq1, rfl, rfl⟩; have hq1' := hq1.out) | ((with_reducible refine (FL2.out _).mono ?_); rintro _ _ ⟨A2, k2, c2, q4, hq2, rfl, rfl⟩; have hq2' := hq2.out)))
  go_at_call 67
  refine (PR.out A1 k1 c1 A2 k2 c2 q4.val (hq1'.later q4) hq2').mono ?_
  rintro _ _ ⟨A3, k3, c3, q5, hq3, rfl, rfl⟩
  go_wp2_with (fail)
  go_at_call 189
  refine (WH.out A3 k3 c3 q5.val hq3.out).mono ?_
  rintro _ _ ⟨q6, rfl, rfl⟩
  go_wp2
  go_ret
  exact ⟨rfl, by (repeat' first | (with_reducible first | exact Below.refl _ _ | assumption | refine Later.belowOf _ ?_ ?_ | refine Below.alloc ?_ ?_ _ | refine Below.setCell ?_ ?_ _ | refine Below.drewN' _ ?_ | refine Below.drew ?_ | exact Ge.le) | go_size)⟩

set_option maxHeartbeats 8000000 in
theorem mul1_any (a b : Nat) (dir : Int) (ha : a < 18446744073709551616) (hb : b < 18446744073709551616) : Gives 107 #[(.float .f64 a), (.float .f64 b), .int .i64 dir] (.float .f64 (mulS a b dir)) := by
  have f1 := finite_any a ha
  have f2 := finite_any b hb
  have i1 := isNum_any a
  have i2 := isNum_any b
  have n1 := math_NaN
  cases na : nan a
  · cases nb : nan b
    · by_cases za : rung a = 0
      · intro w
        have hS : mulS a b dir = 0 := by unfold mulS; rw [na, nb]; simp [za]
        have q1 := feq_null na
        rw [decide_eq_true za] at q1
        rw [hS]
        rw [na] at i1
        rw [nb] at i2
        clear hS na nb za ha hb f1 f2
        go_enter Tryz.func107, Tryz.ntmps107
        go_wp2_with (go_at_call 109; first | ((with_reducible refine (i1.go _).mono ?_); rintro _ _ ⟨k, rfl, rfl⟩) | ((with_reducible refine (i2.go _).mono ?_); rintro _ _ ⟨k, rfl, rfl⟩))
        go_ret
        exact ⟨rfl, by (repeat' first | (with_reducible first | exact Below.refl _ _ | assumption | refine Later.belowOf _ ?_ ?_ | refine Below.alloc ?_ ?_ _ | refine Below.setCell ?_ ?_ _ | refine Below.drewN' _ ?_ | refine Below.drew ?_ | exact Ge.le) | go_size)⟩
      · by_cases zb : rung b = 0
        · intro w
          have hS : mulS a b dir = 0 := by unfold mulS; rw [na, nb]; simp [zb]
          have q1 := feq_null na
          rw [decide_eq_false za] at q1
          have q2 := feq_null nb
          rw [decide_eq_true zb] at q2
          rw [hS]
          rw [na] at i1
          rw [nb] at i2
          clear hS na nb za zb ha hb f1 f2
          go_enter Tryz.func107, Tryz.ntmps107
          go_wp2_with (go_at_call 109; first | ((with_reducible refine (i1.go _).mono ?_); rintro _ _ ⟨k, rfl, rfl⟩) | ((with_reducible refine (i2.go _).mono ?_); rintro _ _ ⟨k, rfl, rfl⟩))
          go_ret
          exact ⟨rfl, by (repeat' first | (with_reducible first | exact Below.refl _ _ | assumption | refine Later.belowOf _ ?_ ?_ | refine Below.alloc ?_ ?_ _ | refine Below.setCell ?_ ?_ _ | refine Below.drewN' _ ?_ | refine Below.drew ?_ | exact Ge.le) | go_size)⟩
        · cases hff : finB a && finB b
          · intro w
            have hS : mulS a b dir = infW (sgn a ^^ sgn b) := by unfold mulS; rw [na, nb, hff]; simp [za, zb]
            have q1 := feq_null na
            rw [decide_eq_false za] at q1
            have q2 := feq_null nb
            rw [decide_eq_false zb] at q2
            have l1 := flt_sgn na za
            have l2 := flt_sgn nb zb
            rw [hS]
            rw [na] at i1
            rw [nb] at i2
            clear hS na nb za zb ha hb
            cases fa : finB a <;> cases fb : finB b <;> cases sa : sgn a <;> cases sb : sgn b
            all_goals first
              | (rw [fa, fb] at hff; cases hff; done)
              | (rw [fa] at f1
                 rw [fb] at f2
                 rw [sa] at l1
                 rw [sb] at l2
                 clear fa fb sa sb hff
                 have in1 := inf1_any true
                 have in2 := inf1_any false
                 go_enter Tryz.func107, Tryz.ntmps107
                 go_wp2_with (first
                   | (go_at_call 109; first | ((with_reducible refine (i1.go _).mono ?_); rintro _ _ ⟨k, rfl, rfl⟩) | ((with_reducible refine (i2.go _).mono ?_); rintro _ _ ⟨k, rfl, rfl⟩))
                   | (go_at_call 187; first | ((with_reducible refine (f1.go _).mono ?_); rintro _ _ ⟨k, rfl, rfl⟩) | ((with_reducible refine (f2.go _).mono ?_); rintro _ _ ⟨k, rfl, rfl⟩))
                   | (go_at_call 188; first | ((with_reducible refine (in1.go _).mono ?_); rintro _ _ ⟨k, rfl, rfl⟩) | ((with_reducible refine (in2.go _).mono ?_); rintro _ _ ⟨k, rfl, rfl⟩)))
                 go_ret
                 exact ⟨rfl, by (repeat' first | (with_reducible first | exact Below.refl _ _ | assumption | refine Later.belowOf _ ?_ ?_ | refine Below.alloc ?_ ?_ _ | refine Below.setCell ?_ ?_ _ | refine Below.drewN' _ ?_ | refine Below.drew ?_ | exact Ge.le) | go_size)⟩)
          · rw [Bool.and_eq_true] at hff
            exact mul1_fin a b dir ha hb hff.1 hff.2 za zb
    · intro w
      have hS : mulS a b dir = QN := by unfold mulS; rw [nb]; simp
      rw [hS]
      rw [na] at i1
      rw [nb] at i2
      clear hS na nb ha hb f1 f2
      go_enter Tryz.func107, Tryz.ntmps107
      go_wp2_with (first
        | (go_at_call 186; refine (n1.go _).mono ?_; rintro _ _ ⟨k, rfl, rfl⟩)
        | (go_at_call 109; first | ((with_reducible refine (i1.go _).mono ?_); rintro _ _ ⟨k, rfl, rfl⟩) | ((with_reducible refine (i2.go _).mono ?_); rintro _ _ ⟨k, rfl, rfl⟩)))
      go_ret
      exact ⟨rfl, by (repeat' first | (with_reducible first | exact Below.refl _ _ | assumption | refine Later.belowOf _ ?_ ?_ | refine Below.alloc ?_ ?_ _ | refine Below.setCell ?_ ?_ _ | refine Below.drewN' _ ?_ | refine Below.drew ?_ | exact Ge.le) | go_size)⟩
  · intro w
    have hS : mulS a b dir = QN := by unfold mulS; rw [na]; simp
    rw [hS]
    rw [na] at i1
    clear hS na ha hb f1 f2 i2
    go_enter Tryz.func107, Tryz.ntmps107
    go_wp2_with (first
      | (go_at_call 186; refine (n1.go _).mono ?_; rintro _ _ ⟨k, rfl, rfl⟩)
      | (go_at_call 109; ((with_reducible refine (i1.go _).mono ?_); rintro _ _ ⟨k, rfl, rfl⟩)))
    go_ret
    exact ⟨rfl, by (repeat' first | (with_reducible first | exact Below.refl _ _ | assumption | refine Later.belowOf _ ?_ ?_ | refine Below.alloc ?_ ?_ _ | refine Below.setCell ?_ ?_ _ | refine Below.drewN' _ ?_ | refine Below.drew ?_ | exact Ge.le) | go_size)⟩
end Go.Proofs.YtkmgfbhnioojhaaGreat

/- Contracts: the reference's quotients, roots. -/
namespace Go.Proofs.YtkmgfbhnioojhaaGreat
set_option linter.unusedSimpArgs false
set_option linter.unusedVariables false
open Go.RowKit
open Fl

theorem fM_zero {x : Nat} (hf : finB x = true) : fM x = 0 ↔ rung x = 0 := by
  unfold fM qM pM
  rw [hf]
  simp only [if_true]
  rw [Int.toNat_natCast]
  exact mag_zero

set_option maxHeartbeats 4000000 in
set_option maxRecDepth 100000 in
theorem div1_fin (a b : Nat) (dir : Int) (ha : a < 18446744073709551616) (hb : b < 18446744073709551616) (fa : finB a = true) (fb : finB b = true) (zb : rung b ≠ 0) : Gives 260 #[(.float .f64 a), (.float .f64 b), .int .i64 dir] (.float .f64 (divS a b dir)) := by
  intro w
  have na : nan a = false := nan_false.2 (Nat.le_of_lt (finB_rung.1 fa))
  have nb : nan b = false := nan_false.2 (Nat.le_of_lt (finB_rung.1 fb))
  have f1 := finite_any a ha
  have f2 := finite_any b hb
  rw [fa] at f1
  rw [fb] at f2
  have i1 := isNum_any a
  have i2 := isNum_any b
  rw [na] at i1
  rw [nb] at i2
  have q2 := feq_null nb
  rw [decide_eq_false zb] at q2
  have FL1 := Lib.hid (fun w => NumRes.go (float_any a ha w))
  have FL2 := Lib.hid (fun w => NumRes.go (float_any b hb w))
  have ra := qE_range a
  have rb := qE_range b
  have hS : divS a b dir = rnd (val a * (if sgn b then -1 else 1) * (pw 1074 : Nat)) (G (rung b)) dir := by
    unfold divS; rw [na, nb, fa, fb]; simp [zb]
  have hq := quo_eq (qNeg a) (fM a) (qE a) a b dir (by omega) (nv_float a fa) zb
  rw [← hS] at hq
  have ma := Nat.lt_of_lt_of_le (fM_bp a) (bp_le (show 2 ≤ 2000 by decide))
  have mb := Nat.lt_of_lt_of_le (fM_bp b) (bp_le (show 2 ≤ 100 by decide))
  have mz : fM b ≠ 0 := fun h => zb ((fM_zero fb).1 h)
  have rd := fun (A : Option Addr) (k c : Nat) (B : Option Addr) (l d : Nat) (w1 : World) (h1 : Big w1 (.slice A k c) (fM a)) (h2 : Big w1 (.slice B l d) (fM b)) =>
    FloatRes.go (rounded_any _ _ dir _ _ _ _ _ _ _ _ _ _ _ w1 (oracleQ (qNeg a) (qNeg b) (fM a) (fM b) (qE a) (qE b) 1074 A B k c l d w1 h1.stays h2.stays ma mb mz (by omega) (by omega) (by omega) (by omega) (by decide) (by omega) (by omega)))
  rw [nv_float b fb, hq] at rd
  have RD := Lib.hid rd
  clear rd hS hq ma mb mz ha hb fa fb na nb zb
  generalize divS a b dir = x at *
  go_enter Tryz.func260, Tryz.ntmps260
  go_wp2_with (first
    | (go_at_call 109; first | ((with_reducible refine (i1.go _).mono ?_); rintro _ _ ⟨k, rfl, rfl⟩) | ((with_reducible refine (i2.go _).mono ?_); rintro _ _ ⟨k, rfl, rfl⟩))
    | (go_at_call 187; first | ((with_reducible refine (f1.go _).mono ?_); rintro _ _ ⟨k, rfl, rfl⟩) | ((with_reducible refine (f2.go _).mono ?_); rintro _ _ ⟨k, rfl, rfl⟩))
    | (go_at_call 62; first | ((with_reducible refine (FL1.out _).mono ?_); rintro _ _ ⟨A1, k1, c1, q3, hq1, rfl, rfl⟩; have hq1' := hq1.out) | ((with_reducible refine (FL2.out _).mono ?_); rintro _ _ ⟨A2, k2, c2, q4, hq2, rfl, rfl⟩; have hq2' := hq2.out)))
  go_at_call 255
  refine (RD.out A1 k1 c1 A2 k2 c2 q4.val (hq1'.later q4) hq2').mono ?_
  rintro _ _ ⟨q6, rfl, rfl⟩
  go_wp2
  go_ret
  exact ⟨rfl, by (repeat' first | (with_reducible first | exact Below.refl _ _ | assumption | refine Later.belowOf _ ?_ ?_ | refine Below.alloc ?_ ?_ _ | refine Below.setCell ?_ ?_ _ | refine Below.drewN' _ ?_ | refine Below.drew ?_ | exact Ge.le) | go_size)⟩

set_option maxHeartbeats 8000000 in
theorem div1_any (a b : Nat) (dir : Int) (ha : a < 18446744073709551616) (hb : b < 18446744073709551616) : Gives 260 #[(.float .f64 a), (.float .f64 b), .int .i64 dir] (.float .f64 (divS a b dir)) := by
  have f1 := finite_any a ha
  have f2 := finite_any b hb
  have i1 := isNum_any a
  have i2 := isNum_any b
  have n1 := math_NaN
  cases na : nan a
  · cases nb : nan b
    · by_cases zb : rung b = 0
      · intro w
        have hS : divS a b dir = QN := by unfold divS; rw [na, nb]; simp [zb]
        have q2 := feq_null nb
        rw [decide_eq_true zb] at q2
        rw [hS]
        rw [na] at i1
        rw [nb] at i2
        clear hS na nb zb ha hb f1 f2
        go_enter Tryz.func260, Tryz.ntmps260
        go_wp2_with (first
          | (go_at_call 186; refine (n1.go _).mono ?_; rintro _ _ ⟨k, rfl, rfl⟩)
          | (go_at_call 109; first | ((with_reducible refine (i1.go _).mono ?_); rintro _ _ ⟨k, rfl, rfl⟩) | ((with_reducible refine (i2.go _).mono ?_); rintro _ _ ⟨k, rfl, rfl⟩)))
        go_ret
        exact ⟨rfl, by (repeat' first | (with_reducible first | exact Below.refl _ _ | assumption | refine Later.belowOf _ ?_ ?_ | refine Below.alloc ?_ ?_ _ | refine Below.setCell ?_ ?_ _ | refine Below.drewN' _ ?_ | refine Below.drew ?_ | exact Ge.le) | go_size)⟩
      · cases hff : finB a && finB b
        · intro w
          have hS : divS a b dir = if finB a then 0 else if finB b then infW (sgn a ^^ sgn b) else QN := by unfold divS; rw [na, nb, hff]; simp [zb]
          have q2 := feq_null nb
          rw [decide_eq_false zb] at q2
          have l2 := flt_sgn nb zb
          rw [hS]
          rw [nb] at i2
          cases fa : finB a
          · have za : rung a ≠ 0 := by rw [(read_inf fa na).2]; decide
            have l1 := flt_sgn na za
            rw [na] at i1
            clear hS na nb za zb ha hb
            cases fb : finB b <;> cases sa : sgn a <;> cases sb : sgn b
            all_goals
              rw [fa] at f1
              rw [fb] at f2
              rw [sa] at l1
              rw [sb] at l2
              clear fa fb sa sb hff
              have in1 := inf1_any true
              have in2 := inf1_any false
              go_enter Tryz.func260, Tryz.ntmps260
              go_wp2_with (first
                | (go_at_call 186; refine (n1.go _).mono ?_; rintro _ _ ⟨k, rfl, rfl⟩)
                | (go_at_call 109; first | ((with_reducible refine (i1.go _).mono ?_); rintro _ _ ⟨k, rfl, rfl⟩) | ((with_reducible refine (i2.go _).mono ?_); rintro _ _ ⟨k, rfl, rfl⟩))
                | (go_at_call 187; first | ((with_reducible refine (f1.go _).mono ?_); rintro _ _ ⟨k, rfl, rfl⟩) | ((with_reducible refine (f2.go _).mono ?_); rintro _ _ ⟨k, rfl, rfl⟩))
                | (go_at_call 188; first | ((with_reducible refine (in1.go _).mono ?_); rintro _ _ ⟨k, rfl, rfl⟩) | ((with_reducible refine (in2.go _).mono ?_); rintro _ _ ⟨k, rfl, rfl⟩)))
              go_ret
              exact ⟨rfl, by (repeat' first | (with_reducible first | exact Below.refl _ _ | assumption | refine Later.belowOf _ ?_ ?_ | refine Below.alloc ?_ ?_ _ | refine Below.setCell ?_ ?_ _ | refine Below.drewN' _ ?_ | refine Below.drew ?_ | exact Ge.le) | go_size)⟩
          · have fb : finB b = false := by cases h : finB b; rfl; rw [fa, h] at hff; cases hff
            rw [na] at i1
            rw [fa] at f1
            rw [fb] at f2
            clear hS na nb zb ha hb fa fb hff
            go_enter Tryz.func260, Tryz.ntmps260
            go_wp2_with (first
              | (go_at_call 109; first | ((with_reducible refine (i1.go _).mono ?_); rintro _ _ ⟨k, rfl, rfl⟩) | ((with_reducible refine (i2.go _).mono ?_); rintro _ _ ⟨k, rfl, rfl⟩))
              | (go_at_call 187; first | ((with_reducible refine (f1.go _).mono ?_); rintro _ _ ⟨k, rfl, rfl⟩) | ((with_reducible refine (f2.go _).mono ?_); rintro _ _ ⟨k, rfl, rfl⟩)))
            go_ret
            exact ⟨rfl, by (repeat' first | (with_reducible first | exact Below.refl _ _ | assumption | refine Later.belowOf _ ?_ ?_ | refine Below.alloc ?_ ?_ _ | refine Below.setCell ?_ ?_ _ | refine Below.drewN' _ ?_ | refine Below.drew ?_ | exact Ge.le) | go_size)⟩
        · rw [Bool.and_eq_true] at hff
          exact div1_fin a b dir ha hb hff.1 hff.2 zb
    · intro w
      have hS : divS a b dir = QN := by unfold divS; rw [nb]; simp
      rw [hS]
      rw [na] at i1
      rw [nb] at i2
      clear hS na nb ha hb f1 f2
      go_enter Tryz.func260, Tryz.ntmps260
      go_wp2_with (first
        | (go_at_call 186; refine (n1.go _).mono ?_; rintro _ _ ⟨k, rfl, rfl⟩)
        | (go_at_call 109; first | ((with_reducible refine (i1.go _).mono ?_); rintro _ _ ⟨k, rfl, rfl⟩) | ((with_reducible refine (i2.go _).mono ?_); rintro _ _ ⟨k, rfl, rfl⟩)))
      go_ret
      exact ⟨rfl, by (repeat' first | (with_reducible first | exact Below.refl _ _ | assumption | refine Later.belowOf _ ?_ ?_ | refine Below.alloc ?_ ?_ _ | refine Below.setCell ?_ ?_ _ | refine Below.drewN' _ ?_ | refine Below.drew ?_ | exact Ge.le) | go_size)⟩
  · intro w
    have hS : divS a b dir = QN := by unfold divS; rw [na]; simp
    rw [hS]
    rw [na] at i1
    clear hS na ha hb f1 f2 i2
    go_enter Tryz.func260, Tryz.ntmps260
    go_wp2_with (first
      | (go_at_call 186; refine (n1.go _).mono ?_; rintro _ _ ⟨k, rfl, rfl⟩)
      | (go_at_call 109; ((with_reducible refine (i1.go _).mono ?_); rintro _ _ ⟨k, rfl, rfl⟩)))
    go_ret
    exact ⟨rfl, by (repeat' first | (with_reducible first | exact Below.refl _ _ | assumption | refine Later.belowOf _ ?_ ?_ | refine Below.alloc ?_ ?_ _ | refine Below.setCell ?_ ?_ _ | refine Below.drewN' _ ?_ | refine Below.drew ?_ | exact Ge.le) | go_size)⟩

end Go.Proofs.YtkmgfbhnioojhaaGreat

/- Words for the laws of ulp: the same value, or no numbers both. -/
namespace Go.Proofs.YtkmgfbhnioojhaaGreat
set_option linter.unusedSimpArgs false
set_option linter.unusedVariables false
open Go.ChangeShapes Go.WideShapes Go.ChangeAt Go.RowKit Go.Joins
open Fl

/-! ### Parts -/

def eqP (a : Bool) (b c : Int) (d : Bool) (e f : Int) : Bool := (a == d) && ((b == e) && (c == f))
@[go_sem high] theorem eq_pa (a : Bool) (b c : Int) (d : Bool) (e f : Int) (w : World) : (Op.equalIn 10000 131 (.agg #[.bool a, .int .u64 b, .int .i64 c]) (.agg #[.bool d, .int .u64 e, .int .i64 f])).run Tryz.prog w = .ok (eqP a b c d e f) w := by
  have u1 := Tryz.underlying4
  have u2 := Tryz.underlying39
  have u3 := Tryz.underlying3
  have a1 := Tryz.isAgg4
  have a2 := Tryz.isAgg39
  have a3 := Tryz.isAgg3
  have z1 := Tryz.sizeOf4
  have z2 := Tryz.sizeOf39
  have z3 := Tryz.sizeOf3
  have hS : Tryz.prog.underlying 131 = some (.struct (Tryz.prog.fieldsOf 131)) := by kernel_rfl
  have hp : Tryz.prog.stoodInHeld 131 = false := by kernel_rfl
  rw [show (10000 : Nat) = 9999 + 1 from rfl, run_equalIn_agg w 9999 131 _ _ hS hp]
  simp only [Program.fieldsOf, Tryz.underlying131]
  unfold eqP
  go_simp
  by_cases h1 : a = d <;> by_cases h2 : b = e <;> by_cases h3 : c = f <;> simp [h1, h2, h3]

section
variable {H : Type} {enc : TypeId × Value → H} {W : World} {base : Nat} {sp : Nat → Bool} {held : Bool} {v : Value} {d : DataW H} {ps : List MemPlace}
end
end Go.Proofs.YtkmgfbhnioojhaaGreat
