/- Contracts: the reference's sums, differences, products. -/
import Derived.Test.YtjdccbigaahkeaaW31
namespace Go.Proofs.Ytjdccbigaahkeaa
set_option linter.unusedSimpArgs false
set_option linter.unusedVariables false
open Go.RowKit
open Fl

set_option maxHeartbeats 1000000 in
theorem finite_any (x : Nat) (hx : x < 18446744073709551616) : Gives 107 #[(.float .f64 x)] (.bool (finB x)) := by
  intro w
  have s1 := split1_any x hx
  have hn : nan x = true → finB x = false := by
    intro h
    rw [finB_false]
    have := nan_true.1 h
    omega
  generalize qNeg x = a at *
  generalize qM x = b at *
  generalize qE x = c at *
  cases h : nan x
  · clear hn hx
    go_enter Try.func107, Try.ntmps107
    go_wp2_with (first | (go_at_call 42; refine (s1.go _).mono ?_; rintro _ _ ⟨k, rfl, rfl⟩) | (go_at_call 43; refine ((isNum_any _).go _).mono ?_; rintro _ _ ⟨k1, rfl, rfl⟩))
    go_ret
    exact ⟨by simp [h], by (repeat' (first | (with_reducible exact Below.refl _ _) | (with_reducible assumption) | (with_reducible refine Later.belowOf _ ?_ ?_) | (with_reducible refine Below.alloc ?_ ?_ _) | (with_reducible refine Below.setCell ?_ ?_ _) | (with_reducible refine Below.drewN' _ ?_) | (with_reducible refine Below.drew ?_) | (with_reducible exact Ge.le) | go_size))⟩
  · have hf := hn h
    rw [hf] at s1 ⊢
    clear hn hx
    go_enter Try.func107, Try.ntmps107
    go_wp2_with (first | (go_at_call 42; refine (s1.go _).mono ?_; rintro _ _ ⟨k, rfl, rfl⟩) | (go_at_call 43; refine ((isNum_any _).go _).mono ?_; rintro _ _ ⟨k1, rfl, rfl⟩))
    go_ret
    exact ⟨by simp [h], by (repeat' (first | (with_reducible exact Below.refl _ _) | (with_reducible assumption) | (with_reducible refine Later.belowOf _ ?_ ?_) | (with_reducible refine Below.alloc ?_ ?_ _) | (with_reducible refine Below.setCell ?_ ?_ _) | (with_reducible refine Below.drewN' _ ?_) | (with_reducible refine Below.drew ?_) | (with_reducible exact Ge.le) | go_size))⟩

set_option maxHeartbeats 1000000 in
theorem inf1_any (neg : Bool) : Gives 108 #[.bool neg] (.float .f64 (infW neg)) := by
  intro w
  have a1 := at_any 9218868437227405312 (by decide) (by decide)
  have a2 := at_any (-9218868437227405312) (by decide) (by decide)
  rw [show bitsOf 9218868437227405312 = infW false by decide] at a1
  rw [show bitsOf (-9218868437227405312) = infW true by decide] at a2
  cases neg
  all_goals
    go_enter Try.func108, Try.ntmps108
    go_wp2_with (go_at_call 98; first | ((with_reducible refine (a1.go _).mono ?_); rintro _ _ ⟨k, rfl, rfl⟩) | ((with_reducible refine (a2.go _).mono ?_); rintro _ _ ⟨k, rfl, rfl⟩))
    go_ret
    exact ⟨rfl, by (repeat' (first | (with_reducible exact Below.refl _ _) | (with_reducible assumption) | (with_reducible refine Later.belowOf _ ?_ ?_) | (with_reducible refine Below.alloc ?_ ?_ _) | (with_reducible refine Below.setCell ?_ ?_ _) | (with_reducible refine Below.drewN' _ ?_) | (with_reducible refine Below.drew ?_) | (with_reducible exact Ge.le) | go_size))⟩

/-- Of two finite ones. -/
theorem fin_sum (a b : Nat) (fa : finB a = true) (fb : finB b = true) (A B : Option Addr) (ak ac bk bc : Nat) (w : World) (ha : BigS w (.slice A ak ac) (fM a)) (hb : BigS w (.slice B bk bc) (fM b)) :
    ∃ r p g, nv 1074 r p g = val a + val b ∧ p < bp 2000 ∧ -1074 ≤ g ∧ g ≤ 1024 ∧ Calls Try.prog 112 #[(.agg #[.bool (qNeg a), (.slice A ak ac), .int .i64 (qE a)]), (.agg #[.bool (qNeg b), (.slice B bk bc), .int .i64 (qE b)])] w (NumRes r p g w) := by
  have sz : ∀ (m : Nat) (d : Int), m < bp 2 → d ≤ 2100 → m * 2 ^ d.toNat < bp 80 := by
    intro m d hm hd
    have a1 : m * 2 ^ d.toNat < bp 2 * 2 ^ d.toNat := Nat.mul_lt_mul_of_pos_right hm (Nat.two_pow_pos _)
    rw [← pw_eq] at a1 ⊢
    rw [bp_pw, ← pw_add] at a1
    rw [bp_pw]
    refine Nat.lt_of_lt_of_le a1 (pw_le ?_)
    omega
  have ea := qE_range a
  have eb := qE_range b
  have s1 := sz (fM a) (qE a - min (qE a) (qE b)) (fM_bp a) (by omega)
  have s2 := sz (fM b) (qE b - min (qE a) (qE b)) (fM_bp b) (by omega)
  have b80 : bp 80 ≤ bp 30000 := bp_le (by decide)
  have b2 : bp 2 ≤ bp 30000 := bp_le (by decide)
  have b81 : 2 * bp 80 ≤ bp 2000 := by
    have : bp 2000 = bp 1920 * bp 80 := by rw [← bp_add]
    rw [this]
    refine Nat.mul_le_mul_right _ ?_
    have : bp 1 ≤ bp 1920 := bp_le (by decide)
    rw [bp_succ, bp_zero] at this
    omega
  have ma := fM_bp a
  have mb := fM_bp b
  obtain ⟨r, p, g, h3, h4, h5, h6⟩ := bsum_any (K := 1074) (qNeg a) (qNeg b) A ak ac B bk bc (fM a) (fM b) (qE a) (qE b) w ha hb (by omega) (by omega) (by omega) (by omega) (by omega) (by omega) (by omega) (by omega) (by decide) (by omega) (by omega)
  exact ⟨r, p, g, by rw [h3, nv_float a fa, nv_float b fb], by omega, by omega, by omega, h6⟩

set_option maxHeartbeats 4000000 in
set_option maxRecDepth 100000 in
theorem add1_fin (a b : Nat) (dir : Int) (ha : a < 18446744073709551616) (hb : b < 18446744073709551616) (fa : finB a = true) (fb : finB b = true) : Gives 49 #[(.float .f64 a), (.float .f64 b), .int .i64 dir] (.float .f64 (addS a b dir)) := by
  intro w
  have na : nan a = false := nan_false.2 (Nat.le_of_lt (finB_rung.1 fa))
  have nb : nan b = false := nan_false.2 (Nat.le_of_lt (finB_rung.1 fb))
  have f1 := finite_any a ha
  have f2 := finite_any b hb
  rw [fa] at f1
  rw [fb] at f2
  have i1 := isNum_any a
  have i2 := isNum_any b
  rw [na] at i1
  rw [nb] at i2
  have FL1 := Lib.hid (fun w => NumRes.go (float_any a ha w))
  have FL2 := Lib.hid (fun w => NumRes.go (float_any b hb w))
  have FA := Lib.hid fa
  have FB := Lib.hid fb
  have hS : addS a b dir = rnd (val a + val b) 1 dir := by unfold addS; rw [fa, fb]; rfl
  rw [hS]
  clear hS ha hb fa fb
  generalize hx : rnd (val a + val b) 1 dir = x
  have HX := Lib.hid hx
  clear hx
  go_enter Try.func49, Try.ntmps49
  go_wp2_with (first
    | (go_at_call 43; first | ((with_reducible refine (i1.go _).mono ?_); rintro _ _ ⟨k, rfl, rfl⟩) | ((with_reducible refine (i2.go _).mono ?_); rintro _ _ ⟨k, rfl, rfl⟩))
    | (go_at_call 107; first | ((with_reducible refine (f1.go _).mono ?_); rintro _ _ ⟨k, rfl, rfl⟩) | ((with_reducible refine (f2.go _).mono ?_); rintro _ _ ⟨k, rfl, rfl⟩))
    | (go_at_call 110; first | ((with_reducible refine (FL1.out _).mono ?_); rintro _ _ ⟨A1, k1, c1, q1, hq1, rfl, rfl⟩; have hq1' := hq1.out) | ((with_reducible refine (FL2.out _).mono ?_); rintro _ _ ⟨A2, k2, c2, q2, hq2, rfl, rfl⟩; have hq2' := hq2.out)))
  go_at_call 112
  obtain ⟨r, p, g, h1, h2, h3, h4, h5⟩ := fin_sum a b FA.out FB.out A1 A2 k1 c1 k2 c2 q2.val (Big.stays (hq1'.later q2)) (Big.stays hq2')
  refine (NumRes.go h5).mono ?_
  rintro _ _ ⟨A3, k3, c3, q3, hq3, rfl, rfl⟩
  have wh := FloatRes.go (bwhole_any r p g 0 dir A3 k3 c3 q3.val (Big.stays hq3.out) h2 (by omega) (by omega) (by decide) (by omega))
  rw [whole_sum r p g _ dir h3 h1, HX.out] at wh
  clear h5
  go_wp2_with (fail)
  go_at_call 102
  refine wh.mono ?_
  rintro _ _ ⟨q4, rfl, rfl⟩
  go_wp2
  go_ret
  exact ⟨rfl, by (repeat' (first | (with_reducible exact Below.refl _ _) | (with_reducible assumption) | (with_reducible refine Later.belowOf _ ?_ ?_) | (with_reducible refine Below.alloc ?_ ?_ _) | (with_reducible refine Below.setCell ?_ ?_ _) | (with_reducible refine Below.drewN' _ ?_) | (with_reducible refine Below.drew ?_) | (with_reducible exact Ge.le) | go_size))⟩

theorem feq_inf {a b : Nat} (na : nan a = false) (nb : nan b = false) (fa : finB a = false) (fb : finB b = false) : feq a b = decide (sgn a = sgn b) := by
  have ha := (read_inf fa na).2
  have hb := (read_inf fb nb).2
  unfold feq idx
  rw [na, nb, ha, hb]
  unfold INFR
  cases sgn a <;> cases sgn b <;> simp

theorem feq_fin {a b : Nat} (na : nan a = false) (nb : nan b = false) (fa : finB a = false) (fb : finB b = true) : feq a b = false := by
  have ha := (read_inf fa na).2
  have hb := finB_rung.1 fb
  unfold feq idx
  rw [na, nb, ha]
  unfold INFR at *
  cases sgn a <;> cases sgn b <;> simp <;> omega
theorem inf_same {a b : Nat} (ha : a < 18446744073709551616) (hb : b < 18446744073709551616) (na : nan a = false) (nb : nan b = false) (fa : finB a = false) (fb : finB b = false) (hs : sgn a = sgn b) : a = b := by
  rw [← infW_of ha (read_inf fa na).2, ← infW_of hb (read_inf fb nb).2, hs]

set_option maxHeartbeats 4000000 in
theorem add1_any (a b : Nat) (dir : Int) (ha : a < 18446744073709551616) (hb : b < 18446744073709551616) : Gives 49 #[(.float .f64 a), (.float .f64 b), .int .i64 dir] (.float .f64 (addS a b dir)) := by
  cases hff : finB a && finB b
  · intro w
    have f1 := finite_any a ha
    have f2 := finite_any b hb
    have i1 := isNum_any a
    have i2 := isNum_any b
    have n1 := math_NaN
    have hS : addS a b dir = if nan a || nan b then QN else if finB a then b else if finB b then a else if sgn a = sgn b then a else QN := by
      unfold addS; rw [hff]; rfl
    rw [hS]
    clear hS
    cases na : nan a
    · cases nb : nan b
      · rw [na] at i1
        rw [nb] at i2
        cases fa : finB a <;> cases fb : finB b
        · have hq := feq_inf na nb fa fb
          rw [fa] at f1
          rw [fb] at f2
          by_cases hs : sgn a = sgn b
          · rw [decide_eq_true hs] at hq
            simp only [Bool.or_false, Bool.false_eq_true, if_false, if_pos hs]
            obtain rfl := inf_same ha hb na nb fa fb hs
            clear na nb fa fb hs hff ha hb f2 i2
            go_enter Try.func49, Try.ntmps49
            go_wp2_with (first
              | (go_at_call 43; ((with_reducible refine (i1.go _).mono ?_); rintro _ _ ⟨k, rfl, rfl⟩))
              | (go_at_call 107; ((with_reducible refine (f1.go _).mono ?_); rintro _ _ ⟨k, rfl, rfl⟩)))
            go_ret
            exact ⟨rfl, by (repeat' (first | (with_reducible exact Below.refl _ _) | (with_reducible assumption) | (with_reducible refine Later.belowOf _ ?_ ?_) | (with_reducible refine Below.alloc ?_ ?_ _) | (with_reducible refine Below.setCell ?_ ?_ _) | (with_reducible refine Below.drewN' _ ?_) | (with_reducible refine Below.drew ?_) | (with_reducible exact Ge.le) | go_size))⟩
          · rw [decide_eq_false hs] at hq
            simp only [Bool.or_false, Bool.false_eq_true, if_false, if_neg hs]
            clear na nb fa fb hs hff ha hb
            go_enter Try.func49, Try.ntmps49
            go_wp2_with (first
              | (go_at_call 105; refine (n1.go _).mono ?_; rintro _ _ ⟨k, rfl, rfl⟩)
              | (go_at_call 43; first | ((with_reducible refine (i1.go _).mono ?_); rintro _ _ ⟨k, rfl, rfl⟩) | ((with_reducible refine (i2.go _).mono ?_); rintro _ _ ⟨k, rfl, rfl⟩))
              | (go_at_call 107; first | ((with_reducible refine (f1.go _).mono ?_); rintro _ _ ⟨k, rfl, rfl⟩) | ((with_reducible refine (f2.go _).mono ?_); rintro _ _ ⟨k, rfl, rfl⟩)))
            go_ret
            exact ⟨rfl, by (repeat' (first | (with_reducible exact Below.refl _ _) | (with_reducible assumption) | (with_reducible refine Later.belowOf _ ?_ ?_) | (with_reducible refine Below.alloc ?_ ?_ _) | (with_reducible refine Below.setCell ?_ ?_ _) | (with_reducible refine Below.drewN' _ ?_) | (with_reducible refine Below.drew ?_) | (with_reducible exact Ge.le) | go_size))⟩
        all_goals
          rw [fa] at f1
          rw [fb] at f2
          first
            | (rw [fa, fb] at hff; cases hff; done)
            | (simp only [Bool.or_false, Bool.false_eq_true, if_false, if_true]
               have hq : feq a b = false := by first | exact feq_fin na nb fa fb | (unfold feq; have := feq_fin nb na fb fa; unfold feq at this; rw [Bool.and_comm (!nan a)]; rw [show decide (idx a = idx b) = decide (idx b = idx a) by rw [Bool.eq_iff_iff]; simp only [decide_eq_true_eq]; exact eq_comm]; exact this)
               clear na nb fa fb hff ha hb
               go_enter Try.func49, Try.ntmps49
               go_wp2_with (first
                 | (go_at_call 105; refine (n1.go _).mono ?_; rintro _ _ ⟨k, rfl, rfl⟩)
                 | (go_at_call 43; first | ((with_reducible refine (i1.go _).mono ?_); rintro _ _ ⟨k, rfl, rfl⟩) | ((with_reducible refine (i2.go _).mono ?_); rintro _ _ ⟨k, rfl, rfl⟩))
                 | (go_at_call 107; first | ((with_reducible refine (f1.go _).mono ?_); rintro _ _ ⟨k, rfl, rfl⟩) | ((with_reducible refine (f2.go _).mono ?_); rintro _ _ ⟨k, rfl, rfl⟩)))
               go_ret
               exact ⟨rfl, by (repeat' (first | (with_reducible exact Below.refl _ _) | (with_reducible assumption) | (with_reducible refine Later.belowOf _ ?_ ?_) | (with_reducible refine Below.alloc ?_ ?_ _) | (with_reducible refine Below.setCell ?_ ?_ _) | (with_reducible refine Below.drewN' _ ?_) | (with_reducible refine Below.drew ?_) | (with_reducible exact Ge.le) | go_size))⟩)
      · rw [na] at i1
        rw [nb] at i2
        simp only [Bool.or_true, if_true]
        clear na nb hff ha hb f1 f2
        go_enter Try.func49, Try.ntmps49
        go_wp2_with (first
          | (go_at_call 105; refine (n1.go _).mono ?_; rintro _ _ ⟨k, rfl, rfl⟩)
          | (go_at_call 43; first | ((with_reducible refine (i1.go _).mono ?_); rintro _ _ ⟨k, rfl, rfl⟩) | ((with_reducible refine (i2.go _).mono ?_); rintro _ _ ⟨k, rfl, rfl⟩)))
        go_ret
        exact ⟨rfl, by (repeat' (first | (with_reducible exact Below.refl _ _) | (with_reducible assumption) | (with_reducible refine Later.belowOf _ ?_ ?_) | (with_reducible refine Below.alloc ?_ ?_ _) | (with_reducible refine Below.setCell ?_ ?_ _) | (with_reducible refine Below.drewN' _ ?_) | (with_reducible refine Below.drew ?_) | (with_reducible exact Ge.le) | go_size))⟩
    · rw [na] at i1
      simp only [Bool.true_or, if_true]
      clear na hff ha hb f1 f2 i2
      go_enter Try.func49, Try.ntmps49
      go_wp2_with (first
        | (go_at_call 105; refine (n1.go _).mono ?_; rintro _ _ ⟨k, rfl, rfl⟩)
        | (go_at_call 43; ((with_reducible refine (i1.go _).mono ?_); rintro _ _ ⟨k, rfl, rfl⟩)))
      go_ret
      exact ⟨rfl, by (repeat' (first | (with_reducible exact Below.refl _ _) | (with_reducible assumption) | (with_reducible refine Later.belowOf _ ?_ ?_) | (with_reducible refine Below.alloc ?_ ?_ _) | (with_reducible refine Below.setCell ?_ ?_ _) | (with_reducible refine Below.drewN' _ ?_) | (with_reducible refine Below.drew ?_) | (with_reducible exact Ge.le) | go_size))⟩
  · rw [Bool.and_eq_true] at hff
    exact add1_fin a b dir ha hb hff.1 hff.2
end Go.Proofs.Ytjdccbigaahkeaa
