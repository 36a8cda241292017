/- Contracts: the reference's numbers of floats; 1. -/
import Derived.Test.YtjdccbigaahkeaaW26
import Derived.Test.YtjdccbigaahkeaaW12
namespace Go.Proofs.Ytjdccbigaahkeaa
set_option linter.unusedSimpArgs false
set_option linter.unusedVariables false
open Go.RowKit
open Fl

def sgI (neg : Bool) (r : Nat) : Int := if neg then -(r : Int) else (r : Int)

set_option maxHeartbeats 4000000 in
theorem split1_over (x r : Nat) (neg : Bool) (hr : r < 9223372036854775808) (h : 9218868437227405312 ≤ r) (i1 : Gives 97 #[(.float .f64 x)] (.int .i64 (sgI neg r))) :
    Gives 42 #[(.float .f64 x)] (.tuple #[(.agg #[.bool false, .int .u64 0, .int .i64 0]), .bool false]) := by
  intro w
  have r1 : (9218868437227405312 : Int) ≤ (r : Int) := by omega
  have r2 : (r : Int) ≤ 9223372036854775807 := by omega
  unfold sgI at i1
  cases neg
  all_goals
    simp only [if_true, Bool.false_eq_true, if_false] at i1
    go_enter Try.func42, Try.ntmps42
    go_wp2_with (go_at_call 97; refine (i1.go _).mono ?_; rintro _ _ ⟨n, rfl, rfl⟩)
    go_returns
    exact ⟨rfl, by (repeat' (first | (with_reducible exact Below.refl _ _) | (with_reducible assumption) | (with_reducible refine Later.belowOf _ ?_ ?_) | (with_reducible refine Below.alloc ?_ ?_ _) | (with_reducible refine Below.setCell ?_ ?_ _) | (with_reducible refine Below.drewN' _ ?_) | (with_reducible refine Below.drew ?_) | (with_reducible exact Ge.le) | go_size))⟩

set_option maxHeartbeats 4000000 in
theorem split1_null (x : Nat) (i1 : Gives 97 #[(.float .f64 x)] (.int .i64 0)) :
    Gives 42 #[(.float .f64 x)] (.tuple #[(.agg #[.bool false, .int .u64 0, .int .i64 0]), .bool true]) := by
  intro w
  go_enter Try.func42, Try.ntmps42
  go_wp2_with (go_at_call 97; refine (i1.go _).mono ?_; rintro _ _ ⟨n, rfl, rfl⟩)
  go_returns
  exact ⟨rfl, by (repeat' (first | (with_reducible exact Below.refl _ _) | (with_reducible assumption) | (with_reducible refine Later.belowOf _ ?_ ?_) | (with_reducible refine Below.alloc ?_ ?_ _) | (with_reducible refine Below.setCell ?_ ?_ _) | (with_reducible refine Below.drewN' _ ?_) | (with_reducible refine Below.drew ?_) | (with_reducible exact Ge.le) | go_size))⟩

set_option maxHeartbeats 4000000 in
theorem split1_low (x r : Nat) (neg : Bool) (h1 : 1 ≤ r) (h2 : r < 4503599627370496) (i1 : Gives 97 #[(.float .f64 x)] (.int .i64 (sgI neg r))) :
    Gives 42 #[(.float .f64 x)] (.tuple #[(.agg #[.bool neg, .int .u64 r, .int .i64 (-1074)]), .bool true]) := by
  intro w
  have r1 : (1 : Int) ≤ (r : Int) := by omega
  have r2 : (r : Int) ≤ 4503599627370495 := by omega
  have r3 : (r : Int) / 4503599627370496 = 0 := by omega
  have r4 : (r : Int) % 4503599627370496 = (r : Int) := by omega
  have r5 : ((r : Int) == 0) = false := by rw [beq_eq_false_iff_ne]; omega
  have r6 : ¬ r = 0 := by omega
  unfold sgI at i1
  cases neg
  all_goals
    simp only [if_true, Bool.false_eq_true, if_false] at i1
    go_enter Try.func42, Try.ntmps42
    go_wp2_with (go_at_call 97; refine (i1.go _).mono ?_; rintro _ _ ⟨n, rfl, rfl⟩)
    go_returns
    exact ⟨rfl, by (repeat' (first | (with_reducible exact Below.refl _ _) | (with_reducible assumption) | (with_reducible refine Later.belowOf _ ?_ ?_) | (with_reducible refine Below.alloc ?_ ?_ _) | (with_reducible refine Below.setCell ?_ ?_ _) | (with_reducible refine Below.drewN' _ ?_) | (with_reducible refine Below.drew ?_) | (with_reducible exact Ge.le) | go_size))⟩

set_option maxHeartbeats 4000000 in
theorem split1_high (x r q m : Nat) (neg : Bool) (h1 : 4503599627370496 ≤ r) (h2 : r < 9218868437227405312) (hq : q = r / 4503599627370496) (hm : m = r % 4503599627370496) (i1 : Gives 97 #[(.float .f64 x)] (.int .i64 (sgI neg r))) :
    Gives 42 #[(.float .f64 x)] (.tuple #[(.agg #[.bool neg, .int .u64 ((m : Int) + 4503599627370496), .int .i64 ((q : Int) - 1075)]), .bool true]) := by
  intro w
  have r1 : (4503599627370496 : Int) ≤ (r : Int) := by omega
  have r2 : (r : Int) ≤ 9218868437227405311 := by omega
  have r3 : (r : Int) / 4503599627370496 = (q : Int) := by omega
  have r4 : (r : Int) % 4503599627370496 = (m : Int) := by omega
  have r5 : ((r : Int) == 0) = false := by rw [beq_eq_false_iff_ne]; omega
  have r6 : ¬ r = 0 := by omega
  have r7 : ((q : Int) == 0) = false := by rw [beq_eq_false_iff_ne]; omega
  have r8 : ¬ q = 0 := by omega
  have r9 : (q : Int) ≤ 2046 := by omega
  have r10 : (m : Int) ≤ 4503599627370495 := by omega
  clear hq hm
  unfold sgI at i1
  cases neg
  all_goals
    simp only [if_true, Bool.false_eq_true, if_false] at i1
    go_enter Try.func42, Try.ntmps42
    go_wp2_with (go_at_call 97; refine (i1.go _).mono ?_; rintro _ _ ⟨n, rfl, rfl⟩)
    go_returns
    exact ⟨rfl, by (repeat' (first | (with_reducible exact Below.refl _ _) | (with_reducible assumption) | (with_reducible refine Later.belowOf _ ?_ ?_) | (with_reducible refine Below.alloc ?_ ?_ _) | (with_reducible refine Below.setCell ?_ ?_ _) | (with_reducible refine Below.drewN' _ ?_) | (with_reducible refine Below.drew ?_) | (with_reducible exact Ge.le) | go_size))⟩

theorem split1_any (x : Nat) (hx : x < 18446744073709551616) : Gives 42 #[(.float .f64 x)] (.tuple #[(.agg #[.bool (qNeg x), .int .u64 (qM x), .int .i64 (qE x)]), .bool (finB x)]) := by
  have i1 := index_any x hx
  have hr : rung x < SW := rung_lt x
  have hi : idx x = sgI (sgn x) (rung x) := rfl
  rw [hi] at i1
  unfold qNeg qM qE
  cases hf : finB x
  · have h := finB_false.1 hf
    unfold SW at hr
    unfold INFR at h
    exact split1_over x _ _ hr h i1
  · have h := finB_rung.1 hf
    unfold INFR at h
    simp only [if_true]
    unfold pNeg pM pE
    by_cases c2 : rung x = 0
    · have := split1_null x (by rw [c2] at i1; unfold sgI at i1; cases hs : sgn x <;> rw [hs] at i1 <;> simpa using i1)
      rw [c2, show mag 0 = 0 by decide]
      simpa using this
    · have e1 : (sgn x && decide (rung x ≠ 0)) = sgn x := by simp [c2]
      rw [e1, if_neg c2]
      by_cases c3 : rung x < 4503599627370496
      · have := split1_low x (rung x) (sgn x) (by omega) c3 i1
        have e2 : ((mag (rung x) : Nat) : Int) = (rung x : Int) := by unfold mag BIN; rw [if_pos c3]
        have e3 : (-1074 + (exn (rung x) : Int)) = -1074 := by unfold exn BIN; rw [Nat.div_eq_of_lt c3]; rfl
        rw [e2, e3]; exact this
      · have := split1_high x (rung x) _ _ (sgn x) (by omega) h rfl rfl i1
        have e2 : ((mag (rung x) : Nat) : Int) = ((rung x % 4503599627370496 : Nat) : Int) + 4503599627370496 := by
          unfold mag BIN; rw [if_neg c3]; omega
        have e3 : (-1074 + (exn (rung x) : Int)) = ((rung x / 4503599627370496 : Nat) : Int) - 1075 := by unfold exn BIN; omega
        rw [e2, e3]; exact this

theorem qM_range (x : Nat) : 0 ≤ qM x ∧ qM x ≤ 9007199254740991 := by
  unfold qM
  cases hf : finB x
  · simp
  · have h := mag_small (finB_rung.1 hf)
    unfold pM
    simp only [if_true]
    omega
theorem qE_range (x : Nat) : -1074 ≤ qE x ∧ qE x ≤ 971 := by
  cases hf : finB x
  · unfold qE; rw [hf]; simp
  · have := partsOk_q x hf
    unfold PartsOk at this
    omega

def fM (x : Nat) : Nat := (qM x).toNat
theorem fM_bp (x : Nat) : fM x < bp 2 := by
  have := qM_range x
  have h2 : bp 2 = 18446744073709551616 := by rw [bp_succ, bp_succ, bp_zero]
  unfold fM; omega

set_option maxHeartbeats 4000000 in
set_option maxRecDepth 100000 in
theorem float_any (x : Nat) (hx : x < 18446744073709551616) (w : World) : Calls Try.prog 110 #[(.float .f64 x)] w (NumRes (qNeg x) (fM x) (qE x) w) := by
  have s1 := split1_any x hx
  have hm := qM_range x
  have he := qE_range x
  have hf : qM x = (fM x : Int) := by unfold fM; omega
  rw [hf] at s1
  have o1 := fun w => BigRes.go (of_any (fM x) (by omega) w)
  generalize qNeg x = s at *
  generalize qE x = e at *
  generalize fM x = m at *
  have O := Lib.hid o1
  clear o1 hm hf hx
  go_enter Try.func110, Try.ntmps110
  go_wp2_with (go_at_call 42; refine (s1.go _).mono ?_; rintro _ _ ⟨n, rfl, rfl⟩)
  go_region_held3 (fun w' => w'.cell? ⟨n.val.heap.size, 0, none⟩ = some (.bool s) ∧ w'.cell? ⟨n.val.heap.size, 1, none⟩ = some (.int .u64 m) ∧ w'.cell? ⟨n.val.heap.size, 2, none⟩ = some (.int .i64 e))
    (first | (go_simp; done) | go_keep)
    ((go_at_call 103; refine (O.out _).mono ?_; rintro _ _ ⟨A2, k2, c2, q2, hq3, hk3, hk4, rfl, rfl⟩))
  all_goals
    rename_i hHeld
    clear hHeld
    go_wp2
    go_returns
    have hq3' := hq3.out
    exact ⟨⟨_, _, _, rfl, by (repeat (first | (with_reducible assumption) | (with_reducible refine Big.drew ?_) | (with_reducible refine Big.drewN ?_ _) | (with_reducible refine Big.alloc ?_ _) | (with_reducible refine Big.later ?_ _) | (with_reducible refine Big.setCell ?_ _ (by go_simp))))⟩, by (repeat' (first | (with_reducible exact Below.refl _ _) | (with_reducible assumption) | (with_reducible refine Later.belowOf _ ?_ ?_) | (with_reducible refine Below.alloc ?_ ?_ _) | (with_reducible refine Below.setCell ?_ ?_ _) | (with_reducible refine Below.drewN' _ ?_) | (with_reducible refine Below.drew ?_) | (with_reducible exact Ge.le) | go_size))⟩

set_option maxHeartbeats 4000000 in
theorem int1_any (w : World) : Calls Try.prog 131 #[.int .i64 1] w (NumRes false 1 0 w) := by
  have o1 := fun w => BigRes.go (of_any 1 (by decide) w)
  have O := Lib.hid o1
  clear o1
  go_enter Try.func131, Try.ntmps131
  go_wp2_with (go_at_call 103; refine (O.out _).mono ?_; rintro _ _ ⟨A2, k2, c2, q2, hq3, hk3, hk4, rfl, rfl⟩)
  go_returns
  have hq3' := hq3.out
  exact ⟨⟨_, _, _, rfl, by (repeat (first | (with_reducible assumption) | (with_reducible refine Big.drew ?_) | (with_reducible refine Big.drewN ?_ _) | (with_reducible refine Big.alloc ?_ _) | (with_reducible refine Big.later ?_ _) | (with_reducible refine Big.setCell ?_ _ (by go_simp))))⟩, by (repeat' (first | (with_reducible exact Below.refl _ _) | (with_reducible assumption) | (with_reducible refine Later.belowOf _ ?_ ?_) | (with_reducible refine Below.alloc ?_ ?_ _) | (with_reducible refine Below.setCell ?_ ?_ _) | (with_reducible refine Below.drewN' _ ?_) | (with_reducible refine Below.drew ?_) | (with_reducible exact Ge.le) | go_size))⟩

/-- A float's amount. -/
theorem nv_float (x : Nat) (hf : finB x = true) : nv 1074 (qNeg x) (fM x) (qE x) = val x := by
  rw [← pval_q x hf]
  unfold nv pval
  have hm := qM_range x
  have h : (fM x : Int) = qM x := by unfold fM; omega
  rw [← h, pw_eq]
  have e : ((fM x * 2 ^ (qE x + 1074).toNat : Nat) : Int) = (fM x : Int) * 2 ^ (qE x + 1074).toNat := by rw [← pow2_cast]; simp
  rw [e]

set_option maxHeartbeats 4000000 in
/-- 2^1024 at either end. -/
theorem grid_any (i : Int) (h1 : -9218868437227405312 ≤ i) (h2 : i ≤ 9218868437227405312) : ∃ s m e, nv 1074 s m e = pv i ∧ m < bp 2 ∧ -1074 ≤ e ∧ e ≤ 1024 ∧ ∀ w : World, Calls Try.prog 143 #[.int .i64 i] w (NumRes s m e w) := by
  have o1 := fun w => BigRes.go (of_any 1 (by decide) w)
  have O := Lib.hid o1
  clear o1
  have b2 : 1 < bp 2 := by rw [bp_succ, bp_succ, bp_zero]; decide
  have gI : G INFR = pw (1024 + 1074) := by
    have := G_normal' (K := 2046) (m := 0) (by decide)
    rw [show (2046 + 1) * BIN + 0 = INFR by decide, Nat.add_zero] at this
    rw [this, show BIN = pw 52 by rw [pw_eq], ← pw_add]
  by_cases c1 : 9218868437227405311 < i
  · obtain rfl : i = 9218868437227405312 := by omega
    refine ⟨false, 1, 1024, ?_, b2, by decide, by decide, ?_⟩
    · rw [pv_pos (by decide)]
      show ((1 * pw ((1024 : Int) + 1074).toNat : Nat) : Int) = ((G INFR : Nat) : Int)
      rw [gI, Nat.one_mul]; rfl
    · intro w
      clear gI b2
      go_enter Try.func143, Try.ntmps143
      go_wp2_with (go_at_call 103; refine (O.out _).mono ?_; rintro _ _ ⟨A2, k2, c2, q2, hq3, hk3, hk4, rfl, rfl⟩)
      go_returns
      have hq3' := hq3.out
      exact ⟨⟨_, _, _, rfl, by (repeat (first | (with_reducible assumption) | (with_reducible refine Big.drew ?_) | (with_reducible refine Big.drewN ?_ _) | (with_reducible refine Big.alloc ?_ _) | (with_reducible refine Big.later ?_ _) | (with_reducible refine Big.setCell ?_ _ (by go_simp))))⟩, by (repeat' (first | (with_reducible exact Below.refl _ _) | (with_reducible assumption) | (with_reducible refine Later.belowOf _ ?_ ?_) | (with_reducible refine Below.alloc ?_ ?_ _) | (with_reducible refine Below.setCell ?_ ?_ _) | (with_reducible refine Below.drewN' _ ?_) | (with_reducible refine Below.drew ?_) | (with_reducible exact Ge.le) | go_size))⟩
  · by_cases c2 : i < -9218868437227405311
    · obtain rfl : i = -9218868437227405312 := by omega
      refine ⟨true, 1, 1024, ?_, b2, by decide, by decide, ?_⟩
      · rw [pv_neg (by decide)]
        show -((1 * pw ((1024 : Int) + 1074).toNat : Nat) : Int) = -((G INFR : Nat) : Int)
        rw [gI, Nat.one_mul]; rfl
      · intro w
        clear gI b2
        go_enter Try.func143, Try.ntmps143
        go_wp2_with (go_at_call 103; refine (O.out _).mono ?_; rintro _ _ ⟨A2, k2, c2, q2, hq3, hk3, hk4, rfl, rfl⟩)
        go_returns
        have hq3' := hq3.out
        exact ⟨⟨_, _, _, rfl, by (repeat (first | (with_reducible assumption) | (with_reducible refine Big.drew ?_) | (with_reducible refine Big.drewN ?_ _) | (with_reducible refine Big.alloc ?_ _) | (with_reducible refine Big.later ?_ _) | (with_reducible refine Big.setCell ?_ _ (by go_simp))))⟩, by (repeat' (first | (with_reducible exact Below.refl _ _) | (with_reducible assumption) | (with_reducible refine Later.belowOf _ ?_ ?_) | (with_reducible refine Below.alloc ?_ ?_ _) | (with_reducible refine Below.setCell ?_ ?_ _) | (with_reducible refine Below.drewN' _ ?_) | (with_reducible refine Below.drew ?_) | (with_reducible exact Ge.le) | go_size))⟩
    · have hb := nan_bits h1 h2
      have hf : finB (bitsOf i) = true := by
        rw [finB_rung]
        have h3 := hb.2.1
        unfold idx at h3
        have : rung (bitsOf i) < INFR := by
          unfold INFR
          cases hs : sgn (bitsOf i) <;> rw [hs] at h3 <;> simp at h3 <;> omega
        exact this
      have hr := qE_range (bitsOf i)
      refine ⟨qNeg (bitsOf i), fM (bitsOf i), qE (bitsOf i), by rw [nv_float _ hf, val_bits h1 h2], fM_bp _, hr.1, by omega, ?_⟩
      intro w
      have fl := fun w => NumRes.go (float_any (bitsOf i) hb.2.2 w)
      have a1 := at_any i h1 h2
      generalize qNeg (bitsOf i) = s at *
      generalize fM (bitsOf i) = m at *
      generalize qE (bitsOf i) = e at *
      generalize bitsOf i = x at *
      have F := Lib.hid fl
      clear fl hr hf hb gI b2 O
      go_enter Try.func143, Try.ntmps143
      go_wp2_with (first | (go_at_call 98; refine (a1.go _).mono ?_; rintro _ _ ⟨q1, rfl, rfl⟩) | (go_at_call 110; refine (F.out _).mono ?_; rintro _ _ ⟨A2, k2, c2, q2, hq3, rfl, rfl⟩))
      go_returns
      have hq3' := hq3.out
      exact ⟨⟨_, _, _, rfl, by (repeat (first | (with_reducible assumption) | (with_reducible refine Big.drew ?_) | (with_reducible refine Big.drewN ?_ _) | (with_reducible refine Big.alloc ?_ _) | (with_reducible refine Big.later ?_ _) | (with_reducible refine Big.setCell ?_ _ (by go_simp))))⟩, by (repeat' (first | (with_reducible exact Below.refl _ _) | (with_reducible assumption) | (with_reducible refine Later.belowOf _ ?_ ?_) | (with_reducible refine Below.alloc ?_ ?_ _) | (with_reducible refine Below.setCell ?_ ?_ _) | (with_reducible refine Below.drewN' _ ?_) | (with_reducible refine Below.drew ?_) | (with_reducible exact Ge.le) | go_size))⟩
end Go.Proofs.Ytjdccbigaahkeaa
