/- Contracts: the reference's numbers of floats; 1. -/
import Derived.Test.YtkmgfbhnioojhaaGreatPmW25
import Derived.Test.YtkmgfbhnioojhaaGreatPmW11
namespace Go.Proofs.YtkmgfbhnioojhaaGreat
set_option linter.unusedSimpArgs false
set_option linter.unusedVariables false
open Go.RowKit
open Fl

def sgI (neg : Bool) (r : Nat) : Int := if neg then -(r : Int) else (r : Int)

set_option maxHeartbeats 4000000 in
theorem split1_over (x r : Nat) (neg : Bool) (hr : r < 9223372036854775808) (h : 9218868437227405312 ≤ r) (i1 : Gives 110 #[(.float .f64 x)] (.int .i64 (sgI neg r))) :
    Gives 128 #[(.float .f64 x)] (.tuple #[(.agg #[.bool false, .int .u64 0, .int .i64 0]), .bool false]) := by
  intro w
  have r1 : (9218868437227405312 : Int) ≤ (r : Int) := by omega
  have r2 : (r : Int) ≤ 9223372036854775807 := by omega
  unfold sgI at i1
  cases neg
  all_goals
    simp only [if_true, Bool.false_eq_true, if_false] at i1
    go_enter Tryz.func128, Tryz.ntmps128
    go_wp2_with (go_at_call 110; refine (i1.go _).mono ?_; rintro _ _ ⟨n, rfl, rfl⟩)
    go_returns
    exact ⟨rfl, by (repeat' first | (with_reducible first | exact Below.refl _ _ | assumption | refine Later.belowOf _ ?_ ?_ | refine Below.alloc ?_ ?_ _ | refine Below.setCell ?_ ?_ _ | refine Below.drewN' _ ?_ | refine Below.drew ?_ | exact Ge.le) | go_size)⟩

set_option maxHeartbeats 4000000 in
theorem split1_null (x : Nat) (i1 : Gives 110 #[(.float .f64 x)] (.int .i64 0)) :
    Gives 128 #[(.float .f64 x)] (.tuple #[(.agg #[.bool false, .int .u64 0, .int .i64 0]), .bool true]) := by
  intro w
  go_enter Tryz.func128, Tryz.ntmps128
  go_wp2_with (go_at_call 110; refine (i1.go _).mono ?_; rintro _ _ ⟨n, rfl, rfl⟩)
  go_returns
  exact ⟨rfl, by (repeat' first | (with_reducible first | exact Below.refl _ _ | assumption | refine Later.belowOf _ ?_ ?_ | refine Below.alloc ?_ ?_ _ | refine Below.setCell ?_ ?_ _ | refine Below.drewN' _ ?_ | refine Below.drew ?_ | exact Ge.le) | go_size)⟩

set_option maxHeartbeats 4000000 in
theorem split1_low (x r : Nat) (neg : Bool) (h1 : 1 ≤ r) (h2 : r < 4503599627370496) (i1 : Gives 110 #[(.float .f64 x)] (.int .i64 (sgI neg r))) :
    Gives 128 #[(.float .f64 x)] (.tuple #[(.agg #[.bool neg, .int .u64 r, .int .i64 (-1074)]), .bool true]) := by
  intro w
  have r1 : (1 : Int) ≤ (r : Int) := by omega
  have r2 : (r : Int) ≤ 4503599627370495 := by omega
  have r3 : (r : Int) / 4503599627370496 = 0 := by omega
  have r4 : (r : Int) % 4503599627370496 = (r : Int) := by omega
  have r5 : ((r : Int) == 0) = false := by rw [beq_eq_false_iff_ne]; omega
  have r6 : ¬ r = 0 := by omega
  unfold sgI at i1
  cases neg
  all_goals
    simp only [if_true, Bool.false_eq_true, if_false] at i1
    go_enter Tryz.func128, Tryz.ntmps128
    go_wp2_with (go_at_call 110; refine (i1.go _).mono ?_; rintro _ _ ⟨n, rfl, rfl⟩)
    go_returns
    exact ⟨rfl, by (repeat' first | (with_reducible first | exact Below.refl _ _ | assumption | refine Later.belowOf _ ?_ ?_ | refine Below.alloc ?_ ?_ _ | refine Below.setCell ?_ ?_ _ | refine Below.drewN' _ ?_ | refine Below.drew ?_ | exact Ge.le) | go_size)⟩

set_option maxHeartbeats 4000000 in
theorem split1_high (x r q m : Nat) (neg : Bool) (h1 : 4503599627370496 ≤ r) (h2 : r < 9218868437227405312) (hq : q = r / 4503599627370496) (hm : m = r % 4503599627370496) (i1 : Gives 110 #[(.float .f64 x)] (.int .i64 (sgI neg r))) :
    Gives 128 #[(.float .f64 x)] (.tuple #[(.agg #[.bool neg, .int .u64 ((m : Int) + 4503599627370496), .int .i64 ((q : Int) - 1075)]), .bool true]) := by
  intro w
  have r1 : (4503599627370496 : Int) ≤ (r : Int) := by omega
  have r2 : (r : Int) ≤ 9218868437227405311 := by omega
  have r3 : (r : Int) / 4503599627370496 = (q : Int) := by omega
  have r4 : (r : Int) % 4503599627370496 = (m : Int) := by omega
  have r5 : ((r : Int) == 0) = false := by rw [beq_eq_false_iff_ne]; omega
  have r6 : ¬ r = 0 := by omega
  have r7 : ((q : Int) == 0) = false := by rw [beq_eq_false_iff_ne]; omega
  have r8 : ¬ q = 0 := by omega
  have r9 : (q : Int) ≤ 2046 := by omega
  have r10 : (m : Int) ≤ 4503599627370495 := by omega
  clear hq hm
  unfold sgI at i1
  cases neg
  all_goals
    simp only [if_true, Bool.false_eq_true, if_false] at i1
    go_enter Tryz.func128, Tryz.ntmps128
    go_wp2_with (go_at_call 110; refine (i1.go _).mono ?_; rintro _ _ ⟨n, rfl, rfl⟩)
    go_returns
    exact ⟨rfl, by (repeat' first | (with_reducible first | exact Below.refl _ _ | assumption | refine Later.belowOf _ ?_ ?_ | refine Below.alloc ?_ ?_ _ | refine Below.setCell ?_ ?_ _ | refine Below.drewN' _ ?_ | refine Below.drew ?_ | exact Ge.le) | go_size)⟩

theorem split1_any (x : Nat) (hx : x < 18446744073709551616) : Gives 128 #[(.float .f64 x)] (.tuple #[(.agg #[.bool (qNeg x), .int .u64 (qM x), .int .i64 (qE x)]), .bool (finB x)]) := by
  have i1 := index_any x hx
  have hr : rung x < SW := rung_lt x
  have hi : idx x = sgI (sgn x) (rung x) := rfl
  rw [hi] at i1
  unfold qNeg qM qE
  cases hf : finB x
  · have h := finB_false.1 hf
    unfold SW at hr
    unfold INFR at h
    exact split1_over x _ _ hr h i1
  · have h := finB_rung.1 hf
    unfold INFR at h
    simp only [if_true]
    unfold pNeg pM pE
    by_cases c2 : rung x = 0
    · have := split1_null x (by rw [c2] at i1; unfold sgI at i1; cases hs : sgn x <;> rw [hs] at i1 <;> simpa using i1)
      rw [c2, show mag 0 = 0 by decide]
      simpa using this
    · have e1 : (sgn x && decide (rung x ≠ 0)) = sgn x := by simp [c2]
      rw [e1, if_neg c2]
      by_cases c3 : rung x < 4503599627370496
      · have := split1_low x (rung x) (sgn x) (by omega) c3 i1
        have e2 : ((mag (rung x) : Nat) : Int) = (rung x : Int) := by unfold mag BIN; rw [if_pos c3]
        have e3 : (-1074 + (exn (rung x) : Int)) = -1074 := by unfold exn BIN; rw [Nat.div_eq_of_lt c3]; rfl
        rw [e2, e3]; exact this
      · have := split1_high x (rung x) _ _ (sgn x) (by omega) h rfl rfl i1
        have e2 : ((mag (rung x) : Nat) : Int) = ((rung x % 4503599627370496 : Nat) : Int) + 4503599627370496 := by
          unfold mag BIN; rw [if_neg c3]; omega
        have e3 : (-1074 + (exn (rung x) : Int)) = ((rung x / 4503599627370496 : Nat) : Int) - 1075 := by unfold exn BIN; omega
        rw [e2, e3]; exact this

theorem qM_range (x : Nat) : 0 ≤ qM x ∧ qM x ≤ 9007199254740991 := by
  unfold qM
  cases hf : finB x
  · simp
  · have h := mag_small (finB_rung.1 hf)
    unfold pM
    simp only [if_true]
    omega
theorem qE_range (x : Nat) : -1074 ≤ qE x ∧ qE x ≤ 971 := by
  cases hf : finB x
  · unfold qE; rw [hf]; simp
  · have := partsOk_q x hf
    unfold PartsOk at this
    omega

def fM (x : Nat) : Nat := (qM x).toNat
theorem fM_bp (x : Nat) : fM x < bp 2 := by
  have := qM_range x
  have h2 : bp 2 = 18446744073709551616 := by rw [bp_succ, bp_succ, bp_zero]
  unfold fM; omega

set_option maxHeartbeats 4000000 in
set_option maxRecDepth 100000 in
theorem float_any (x : Nat) (hx : x < 18446744073709551616) (w : World) : Calls Tryz.prog 62 #[(.float .f64 x)] w (NumRes (qNeg x) (fM x) (qE x) w) := by
  have s1 := split1_any x hx
  have hm := qM_range x
  have he := qE_range x
  have hf : qM x = (fM x : Int) := by unfold fM; omega
  rw [hf] at s1
  have o1 := fun w => BigRes.go (of_any (fM x) (by omega) w)
  generalize qNeg x = s at *
  generalize qE x = e at *
  generalize fM x = m at *
  have O := Lib.hid o1
  clear o1 hm hf hx
  go_enter Tryz.func62, Tryz.ntmps62
  go_wp2_with (go_at_call 128; refine (s1.go _).mono ?_; rintro _ _ ⟨n, rfl, rfl⟩)
  go_region_held3 (fun w' => w'.cell? ⟨n.val.heap.size, 0, none⟩ = some (.bool s) ∧ w'.cell? ⟨n.val.heap.size, 1, none⟩ = some (.int .u64 m) ∧ w'.cell? ⟨n.val.heap.size, 2, none⟩ = some (.int .i64 e))
    (first | (go_simp; done) | go_keep)
    ((go_at_call 23; refine (O.out _).mono ?_; rintro _ _ ⟨A2, k2, c2, q2, hq3, hk3, hk4, rfl, rfl⟩))
  all_goals
    rename_i hHeld
    clear hHeld
    go_wp2
    go_returns
    have hq3' := hq3.out
    exact ⟨⟨_, _, _, rfl, by (repeat (first | (with_reducible assumption) | (with_reducible refine Big.drew ?_) | (with_reducible refine Big.drewN ?_ _) | (with_reducible refine Big.alloc ?_ _) | (with_reducible refine Big.later ?_ _) | (with_reducible refine Big.setCell ?_ _ (by go_simp))))⟩, by (repeat' first | (with_reducible first | exact Below.refl _ _ | assumption | refine Later.belowOf _ ?_ ?_ | refine Below.alloc ?_ ?_ _ | refine Below.setCell ?_ ?_ _ | refine Below.drewN' _ ?_ | refine Below.drew ?_ | exact Ge.le) | go_size)⟩

set_option maxHeartbeats 4000000 in
theorem int1_any (w : World) : Calls Tryz.prog 66 #[.int .i64 1] w (NumRes false 1 0 w) := by
  have o1 := fun w => BigRes.go (of_any 1 (by decide) w)
  have O := Lib.hid o1
  clear o1
  go_enter Tryz.func66, Tryz.ntmps66
  go_wp2_with (go_at_call 23; refine (O.out _).mono ?_; rintro _ _ ⟨A2, k2, c2, q2, hq3, hk3, hk4, rfl, rfl⟩)
  go_returns
  have hq3' := hq3.out
  exact ⟨⟨_, _, _, rfl, by (repeat (first | (with_reducible assumption) | (with_reducible refine Big.drew ?_) | (with_reducible refine Big.drewN ?_ _) | (with_reducible refine Big.alloc ?_ _) | (with_reducible refine Big.later ?_ _) | (with_reducible refine Big.setCell ?_ _ (by go_simp))))⟩, by (repeat' first | (with_reducible first | exact Below.refl _ _ | assumption | refine Later.belowOf _ ?_ ?_ | refine Below.alloc ?_ ?_ _ | refine Below.setCell ?_ ?_ _ | refine Below.drewN' _ ?_ | refine Below.drew ?_ | exact Ge.le) | go_size)⟩

/-- A float's amount. -/
theorem nv_float (x : Nat) (hf : finB x = true) : nv 1074 (qNeg x) (fM x) (qE x) = val x := by
  rw [← pval_q x hf]
  unfold nv pval
  have hm := qM_range x
  have h : (fM x : Int) = qM x := by unfold fM; omega
  rw [← h, pw_eq]
  have e : ((fM x * 2 ^ (qE x + 1074).toNat : Nat) : Int) = (fM x : Int) * 2 ^ (qE x + 1074).toNat := by rw [← pow2_cast]; simp
  rw [e]

set_option maxHeartbeats 4000000 in
/-- 2^1024 at either end. -/
theorem grid_any (i : Int) (h1 : -9218868437227405312 ≤ i) (h2 : i ≤ 9218868437227405312) : ∃ s m e, nv 1074 s m e = pv i ∧ m < bp 2 ∧ -1074 ≤ e ∧ e ≤ 1024 ∧ ∀ w : World, Calls Tryz.prog 305 #[.int .i64 i] w (NumRes s m e w) := by
  have o1 := fun w => BigRes.go (of_any 1 (by decide) w)
  have O := Lib.hid o1
  clear o1
  have b2 : 1 < bp 2 := by rw [bp_succ, bp_succ, bp_zero]; decide
  have gI : G INFR = pw (1024 + 1074) := by
    have := G_normal' (K := 2046) (m := 0) (by decide)
    rw [show (2046 + 1) * BIN + 0 = INFR by decide, Nat.add_zero] at this
    rw [this, show BIN = pw 52 by rw [pw_eq], ← pw_add]
  by_cases c1 : 9218868437227405311 < i
  · obtain rfl : i = 9218868437227405312 := by omega
    refine ⟨false, 1, 1024, ?_, b2, by decide, by decide, ?_⟩
    · rw [pv_pos (by decide)]
      show ((1 * pw ((1024 : Int) + 1074).toNat : Nat) : Int) = ((G INFR : Nat) : Int)
      rw [gI, Nat.one_mul]; rfl
    · intro w
      clear gI b2
      go_enter Tryz.func305, Tryz.ntmps305
      go_wp2_with (go_at_call 23; refine (O.out _).mono ?_; rintro _ _ ⟨A2, k2, c2, q2, hq3, hk3, hk4, rfl, rfl⟩)
      go_returns
      have hq3' := hq3.out
      exact ⟨⟨_, _, _, rfl, by (repeat (first | (with_reducible assumption) | (with_reducible refine Big.drew ?_) | (with_reducible refine Big.drewN ?_ _) | (with_reducible refine Big.alloc ?_ _) | (with_reducible refine Big.later ?_ _) | (with_reducible refine Big.setCell ?_ _ (by go_simp))))⟩, by (repeat' first | (with_reducible first | exact Below.refl _ _ | assumption | refine Later.belowOf _ ?_ ?_ | refine Below.alloc ?_ ?_ _ | refine Below.setCell ?_ ?_ _ | refine Below.drewN' _ ?_ | refine Below.drew ?_ | exact Ge.le) | go_size)⟩
  · by_cases c2 : i < -9218868437227405311
    · obtain rfl : i = -9218868437227405312 := by omega
      refine ⟨true, 1, 1024, ?_, b2, by decide, by decide, ?_⟩
      · rw [pv_neg (by decide)]
        show -((1 * pw ((1024 : Int) + 1074).toNat : Nat) : Int) = -((G INFR : Nat) : Int)
        rw [gI, Nat.one_mul]; rfl
      · intro w
        clear gI b2
        go_enter Tryz.func305, Tryz.ntmps305
        go_wp2_with (go_at_call 23; refine (O.out _).mono ?_; rintro _ _ ⟨A2, k2, c2, q2, hq3, hk3, hk4, rfl, rfl⟩)
        go_returns
        have hq3' := hq3.out
        exact ⟨⟨_, _, _, rfl, by (repeat (first | (with_reducible assumption) | (with_reducible refine Big.drew ?_) | (with_reducible refine Big.drewN ?_ _) | (with_reducible refine Big.alloc ?_ _) | (with_reducible refine Big.later ?_ _) | (with_reducible refine Big.setCell ?_ _ (by go_simp))))⟩, by (repeat' first | (with_reducible first | exact Below.refl _ _ | assumption | refine Later.belowOf _ ?_ ?_ | refine Below.alloc ?_ ?_ _ | refine Below.setCell ?_ ?_ _ | refine Below.drewN' _ ?_ | refine Below.drew ?_ | exact Ge.le) | go_size)⟩
    · have hb := nan_bits h1 h2
      have hf : finB (bitsOf i) = true := by
        rw [finB_rung]
        have h3 := hb.2.1
        unfold idx at h3
        have : rung (bitsOf i) < INFR := by
          unfold INFR
          cases hs : sgn (bitsOf i) <;> rw [hs] at h3 <;> simp at h3 <;> omega
        exact this
      have hr := qE_range (bitsOf i)
      refine ⟨qNeg (bitsOf i), fM (bitsOf i), qE (bitsOf i), by rw [nv_float _ hf, val_bits h1 h2], fM_bp _, hr.1, by omega, ?_⟩
      intro w
      have fl := fun w => NumRes.go (float_any (bitsOf i) hb.2.2 w)
      have a1 := at_any i h1 h2
      generalize qNeg (bitsOf i) = s at *
      generalize fM (bitsOf i) = m at *
      generalize qE (bitsOf i) = e at *
      generalize bitsOf i = x at *
      have F := Lib.hid fl
      clear fl hr hf hb gI b2 O
      go_enter Tryz.func305, Tryz.ntmps305
      go_wp2_with (first | (go_at_call 111; refine (a1.go _).mono ?_; rintro _ _ ⟨q1, rfl, rfl⟩) | (go_at_call 62; refine (F.out _).mono ?_; rintro _ _ ⟨A2, k2, c2, q2, hq3, rfl, rfl⟩))
      go_returns
      have hq3' := hq3.out
      exact ⟨⟨_, _, _, rfl, by (repeat (first | (with_reducible assumption) | (with_reducible refine Big.drew ?_) | (with_reducible refine Big.drewN ?_ _) | (with_reducible refine Big.alloc ?_ _) | (with_reducible refine Big.later ?_ _) | (with_reducible refine Big.setCell ?_ _ (by go_simp))))⟩, by (repeat' first | (with_reducible first | exact Below.refl _ _ | assumption | refine Later.belowOf _ ?_ ?_ | refine Below.alloc ?_ ?_ _ | refine Below.setCell ?_ ?_ _ | refine Below.drewN' _ ?_ | refine Below.drew ?_ | exact Ge.le) | go_size)⟩
end Go.Proofs.YtkmgfbhnioojhaaGreat

/- Contracts: the reference: is a number not above an exact one, is it it? -/
namespace Go.Proofs.YtkmgfbhnioojhaaGreat
set_option linter.unusedSimpArgs false
set_option linter.unusedVariables false
open Go.RowKit
open Fl

def BoolRes (b : Bool) (w : World) (E : Ending) (w' : World) : Prop := E = .returned (.bool b) ∧ Below w.heap.size w w'
theorem BoolRes.go {f : FuncId} {args : Array Value} {b : Bool} {w : World} (h : Calls Tryz.prog f args w (BoolRes b w)) : Calls Tryz.prog f args w fun e w' => ∃ (k : Later w), e = .returned (.bool b) ∧ w' = k.val :=
  h.mono fun _ w' ⟨he, hbl⟩ => ⟨⟨w', hbl⟩, he, rfl⟩

set_option maxHeartbeats 8000000 in
set_option maxRecDepth 100000 in
theorem belowQ_walk (s sa sb : Bool) (p ma mb : Nat) (g ea eb K : Int) (R A B : Option Addr) (rk rc ak ac bk bc : Nat) (w : World) (hr : BigS w (.slice R rk rc) p) (ha : BigS w (.slice A ak ac) ma) (hb : BigS w (.slice B bk bc) mb)
    (lp : p < bp 100) (lma : ma < bp 2000) (lmb : mb < bp 100) (g0 : -20000 ≤ g) (g1 : g ≤ 20000) (a0 : -20000 ≤ ea) (a1 : ea ≤ 20000) (b0 : -20000 ≤ eb) (b1 : eb ≤ 20000) (hK1 : 0 ≤ prodE p mb g eb + K) (hK2 : 0 ≤ ea + K) :
    Calls Tryz.prog 306 #[(.agg #[.bool s, (.slice R rk rc), .int .i64 g]), (.agg #[.bool sa, (.slice A ak ac), .int .i64 ea, .bool sb, (.slice B bk bc), .int .i64 eb, .bool false])] w
      (BoolRes (if sgnI sb mb < 0 then decide (0 ≤ ordI (nv K (prodS s sb p mb) (p * mb) (prodE p mb g eb)) (nv K sa ma ea)) else decide (ordI (nv K (prodS s sb p mb) (p * mb) (prodE p mb g eb)) (nv K sa ma ea) ≤ 0)) w) := by
  have lpm : p * mb < bp 200 := by
    have := Nat.mul_lt_mul'' lp lmb
    rwa [← bp_add] at this
  have pr := fun (w1 : World) (h : Below w.heap.size w w1) => NumRes.go (product_any s sb R rk rc B bk bc p mb g eb w1 (hr.at h) (hb.at h) (Nat.lt_of_lt_of_le lp (bp_le (by decide))) (Nat.lt_of_lt_of_le lmb (bp_le (by decide))) (by omega) (by omega) (by omega) (by omega))
  have pe : -40000 ≤ prodE p mb g eb ∧ prodE p mb g eb ≤ 40000 := by unfold prodE; split <;> omega
  have od := fun (w2 : World) (h : Below w.heap.size w w2) (A' : Option Addr) (k' c' : Nat) (hq : BigS w2 (.slice A' k' c') (p * mb)) => IntRes.go (order_any (K := K) (prodS s sb p mb) sa A' k' c' A ak ac (p * mb) ma (prodE p mb g eb) ea w2 hq (ha.at h) (Nat.lt_of_lt_of_le lpm (bp_le (by decide))) (Nat.lt_of_lt_of_le lma (bp_le (by decide))) (by omega) (by omega) (by omega) (by omega) hK1 hK2)
  have sg := fun (w1 : World) (h : Below w.heap.size w w1) => IntRes.go (sign_any sb (.slice B bk bc) mb eb w1 (hb.at h))
  generalize ordI (nv K (prodS s sb p mb) (p * mb) (prodE p mb g eb)) (nv K sa ma ea) = n at *
  generalize prodS s sb p mb = ps at *
  generalize prodE p mb g eb = pe' at *
  generalize p * mb = pm at *
  generalize sgnI sb mb = sn at *
  have PR := Lib.hid pr
  have OD := Lib.hid od
  have SG := Lib.hid sg
  clear pr od sg hr ha hb lp lma lmb lpm hK1 hK2
  by_cases hs : sn < 0
  all_goals
    first | rw [if_pos hs] | rw [if_neg hs]
    go_enter Tryz.func306, Tryz.ntmps306
    go_wp2_with (fail)
    go_region_held3 (fun w' => w'.cell? ⟨w.heap.size, 0, none⟩ = some (.bool s) ∧ w'.cell? ⟨w.heap.size, 1, none⟩ = some (.slice R rk rc) ∧ w'.cell? ⟨w.heap.size, 2, none⟩ = some (.int .i64 g) ∧ w'.cell? ⟨w.heap.size + 1, 0, none⟩ = some (.bool sa) ∧ w'.cell? ⟨w.heap.size + 1, 1, none⟩ = some (.slice A ak ac) ∧ w'.cell? ⟨w.heap.size + 1, 2, none⟩ = some (.int .i64 ea) ∧ w'.cell? ⟨w.heap.size + 1, 3, none⟩ = some (.bool sb) ∧ w'.cell? ⟨w.heap.size + 1, 4, none⟩ = some (.slice B bk bc) ∧ w'.cell? ⟨w.heap.size + 1, 5, none⟩ = some (.int .i64 eb))
      (first | (go_simp; done) | go_keep)
      ((first | (go_at_call 67; refine (PR.out _ (by (repeat' first | (with_reducible first | exact Below.refl _ _ | assumption | refine Later.belowOf _ ?_ ?_ | refine Below.alloc ?_ ?_ _ | refine Below.setCell ?_ ?_ _ | refine Below.drewN' _ ?_ | refine Below.drew ?_ | exact Ge.le) | go_size))).mono ?_; rintro _ _ ⟨A2, k2, c2, q2, hq3, rfl, rfl⟩; have hq3' := hq3.out) | (go_at_call 89; refine (OD.out _ (by (repeat' first | (with_reducible first | exact Below.refl _ _ | assumption | refine Later.belowOf _ ?_ ?_ | refine Below.alloc ?_ ?_ _ | refine Below.setCell ?_ ?_ _ | refine Below.drewN' _ ?_ | refine Below.drew ?_ | exact Ge.le) | go_size)) _ _ _ (Big.stays (by (repeat (first | (with_reducible assumption) | (with_reducible refine Big.drew ?_) | (with_reducible refine Big.drewN ?_ _) | (with_reducible refine Big.alloc ?_ _) | (with_reducible refine Big.later ?_ _) | (with_reducible refine Big.setCell ?_ _ (by go_simp))))))).mono ?_; rintro _ _ ⟨q4, rfl, rfl⟩)))
    all_goals
      rename_i hHeld
      clear hHeld
      go_wp2_with (go_at_call 81; refine (SG.out _ (by (repeat' first | (with_reducible first | exact Below.refl _ _ | assumption | refine Later.belowOf _ ?_ ?_ | refine Below.alloc ?_ ?_ _ | refine Below.setCell ?_ ?_ _ | refine Below.drewN' _ ?_ | refine Below.drew ?_ | exact Ge.le) | go_size))).mono ?_; rintro _ _ ⟨q6, rfl, rfl⟩)
      go_ret
      exact ⟨rfl, by (repeat' first | (with_reducible first | exact Below.refl _ _ | assumption | refine Later.belowOf _ ?_ ?_ | refine Below.alloc ?_ ?_ _ | refine Below.setCell ?_ ?_ _ | refine Below.drewN' _ ?_ | refine Below.drew ?_ | exact Ge.le) | go_size)⟩

set_option maxHeartbeats 8000000 in
set_option maxRecDepth 100000 in
theorem sameQ_walk (s sa sb : Bool) (p ma mb : Nat) (g ea eb K : Int) (R A B : Option Addr) (rk rc ak ac bk bc : Nat) (w : World) (hr : BigS w (.slice R rk rc) p) (ha : BigS w (.slice A ak ac) ma) (hb : BigS w (.slice B bk bc) mb)
    (lp : p < bp 100) (lma : ma < bp 2000) (lmb : mb < bp 100) (g0 : -20000 ≤ g) (g1 : g ≤ 20000) (a0 : -20000 ≤ ea) (a1 : ea ≤ 20000) (b0 : -20000 ≤ eb) (b1 : eb ≤ 20000) (hK1 : 0 ≤ prodE p mb g eb + K) (hK2 : 0 ≤ ea + K) :
    Calls Tryz.prog 304 #[(.agg #[.bool s, (.slice R rk rc), .int .i64 g]), (.agg #[.bool sa, (.slice A ak ac), .int .i64 ea, .bool sb, (.slice B bk bc), .int .i64 eb, .bool false])] w
      (BoolRes (ordI (nv K (prodS s sb p mb) (p * mb) (prodE p mb g eb)) (nv K sa ma ea) == 0) w) := by
  have lpm : p * mb < bp 200 := by
    have := Nat.mul_lt_mul'' lp lmb
    rwa [← bp_add] at this
  have pr := fun (w1 : World) (h : Below w.heap.size w w1) => NumRes.go (product_any s sb R rk rc B bk bc p mb g eb w1 (hr.at h) (hb.at h) (Nat.lt_of_lt_of_le lp (bp_le (by decide))) (Nat.lt_of_lt_of_le lmb (bp_le (by decide))) (by omega) (by omega) (by omega) (by omega))
  have pe : -40000 ≤ prodE p mb g eb ∧ prodE p mb g eb ≤ 40000 := by unfold prodE; split <;> omega
  have od := fun (w2 : World) (h : Below w.heap.size w w2) (A' : Option Addr) (k' c' : Nat) (hq : BigS w2 (.slice A' k' c') (p * mb)) => IntRes.go (order_any (K := K) (prodS s sb p mb) sa A' k' c' A ak ac (p * mb) ma (prodE p mb g eb) ea w2 hq (ha.at h) (Nat.lt_of_lt_of_le lpm (bp_le (by decide))) (Nat.lt_of_lt_of_le lma (bp_le (by decide))) (by omega) (by omega) (by omega) (by omega) hK1 hK2)
  generalize ordI (nv K (prodS s sb p mb) (p * mb) (prodE p mb g eb)) (nv K sa ma ea) = n at *
  generalize prodS s sb p mb = ps at *
  generalize prodE p mb g eb = pe' at *
  generalize p * mb = pm at *
  have PR := Lib.hid pr
  have OD := Lib.hid od
  clear pr od hr ha hb lp lma lmb lpm hK1 hK2
  cases hn : (n == 0)
  all_goals
    go_enter Tryz.func304, Tryz.ntmps304
    go_wp2_with (fail)
    go_region_held3 (fun w' => w'.cell? ⟨w.heap.size, 0, none⟩ = some (.bool s) ∧ w'.cell? ⟨w.heap.size, 1, none⟩ = some (.slice R rk rc) ∧ w'.cell? ⟨w.heap.size, 2, none⟩ = some (.int .i64 g) ∧ w'.cell? ⟨w.heap.size + 1, 0, none⟩ = some (.bool sa) ∧ w'.cell? ⟨w.heap.size + 1, 1, none⟩ = some (.slice A ak ac) ∧ w'.cell? ⟨w.heap.size + 1, 2, none⟩ = some (.int .i64 ea) ∧ w'.cell? ⟨w.heap.size + 1, 3, none⟩ = some (.bool sb) ∧ w'.cell? ⟨w.heap.size + 1, 4, none⟩ = some (.slice B bk bc) ∧ w'.cell? ⟨w.heap.size + 1, 5, none⟩ = some (.int .i64 eb))
      (first | (go_simp; done) | go_keep)
      ((first | (go_at_call 67; refine (PR.out _ (by (repeat' first | (with_reducible first | exact Below.refl _ _ | assumption | refine Later.belowOf _ ?_ ?_ | refine Below.alloc ?_ ?_ _ | refine Below.setCell ?_ ?_ _ | refine Below.drewN' _ ?_ | refine Below.drew ?_ | exact Ge.le) | go_size))).mono ?_; rintro _ _ ⟨A2, k2, c2, q2, hq3, rfl, rfl⟩; have hq3' := hq3.out) | (go_at_call 89; refine (OD.out _ (by (repeat' first | (with_reducible first | exact Below.refl _ _ | assumption | refine Later.belowOf _ ?_ ?_ | refine Below.alloc ?_ ?_ _ | refine Below.setCell ?_ ?_ _ | refine Below.drewN' _ ?_ | refine Below.drew ?_ | exact Ge.le) | go_size)) _ _ _ (Big.stays (by (repeat (first | (with_reducible assumption) | (with_reducible refine Big.drew ?_) | (with_reducible refine Big.drewN ?_ _) | (with_reducible refine Big.alloc ?_ _) | (with_reducible refine Big.later ?_ _) | (with_reducible refine Big.setCell ?_ _ (by go_simp))))))).mono ?_; rintro _ _ ⟨q4, rfl, rfl⟩)))
    all_goals
      rename_i hHeld
      clear hHeld
      go_wp2
      go_ret
      exact ⟨rfl, by (repeat' first | (with_reducible first | exact Below.refl _ _ | assumption | refine Later.belowOf _ ?_ ?_ | refine Below.alloc ?_ ?_ _ | refine Below.setCell ?_ ?_ _ | refine Below.drewN' _ ?_ | refine Below.drew ?_ | exact Ge.le) | go_size)⟩

end Go.Proofs.YtkmgfbhnioojhaaGreat

/- Contracts: the reference's rounding. -/
namespace Go.Proofs.YtkmgfbhnioojhaaGreat
set_option linter.unusedSimpArgs false
set_option linter.unusedVariables false
open Go.RowKit
open Fl

/-- x is the exact S / D: whether a number is not above it, whether it is it, is answered so. -/
structure Oracle (w : World) (x : Value) (S : Int) (D : Nat) : Prop where
  pos : 0 < D
  below : ∀ (w1 : World), Below w.heap.size w w1 → ∀ (s : Bool) (p : Nat) (g : Int) (R : Option Addr) (rk rc : Nat), BigS w1 (.slice R rk rc) p → p < bp 100 → -1075 ≤ g → g ≤ 1100 →
    Calls Tryz.prog 306 #[(.agg #[.bool s, (.slice R rk rc), .int .i64 g]), x] w1 (BoolRes (decide (nv 1075 s p g * D ≤ 2 * S)) w1)
  same : ∀ (w1 : World), Below w.heap.size w w1 → ∀ (s : Bool) (p : Nat) (g : Int) (R : Option Addr) (rk rc : Nat), BigS w1 (.slice R rk rc) p → p < bp 100 → -1075 ≤ g → g ≤ 1100 →
    Calls Tryz.prog 304 #[(.agg #[.bool s, (.slice R rk rc), .int .i64 g]), x] w1 (BoolRes (decide (nv 1075 s p g * D = 2 * S)) w1)

theorem Oracle.at {w w1 : World} {x : Value} {S : Int} {D : Nat} (h : Oracle w x S D) (hb : Below w.heap.size w w1) : Oracle w1 x S D :=
  ⟨h.pos, fun w2 h2 => h.below w2 (hb.trans (h2.mono hb.size)), fun w2 h2 => h.same w2 (hb.trans (h2.mono hb.size))⟩

/-- A quotient. -/
theorem oracleQ (sa sb : Bool) (ma mb : Nat) (ea eb L : Int) (A B : Option Addr) (ak ac bk bc : Nat) (w : World) (ha : BigS w (.slice A ak ac) ma) (hb : BigS w (.slice B bk bc) mb)
    (lma : ma < bp 2000) (lmb : mb < bp 100) (hmb : mb ≠ 0) (a0 : -20000 ≤ ea) (a1 : ea ≤ 20000) (b0 : -20000 ≤ eb) (b1 : eb ≤ 20000) (hL0 : 0 ≤ L) (hL1 : 0 ≤ eb + L) (hL2 : 0 ≤ ea + (1075 + L)) :
    Oracle w (.agg #[.bool sa, (.slice A ak ac), .int .i64 ea, .bool sb, (.slice B bk bc), .int .i64 eb, .bool false]) (qS (nv (1075 + L) sa ma ea) (nv L sb mb eb)) (2 * (nv L sb mb eb).natAbs) := by
  have hp : ∀ (p : Nat) (g : Int), -1075 ≤ g → 0 ≤ prodE p mb g eb + (1075 + L) := by intro p g hg; unfold prodE; split <;> omega
  have hnz : (nv L sb mb eb).natAbs ≠ 0 := by
    have := nv_pos L eb hmb
    unfold nv
    generalize mb * pw (eb + L).toNat = z at *
    cases sb
    · show (z : Int).natAbs ≠ 0; omega
    · show (-(z : Int)).natAbs ≠ 0; omega
  refine ⟨by omega, ?_, ?_⟩
  · intro w1 h s p g R rk rc hr lp g0 g1
    rw [← belowQ_eq (sgn_nv L sb mb eb).1, ← prod_amount s sb p mb g eb (by omega) hL1]
    exact belowQ_walk s sa sb p ma mb g ea eb (1075 + L) R A B rk rc ak ac bk bc w1 hr (ha.at h) (hb.at h) lp lma lmb (by omega) (by omega) a0 a1 b0 b1 (hp p g g0) hL2
  · intro w1 h s p g R rk rc hr lp g0 g1
    rw [← sameQ_eq, ← prod_amount s sb p mb g eb (by omega) hL1]
    exact sameQ_walk s sa sb p ma mb g ea eb (1075 + L) R A B rk rc ak ac bk bc w1 hr (ha.at h) (hb.at h) lp lma lmb (by omega) (by omega) a0 a1 b0 b1 (hp p g g0) hL2

/-- A place's number, held against it. -/
theorem nv_half {i : Int} (h1 : -9218868437227405311 ≤ i) (h2 : i ≤ 9218868437227405311) : nv 1075 (qNeg (bitsOf i)) (fM (bitsOf i)) (qE (bitsOf i)) = 2 * pv i := by
  have hf : finB (bitsOf i) = true := by
    have hb := nan_bits (show -9218868437227405312 ≤ i by omega) (show i ≤ 9218868437227405312 by omega)
    rw [finB_rung]
    have h3 := hb.2.1
    unfold idx at h3
    unfold INFR
    cases hs : sgn (bitsOf i) <;> rw [hs] at h3 <;> simp at h3 <;> omega
  have h := nv_float _ hf
  have hr := qE_range (bitsOf i)
  rw [val_bits (by omega) (by omega)] at h
  rw [← h]
  unfold nv
  have e : fM (bitsOf i) * pw (qE (bitsOf i) + 1075).toNat = 2 * (fM (bitsOf i) * pw (qE (bitsOf i) + 1074).toNat) := by
    rw [show (qE (bitsOf i) + 1075).toNat = (qE (bitsOf i) + 1074).toNat + 1 by omega, pw_add, pw_eq 1, Nat.pow_one, ← Nat.mul_assoc, Nat.mul_comm _ 2]
  rw [e]
  cases qNeg (bitsOf i) <;> simp <;> omega

def DownRes (S : Int) (D : Nat) (w : World) (E : Ending) (w' : World) : Prop := (∃ d, FloorAt S D d ∧ E = .returned (.int .i64 d)) ∧ Below w.heap.size w w'

def DownInv (S : Int) (D : Nat) (w1 : World) (a b : Value) (w : World) : Prop :=
  ∃ (lo hi : Int), a = .int .i64 lo ∧ b = .int .i64 hi ∧ -9218868437227405312 ≤ lo ∧ lo ≤ hi ∧ hi ≤ 9218868437227405311 ∧ (lo = -9218868437227405312 ∨ pv lo * D ≤ S) ∧ (hi = 9218868437227405311 ∨ S < pv (hi + 1) * D) ∧ ∃ q : Later w1, w = q.val

set_option maxHeartbeats 16000000 in
set_option maxRecDepth 100000 in
theorem down_any (S : Int) (D : Nat) (sa sb rt : Bool) (ea eb : Int) (A B : Option Addr) (ak ac bk bc : Nat) (w : World) (h : Oracle w (.agg #[.bool sa, (.slice A ak ac), .int .i64 ea, .bool sb, (.slice B bk bc), .int .i64 eb, .bool rt]) S D) :
    Calls Tryz.prog 303 #[(.agg #[.bool sa, (.slice A ak ac), .int .i64 ea, .bool sb, (.slice B bk bc), .int .i64 eb, .bool rt])] w (DownRes S D w) := by
  have H := Lib.hid h
  clear h
  go_enter Tryz.func303, Tryz.ntmps303
  go_wp2
  obtain ⟨w1, hw1⟩ : ∃ w1 : World, w1 = w.alloc (.cells #[.bool sa, .slice A ak ac, .int .i64 ea, .bool sb, .slice B bk bc, .int .i64 eb, .bool rt] 211) := ⟨_, rfl⟩
  have HW := Lib.hid hw1
  clear hw1
  go_loopw [3, 4] (fun a b wr => DownInv S D (w.alloc (.cells #[.bool sa, .slice A ak ac, .int .i64 ea, .bool sb, .slice B bk bc, .int .i64 eb, .bool rt] 211)) a b wr) (fun a b _ => (intOf b - intOf a).toNat)
  case atStart => exact ⟨_, _, rfl, rfl, by decide, by decide, by decide, Or.inl rfl, Or.inl rfl, ⟨_, Below.refl _ _⟩, rfl⟩
  case round =>
    obtain ⟨lo, hi, rfl, rfl, l1, l2, l3, f1, f2, q, rfl⟩ := hrel
    by_cases hlt : lo < hi
    · have hrng := mid_rng hlt l1 l3 rfl
      have F1 := Lib.hid f1
      have F2 := Lib.hid f2
      clear f1 f2
      have d1 := Int.mul_tdiv_add_tmod lo 2
      have d2 := Int.mul_tdiv_add_tmod hi 2
      have b1 : -1 ≤ lo.tmod 2 ∧ lo.tmod 2 ≤ 1 := by
        have h1 := Int.tmod_lt_of_pos lo (show (0 : Int) < 2 by decide)
        have h2 := Int.lt_tmod_of_pos lo (show (0 : Int) < 2 by decide)
        omega
      have b2 : -1 ≤ hi.tmod 2 ∧ hi.tmod 2 ≤ 1 := by
        have h1 := Int.tmod_lt_of_pos hi (show (0 : Int) < 2 by decide)
        have h2 := Int.lt_tmod_of_pos hi (show (0 : Int) < 2 by decide)
        omega
      have b3 : -1 ≤ (lo.tmod 2 + hi.tmod 2 + 1).tdiv 2 ∧ (lo.tmod 2 + hi.tmod 2 + 1).tdiv 2 ≤ 1 := by
        generalize lo.tmod 2 = r1 at *
        generalize hi.tmod 2 = r2 at *
        have : r1 + r2 = -2 ∨ r1 + r2 = -1 ∨ r1 + r2 = 0 ∨ r1 + r2 = 1 ∨ r1 + r2 = 2 := by omega
        rcases this with h | h | h | h | h <;> rw [h] <;> decide
      obtain ⟨q1, e1⟩ : ∃ q1, lo.tdiv 2 = q1 := ⟨_, rfl⟩
      obtain ⟨q2, e2⟩ : ∃ q2, hi.tdiv 2 = q2 := ⟨_, rfl⟩
      obtain ⟨r1, e3⟩ : ∃ r1, lo.tmod 2 = r1 := ⟨_, rfl⟩
      obtain ⟨r2, e4⟩ : ∃ r2, hi.tmod 2 = r2 := ⟨_, rfl⟩
      rw [e3, e4] at b3
      obtain ⟨t, e5⟩ : ∃ t, (r1 + r2 + 1).tdiv 2 = t := ⟨_, rfl⟩
      rw [e1, e2, e3, e4, e5] at hrng
      rw [e1, e3] at d1
      rw [e2, e4] at d2
      rw [e3] at b1
      rw [e4] at b2
      rw [e5] at b3
      have c1 : -5000000000000000000 ≤ q1 ∧ q1 ≤ 5000000000000000000 := by omega
      have c2 : -5000000000000000000 ≤ q2 ∧ q2 ≤ 5000000000000000000 := by omega
      obtain ⟨c11, c12⟩ := c1
      obtain ⟨c21, c22⟩ := c2
      obtain ⟨b11, b12⟩ := b1
      obtain ⟨b21, b22⟩ := b2
      obtain ⟨b31, b32⟩ := b3
      obtain ⟨m, hm⟩ : ∃ m, m = if q1 + q2 + t ≤ lo then lo + 1 else q1 + q2 + t := ⟨_, rfl⟩
      have hm1 : lo < m ∧ m ≤ hi := by rw [hm]; split <;> omega
      have at1 := at_any m (by omega) (by omega)
      have fl1 := fun w => NumRes.go (float_any (bitsOf m) (nan_bits (show -9218868437227405312 ≤ m by omega) (by omega)).2.2 w)
      have be1 := fun (w2 : World) (hb : Below w.heap.size w w2) (R : Option Addr) (rk rc : Nat) (hr : BigS w2 (.slice R rk rc) (fM (bitsOf m))) => BoolRes.go (H.out.below w2 hb (qNeg (bitsOf m)) (fM (bitsOf m)) (qE (bitsOf m)) R rk rc hr (Nat.lt_of_lt_of_le (fM_bp _) (bp_le (by decide))) (by have := qE_range (bitsOf m); omega) (by have := qE_range (bitsOf m); omega))
      rw [nv_half (by omega) (by omega), show (2 * pv m * (D : Int)) = 2 * (pv m * (D : Int)) by rw [Int.mul_assoc]] at be1
      have hdec : decide (2 * (pv m * (D : Int)) ≤ 2 * S) = decide (pv m * (D : Int) ≤ S) := by rw [Bool.eq_iff_iff]; simp only [decide_eq_true_eq]; omega
      rw [hdec] at be1
      clear hdec
      generalize bitsOf m = x at *
      generalize qNeg x = xs at *
      generalize fM x = xm at *
      generalize qE x = xe at *
      have FL1 := Lib.hid fl1
      have BE1 := Lib.hid be1
      have AT1 := Lib.hid at1
      have HM := Lib.hid hm
      have HD := Lib.hid (And.intro d1 d2)
      clear fl1 be1 at1 d1 d2
      by_cases hbe : pv m * (D : Int) ≤ S
      · have hb2 : decide (pv m * (D : Int) ≤ S) = true := by simpa using hbe
        rw [hb2] at BE1
        have HB := Lib.hid hbe
        clear hbe hb2
        by_cases hml : q1 + q2 + t ≤ lo
        · have e6 : lo + 1 = m := by rw [HM.out, if_pos hml]
          have e7 : q1 + q2 + t = lo := by omega
          have w6 : IntKind.i64.wrap (lo + 1) = m := by rw [e6]; exact IntWalk.i64_in _ ⟨by omega, by omega⟩
          have AT2 : Hid (Gives 111 #[.int .i64 (lo + 1)] (.float .f64 x)) := by rw [e6]; exact AT1
          have E6 := Lib.hid e6
          have H1 := Lib.hid hm1
          have m1 : -9218868437227405312 ≤ m := by omega
          have m2 : m ≤ 9218868437227405311 := by omega
          clear hrng hml hm1 e6 AT1
          go_wp2
          go_region_held3 (fun w' => w'.cell? ⟨w.heap.size, 0, none⟩ = some (.bool sa) ∧ w'.cell? ⟨w.heap.size, 1, none⟩ = some (.slice A ak ac) ∧ w'.cell? ⟨w.heap.size, 2, none⟩ = some (.int .i64 ea) ∧ w'.cell? ⟨w.heap.size, 3, none⟩ = some (.bool sb) ∧ w'.cell? ⟨w.heap.size, 4, none⟩ = some (.slice B bk bc) ∧ w'.cell? ⟨w.heap.size, 5, none⟩ = some (.int .i64 eb) ∧ w'.cell? ⟨w.heap.size, 6, none⟩ = some (.bool rt))
            (first | (go_simp; done) | go_keep)
            ((first | (go_at_call 111; refine (AT2.out.go _).mono ?_; rintro _ _ ⟨q7, rfl, rfl⟩) | (go_at_call 62; refine (FL1.out _).mono ?_; rintro _ _ ⟨A2, k2, c2, q2', hq3, rfl, rfl⟩; have hq3' := hq3.out) | (go_at_call 306; refine (BE1.out _ (by (repeat' first | (with_reducible first | exact Below.refl _ _ | assumption | refine Later.belowOf _ ?_ ?_ | refine Below.alloc ?_ ?_ _ | refine Below.setCell ?_ ?_ _ | refine Below.drewN' _ ?_ | refine Below.drew ?_ | exact Ge.le) | go_size)) _ _ _ (Big.stays (by (repeat (first | (with_reducible assumption) | (with_reducible refine Big.drew ?_) | (with_reducible refine Big.drewN ?_ _) | (with_reducible refine Big.alloc ?_ _) | (with_reducible refine Big.later ?_ _) | (with_reducible refine Big.setCell ?_ _ (by go_simp))))))).mono ?_; rintro _ _ ⟨q4, rfl, rfl⟩)))
          all_goals
            rename_i hHeld
            clear hHeld
            go_wp2
            have hm1 := H1.out
            have he6 := E6.out
            refine ⟨⟨m, hi, i64_eq (by omega), rfl, by omega, by omega, l3, Or.inr HB.out, F2.out, ⟨_, by (repeat' first | (with_reducible first | exact Below.refl _ _ | assumption | refine Later.belowOf _ ?_ ?_ | refine Below.alloc ?_ ?_ _ | refine Below.setCell ?_ ?_ _ | refine Below.drewN' _ ?_ | refine Below.drew ?_ | exact Ge.le) | go_size)⟩, rfl⟩, ?_⟩
            simp only [intOf]
            omega
        · have e6 : q1 + q2 + t = m := by rw [HM.out, if_neg hml]
          have H1 := Lib.hid hm1
          have hgt : lo < q1 + q2 + t := by omega
          have hge : q1 + q2 + t ≤ hi := by omega
          have AT2 : Hid (Gives 111 #[.int .i64 (q1 + q2 + t)] (.float .f64 x)) := by rw [e6]; exact AT1
          have E6 := Lib.hid e6
          clear hml hm1 hrng AT1 e6
          go_wp2
          go_region_held3 (fun w' => w'.cell? ⟨w.heap.size, 0, none⟩ = some (.bool sa) ∧ w'.cell? ⟨w.heap.size, 1, none⟩ = some (.slice A ak ac) ∧ w'.cell? ⟨w.heap.size, 2, none⟩ = some (.int .i64 ea) ∧ w'.cell? ⟨w.heap.size, 3, none⟩ = some (.bool sb) ∧ w'.cell? ⟨w.heap.size, 4, none⟩ = some (.slice B bk bc) ∧ w'.cell? ⟨w.heap.size, 5, none⟩ = some (.int .i64 eb) ∧ w'.cell? ⟨w.heap.size, 6, none⟩ = some (.bool rt))
            (first | (go_simp; done) | go_keep)
            ((first | (go_at_call 111; refine (AT2.out.go _).mono ?_; rintro _ _ ⟨q7, rfl, rfl⟩) | (go_at_call 62; refine (FL1.out _).mono ?_; rintro _ _ ⟨A2, k2, c2, q2', hq3, rfl, rfl⟩; have hq3' := hq3.out) | (go_at_call 306; refine (BE1.out _ (by (repeat' first | (with_reducible first | exact Below.refl _ _ | assumption | refine Later.belowOf _ ?_ ?_ | refine Below.alloc ?_ ?_ _ | refine Below.setCell ?_ ?_ _ | refine Below.drewN' _ ?_ | refine Below.drew ?_ | exact Ge.le) | go_size)) _ _ _ (Big.stays (by (repeat (first | (with_reducible assumption) | (with_reducible refine Big.drew ?_) | (with_reducible refine Big.drewN ?_ _) | (with_reducible refine Big.alloc ?_ _) | (with_reducible refine Big.later ?_ _) | (with_reducible refine Big.setCell ?_ _ (by go_simp))))))).mono ?_; rintro _ _ ⟨q4, rfl, rfl⟩)))
          all_goals
            rename_i hHeld
            clear hHeld
            go_wp2
            have hm1 := H1.out
            have he6 := E6.out
            refine ⟨⟨m, hi, i64_eq (by omega), rfl, by omega, by omega, l3, Or.inr HB.out, F2.out, ⟨_, by (repeat' first | (with_reducible first | exact Below.refl _ _ | assumption | refine Later.belowOf _ ?_ ?_ | refine Below.alloc ?_ ?_ _ | refine Below.setCell ?_ ?_ _ | refine Below.drewN' _ ?_ | refine Below.drew ?_ | exact Ge.le) | go_size)⟩, rfl⟩, ?_⟩
            simp only [intOf]
            omega
      · have hb2 : decide (pv m * (D : Int) ≤ S) = false := by simpa using hbe
        rw [hb2] at BE1
        have HB := Lib.hid hbe
        clear hbe hb2
        by_cases hml : q1 + q2 + t ≤ lo
        · have e6 : lo + 1 = m := by rw [HM.out, if_pos hml]
          have e7 : q1 + q2 + t = lo := by omega
          have w6 : IntKind.i64.wrap (lo + 1) = m := by rw [e6]; exact IntWalk.i64_in _ ⟨by omega, by omega⟩
          have AT2 : Hid (Gives 111 #[.int .i64 (lo + 1)] (.float .f64 x)) := by rw [e6]; exact AT1
          have E6 := Lib.hid e6
          have H1 := Lib.hid hm1
          have m1 : -9218868437227405312 ≤ m := by omega
          have m2 : m ≤ 9218868437227405311 := by omega
          clear hrng hml hm1 e6 AT1
          go_wp2
          go_region_held3 (fun w' => w'.cell? ⟨w.heap.size, 0, none⟩ = some (.bool sa) ∧ w'.cell? ⟨w.heap.size, 1, none⟩ = some (.slice A ak ac) ∧ w'.cell? ⟨w.heap.size, 2, none⟩ = some (.int .i64 ea) ∧ w'.cell? ⟨w.heap.size, 3, none⟩ = some (.bool sb) ∧ w'.cell? ⟨w.heap.size, 4, none⟩ = some (.slice B bk bc) ∧ w'.cell? ⟨w.heap.size, 5, none⟩ = some (.int .i64 eb) ∧ w'.cell? ⟨w.heap.size, 6, none⟩ = some (.bool rt))
            (first | (go_simp; done) | go_keep)
            ((first | (go_at_call 111; refine (AT2.out.go _).mono ?_; rintro _ _ ⟨q7, rfl, rfl⟩) | (go_at_call 62; refine (FL1.out _).mono ?_; rintro _ _ ⟨A2, k2, c2, q2', hq3, rfl, rfl⟩; have hq3' := hq3.out) | (go_at_call 306; refine (BE1.out _ (by (repeat' first | (with_reducible first | exact Below.refl _ _ | assumption | refine Later.belowOf _ ?_ ?_ | refine Below.alloc ?_ ?_ _ | refine Below.setCell ?_ ?_ _ | refine Below.drewN' _ ?_ | refine Below.drew ?_ | exact Ge.le) | go_size)) _ _ _ (Big.stays (by (repeat (first | (with_reducible assumption) | (with_reducible refine Big.drew ?_) | (with_reducible refine Big.drewN ?_ _) | (with_reducible refine Big.alloc ?_ _) | (with_reducible refine Big.later ?_ _) | (with_reducible refine Big.setCell ?_ _ (by go_simp))))))).mono ?_; rintro _ _ ⟨q4, rfl, rfl⟩)))
          all_goals
            rename_i hHeld
            clear hHeld
            go_wp2
            have hm1 := H1.out
            have he6 := E6.out
            refine ⟨⟨lo, m - 1, rfl, i64_eq (by omega), l1, by omega, by omega, F1.out, Or.inr ?_, ⟨_, by (repeat' first | (with_reducible first | exact Below.refl _ _ | assumption | refine Later.belowOf _ ?_ ?_ | refine Below.alloc ?_ ?_ _ | refine Below.setCell ?_ ?_ _ | refine Below.drewN' _ ?_ | refine Below.drew ?_ | exact Ge.le) | go_size)⟩, rfl⟩, ?_⟩
            · rw [show m - 1 + 1 = m by omega]
              exact HB.out
            · simp only [intOf]
              omega
        · have e6 : q1 + q2 + t = m := by rw [HM.out, if_neg hml]
          have H1 := Lib.hid hm1
          have hgt : lo < q1 + q2 + t := by omega
          have hge : q1 + q2 + t ≤ hi := by omega
          have AT2 : Hid (Gives 111 #[.int .i64 (q1 + q2 + t)] (.float .f64 x)) := by rw [e6]; exact AT1
          have E6 := Lib.hid e6
          clear hml hm1 hrng AT1 e6
          go_wp2
          go_region_held3 (fun w' => w'.cell? ⟨w.heap.size, 0, none⟩ = some (.bool sa) ∧ w'.cell? ⟨w.heap.size, 1, none⟩ = some (.slice A ak ac) ∧ w'.cell? ⟨w.heap.size, 2, none⟩ = some (.int .i64 ea) ∧ w'.cell? ⟨w.heap.size, 3, none⟩ = some (.bool sb) ∧ w'.cell? ⟨w.heap.size, 4, none⟩ = some (.slice B bk bc) ∧ w'.cell? ⟨w.heap.size, 5, none⟩ = some (.int .i64 eb) ∧ w'.cell? ⟨w.heap.size, 6, none⟩ = some (.bool rt))
            (first | (go_simp; done) | go_keep)
            ((first | (go_at_call 111; refine (AT2.out.go _).mono ?_; rintro _ _ ⟨q7, rfl, rfl⟩) | (go_at_call 62; refine (FL1.out _).mono ?_; rintro _ _ ⟨A2, k2, c2, q2', hq3, rfl, rfl⟩; have hq3' := hq3.out) | (go_at_call 306; refine (BE1.out _ (by (repeat' first | (with_reducible first | exact Below.refl _ _ | assumption | refine Later.belowOf _ ?_ ?_ | refine Below.alloc ?_ ?_ _ | refine Below.setCell ?_ ?_ _ | refine Below.drewN' _ ?_ | refine Below.drew ?_ | exact Ge.le) | go_size)) _ _ _ (Big.stays (by (repeat (first | (with_reducible assumption) | (with_reducible refine Big.drew ?_) | (with_reducible refine Big.drewN ?_ _) | (with_reducible refine Big.alloc ?_ _) | (with_reducible refine Big.later ?_ _) | (with_reducible refine Big.setCell ?_ _ (by go_simp))))))).mono ?_; rintro _ _ ⟨q4, rfl, rfl⟩)))
          all_goals
            rename_i hHeld
            clear hHeld
            go_wp2
            have hm1 := H1.out
            have he6 := E6.out
            refine ⟨⟨lo, m - 1, rfl, i64_eq (by omega), l1, by omega, by omega, F1.out, Or.inr ?_, ⟨_, by (repeat' first | (with_reducible first | exact Below.refl _ _ | assumption | refine Later.belowOf _ ?_ ?_ | refine Below.alloc ?_ ?_ _ | refine Below.setCell ?_ ?_ _ | refine Below.drewN' _ ?_ | refine Below.drew ?_ | exact Ge.le) | go_size)⟩, rfl⟩, ?_⟩
            · rw [show m - 1 + 1 = m by omega]
              exact HB.out
            · simp only [intOf]
              omega
    · obtain rfl : lo = hi := by omega
      have HF := Lib.hid (show FloorAt S D lo from ⟨l1, l3, f1, f2⟩)
      clear f1 f2 H
      go_wp2
      go_ret
      exact ⟨⟨lo, HF.out, rfl⟩, by (repeat' first | (with_reducible first | exact Below.refl _ _ | assumption | refine Later.belowOf _ ?_ ?_ | refine Below.alloc ?_ ?_ _ | refine Below.setCell ?_ ?_ _ | refine Below.drewN' _ ?_ | refine Below.drew ?_ | exact Ge.le) | go_size)⟩
end Go.Proofs.YtkmgfbhnioojhaaGreat
