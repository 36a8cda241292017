/- Contracts: a number made of whole bits and an exponent; rounding. -/
import Derived.Test.YtjdccbigaahkeaaW6
namespace Go.Proofs.Ytjdccbigaahkeaa
set_option linter.unusedSimpArgs false
set_option linter.unusedVariables false
open Go.RowKit
open Fl

/-- The rung of q 2^e, or what it is rounded to where there's no room. -/
def madeR (q e dir : Int) : Nat := if INFR ≤ (e + 1074).toNat * BIN + q.toNat then (if 0 ≤ dir then INFR else INFR - 1) else (e + 1074).toNat * BIN + q.toNat

def signP (neg : Bool) (r : Nat) : Nat := bitsOf (if neg then -(r : Int) else (r : Int))
theorem signP_word (neg : Bool) {r : Nat} (h : 0 < r) : signP neg r = word neg r := bitsOf_word neg r h
theorem signP_zero (neg : Bool) : signP neg 0 = 0 := by unfold signP; cases neg <;> rfl

set_option maxHeartbeats 2000000 in
theorem made_any (neg more : Bool) (hi lo e0 q e dir : Int) (h0 : 0 ≤ q) (h1 : q ≤ 9007199254740992) (he0 : -1074 ≤ e) (he1 : e ≤ 20000) (hE : e = -1074 ∨ 4503599627370496 ≤ q) :
    Gives 130 #[(.agg #[.bool neg, .int .u64 hi, .int .u64 lo, .int .i64 e0, .bool more]), .int .u64 q, .int .i64 e, .int .i64 dir] (.float .f64 (signP neg (madeR q e dir))) := by
  intro w
  by_cases hq : q = 0
  · have : madeR q e dir = 0 := by
      unfold madeR
      have : e = -1074 := by omega
      subst this; subst hq
      rw [if_neg (by decide)]
      decide
    rw [this, signP_zero]
    clear this h0 h1 hE
    subst hq
    go_enter Try.func130, Try.ntmps130
    go_wp2
    go_ret
    exact ⟨rfl, by (repeat' (first | (with_reducible exact Below.refl _ _) | (with_reducible assumption) | (with_reducible refine Later.belowOf _ ?_ ?_) | (with_reducible refine Below.alloc ?_ ?_ _) | (with_reducible refine Below.setCell ?_ ?_ _) | (with_reducible refine Below.drewN' _ ?_) | (with_reducible refine Below.drew ?_) | (with_reducible exact Ge.le) | go_size))⟩
  · have hq1 : 1 ≤ q.toNat := by omega
    obtain ⟨f, hf1, hf2, hf3, hf4, hf5⟩ := of_whole hq1 (by omega)
    have hqe : ((q.toNat : Nat) : Int) = q := by omega
    rw [hqe] at hf1
    have hlen := gives_len64 q h0 (by omega)
    have hroom := room_iff (q := q.toNat) (E := (e + 1074).toNat) hq1 (by unfold BIN; omega) (by unfold BIN; omega)
    have heE : (((e + 1074).toNat : Nat) : Int) - 1074 = e := by omega
    rw [heE] at hroom
    have lb : (1 : Int) ≤ (blen q.toNat : Int) := by have := blen_pos (n := q.toNat) (by omega); omega
    have lt : (blen q.toNat : Int) ≤ 54 := by have := blen_le (n := q.toNat) (k := 54) (by omega); omega
    have q0 : (q == 0) = false := by rw [beq_eq_false_iff_ne]; exact hq
    by_cases c : (blen q.toNat : Int) + e ≤ 1024
    · have hr := hroom.1 c
      have hm : madeR q e dir = (e + 1074).toNat * BIN + q.toNat := by unfold madeR; rw [if_neg (by omega)]
      have a1 := Ldexp_pos f e _ hf3 hf2 hf4 (by omega) (by omega)
      rw [hf5, G_at (E := (e + 1074).toNat) (by unfold BIN; omega) (by unfold BIN; omega) heE.symm hr] at a1
      rw [hm]
      have hpos : 0 < (e + 1074).toNat * BIN + q.toNat := by omega
      generalize (e + 1074).toNat * BIN + q.toNat = r at *
      generalize (blen q.toNat : Int) = L at *
      rw [signP_word neg hpos]
      have hneg := fneg_eq (x := r) (by unfold INFR at hr; omega)
      have hw : fneg r = word true r := by
        unfold fneg
        have e1 : rung r = r := Nat.mod_eq_of_lt (by unfold SW; unfold INFR at hr; omega)
        have e2 : sgn r = false := by unfold sgn; rw [Nat.div_eq_of_lt (by unfold SW; unfold INFR at hr; omega)]; rfl
        rw [e1, e2]; rfl
      rw [hw] at hneg
      clear hw hr hm hpos hf2 hf3 hf4 hf5 hroom heE hqe hE hq1
      cases neg
      all_goals
        go_enter Try.func130, Try.ntmps130
        go_wp2_with (first | (go_at_call 140; refine (hlen.go _).mono ?_; rintro _ _ ⟨k, rfl, rfl⟩) | (go_at_call 150; refine (a1.go _).mono ?_; rintro _ _ ⟨k, rfl, rfl⟩))
        go_ret
        exact ⟨ret_float (by unfold word; simp), by (repeat' (first | (with_reducible exact Below.refl _ _) | (with_reducible assumption) | (with_reducible refine Later.belowOf _ ?_ ?_) | (with_reducible refine Below.alloc ?_ ?_ _) | (with_reducible refine Below.setCell ?_ ?_ _) | (with_reducible refine Below.drewN' _ ?_) | (with_reducible refine Below.drew ?_) | (with_reducible exact Ge.le) | go_size))⟩
    · have hr := fun h => c (hroom.2 h)
      have hm : madeR q e dir = if 0 ≤ dir then INFR else INFR - 1 := by unfold madeR; rw [if_pos (by omega)]
      rw [hm]
      have n1 : Op.negFloat .f64 9218868437227405312 = 18442240474082181120 := by decide
      have n2 : Op.negFloat .f64 9218868437227405311 = 18442240474082181119 := by decide
      generalize (blen q.toNat : Int) = L at *
      clear hr hm hf2 hf3 hf4 hf5 hroom heE hqe hE hq1
      by_cases hd : 0 ≤ dir
      all_goals
        cases neg
        all_goals
          go_enter Try.func130, Try.ntmps130
          go_wp2_with (first | (go_at_call 140; refine (hlen.go _).mono ?_; rintro _ _ ⟨k, rfl, rfl⟩) | (go_at_call 88; refine (math_Inf_pos.go _).mono ?_; rintro _ _ ⟨k, rfl, rfl⟩))
          go_ret
          exact ⟨ret_float (by first | rw [if_pos hd] | rw [if_neg (by omega)] | skip; first | rfl | decide), by (repeat' (first | (with_reducible exact Below.refl _ _) | (with_reducible assumption) | (with_reducible refine Later.belowOf _ ?_ ?_) | (with_reducible refine Below.alloc ?_ ?_ _) | (with_reducible refine Below.setCell ?_ ?_ _) | (with_reducible refine Below.drewN' _ ?_) | (with_reducible refine Below.drew ?_) | (with_reducible exact Ge.le) | go_size))⟩
end Go.Proofs.Ytjdccbigaahkeaa
