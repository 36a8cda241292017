/- Contracts: floats taken apart. -/
import Derived.Test.YtjdccbigaahkeaaW8
import Derived.Test.YtjdccbigaahkeaaFlB
namespace Go.Proofs.Ytjdccbigaahkeaa
set_option linter.unusedSimpArgs false
set_option linter.unusedVariables false
open Go.RowKit
open Fl

@[go_sem] theorem build_pa (a : Bool) (b c : Int) (w : World) : (Instr.build 38 #[(0, .bool a), (1, .int .u64 b), (2, .int .i64 c)]).run Try.prog w = .ok (.agg #[.bool a, .int .u64 b, .int .i64 c]) w := run_build w 38 _ _ (by kernel_rfl)
@[go_sem] theorem build_pa0 (w : World) : (Instr.build 38 #[]).run Try.prog w = .ok (.agg #[.bool false, .int .u64 0, .int .i64 0]) w := run_build w 38 _ _ (by kernel_rfl)

def pNeg (x : Nat) : Bool := sgn x && decide (rung x ≠ 0)
def pM (x : Nat) : Int := mag (rung x)
def pE (x : Nat) : Int := if rung x = 0 then 0 else -1074 + exn (rung x)


theorem or_bit {m : Int} (h0 : 0 ≤ m) (h1 : m ≤ 4503599627370495) : bits BinOp.or IntKind.u64 m 4503599627370496 = m + 4503599627370496 := by
  rw [u64_or _ _ h0 (by omega) (by omega) (by omega)]
  have e : (4503599627370496 : Int).toNat = 1 <<< 52 := by decide
  rw [e, Nat.or_comm, ← Nat.shiftLeft_add_eq_or_of_lt (by omega)]
  omega

theorem flt_zero {x : Nat} (h : nan x = false) : flt x 0 = pNeg x := by
  unfold flt pNeg
  have z : nan 0 = false := by decide
  have z2 : idx 0 = 0 := by decide
  rw [h, z, z2]
  unfold idx
  cases sgn x
  · simp
  · rw [Bool.eq_iff_iff]; simp <;> omega

set_option maxHeartbeats 4000000 in
theorem split_fin (x : Nat) (hx : x < 18446744073709551616) (hf : finB x = true) : Gives 41 #[(.float .f64 x)] (.tuple #[(.agg #[.bool (pNeg x), .int .u64 (pM x), .int .i64 (pE x)]), .bool true]) := by
  intro w
  have hr : rung x < 9218868437227405312 := by simpa [finB] using hf
  have hn : nan x = false := nan_false.2 (by unfold INFR; omega)
  have i1 := isInf0_any x hx
  rw [isInf0_fact hn, show infinB x = false by unfold infinB; simp; omega] at i1
  have f1 : feq x x = true := by rw [feq_self, hn]; rfl
  have f2 := flt_zero hn
  have e1 : IntKind.u64.wrap ((x : Int) * 4096) / 4096 = ((rung x % BIN : Nat) : Int) := by
    rw [wrap64u]; unfold rung BIN SW; omega
  have e2 : IntKind.u64.wrap ((x : Int) * 2) / 9007199254740992 = ((rung x / BIN : Nat) : Int) := by
    rw [wrap64u]; unfold rung BIN SW; omega
  have hB : ((rung x / BIN : Nat) : Int) ≤ 2046 := by unfold BIN; omega
  have hB0 : 0 ≤ ((rung x / BIN : Nat) : Int) := Int.natCast_nonneg _
  have hm0 : 0 ≤ ((rung x % BIN : Nat) : Int) := Int.natCast_nonneg _
  have hm1 : ((rung x % BIN : Nat) : Int) ≤ 4503599627370495 := by unfold BIN; omega
  have ho := or_bit hm0 hm1
  have hpM : pM x = if ((rung x / BIN : Nat) : Int) = 0 then ((rung x % BIN : Nat) : Int) else ((rung x % BIN : Nat) : Int) + 4503599627370496 := by
    unfold pM mag BIN; split <;> split <;> omega
  have hpE : pE x = if ((rung x / BIN : Nat) : Int) = 0 then (if ((rung x % BIN : Nat) : Int) = 0 then 0 else -1074) else ((rung x / BIN : Nat) : Int) - 1075 := by
    unfold pE exn BIN; split <;> split <;> (try split) <;> omega
  have hpN : ((rung x / BIN : Nat) : Int) = 0 → ((rung x % BIN : Nat) : Int) = 0 → pNeg x = false := by
    intro h1 h2
    unfold pNeg
    have : rung x = 0 := by unfold BIN at h1 h2; omega
    simp [this]
  generalize ((rung x / BIN : Nat) : Int) = B at *
  generalize ((rung x % BIN : Nat) : Int) = m at *
  have l : (x : Int) ≤ 18446744073709551615 := by omega
  have HM := Lib.hid hpM
  have HE := Lib.hid hpE
  have HN := Lib.hid hpN
  clear hr hn hpM hpE hpN hx hf
  by_cases c1 : B = 0
  · subst c1
    by_cases c2 : m = 0
    · subst c2
      have hM : pM x = 0 := by rw [HM.out]; rfl
      have hE : pE x = 0 := by rw [HE.out]; rfl
      have hN : pNeg x = false := HN.out rfl rfl
      rw [hM, hE, hN]
      clear HM HE HN hM hE hN
      go_enter Try.func41, Try.ntmps41
      go_wp2_with (first | (go_at_call 100; refine (i1.go _).mono ?_; rintro _ _ ⟨k, rfl, rfl⟩) | (go_at_call 94; refine ((isNaN_any _).go _).mono ?_; rintro _ _ ⟨k, rfl, rfl⟩))
      go_returns
      exact ⟨rfl, by (repeat' (first | (with_reducible exact Below.refl _ _) | (with_reducible assumption) | (with_reducible refine Later.belowOf _ ?_ ?_) | (with_reducible refine Below.alloc ?_ ?_ _) | (with_reducible refine Below.setCell ?_ ?_ _) | (with_reducible refine Below.drewN' _ ?_) | (with_reducible refine Below.drew ?_) | (with_reducible exact Ge.le) | go_size))⟩
    · have c2' : (m == 0) = false := by rw [beq_eq_false_iff_ne]; exact c2
      have hM : pM x = m := by rw [HM.out]; rfl
      have hE : pE x = -1074 := by rw [HE.out, if_pos rfl, if_neg c2]
      rw [hM, hE]
      clear HM HE HN hM hE c2
      go_enter Try.func41, Try.ntmps41
      go_wp2_with (first | (go_at_call 100; refine (i1.go _).mono ?_; rintro _ _ ⟨k, rfl, rfl⟩) | (go_at_call 94; refine ((isNaN_any _).go _).mono ?_; rintro _ _ ⟨k, rfl, rfl⟩))
      go_returns
      exact ⟨rfl, by (repeat' (first | (with_reducible exact Below.refl _ _) | (with_reducible assumption) | (with_reducible refine Later.belowOf _ ?_ ?_) | (with_reducible refine Below.alloc ?_ ?_ _) | (with_reducible refine Below.setCell ?_ ?_ _) | (with_reducible refine Below.drewN' _ ?_) | (with_reducible refine Below.drew ?_) | (with_reducible exact Ge.le) | go_size))⟩
  · have c1' : (B == 0) = false := by rw [beq_eq_false_iff_ne]; exact c1
    have hM : pM x = m + 4503599627370496 := by rw [HM.out, if_neg c1]
    have hE : pE x = B + -1074 - 1 := by rw [HE.out, if_neg c1]; omega
    rw [hM, hE]
    clear HM HE HN hM hE c1
    by_cases c2 : m = 0
    · subst c2
      go_enter Try.func41, Try.ntmps41
      go_wp2_with (first | (go_at_call 100; refine (i1.go _).mono ?_; rintro _ _ ⟨k, rfl, rfl⟩) | (go_at_call 94; refine ((isNaN_any _).go _).mono ?_; rintro _ _ ⟨k, rfl, rfl⟩))
      go_returns
      exact ⟨rfl, by (repeat' (first | (with_reducible exact Below.refl _ _) | (with_reducible assumption) | (with_reducible refine Later.belowOf _ ?_ ?_) | (with_reducible refine Below.alloc ?_ ?_ _) | (with_reducible refine Below.setCell ?_ ?_ _) | (with_reducible refine Below.drewN' _ ?_) | (with_reducible refine Below.drew ?_) | (with_reducible exact Ge.le) | go_size))⟩
    · have c2' : (m == 0) = false := by rw [beq_eq_false_iff_ne]; exact c2
      go_enter Try.func41, Try.ntmps41
      go_wp2_with (first | (go_at_call 100; refine (i1.go _).mono ?_; rintro _ _ ⟨k, rfl, rfl⟩) | (go_at_call 94; refine ((isNaN_any _).go _).mono ?_; rintro _ _ ⟨k, rfl, rfl⟩))
      go_returns
      exact ⟨rfl, by (repeat' (first | (with_reducible exact Below.refl _ _) | (with_reducible assumption) | (with_reducible refine Later.belowOf _ ?_ ?_) | (with_reducible refine Below.alloc ?_ ?_ _) | (with_reducible refine Below.setCell ?_ ?_ _) | (with_reducible refine Below.drewN' _ ?_) | (with_reducible refine Below.drew ?_) | (with_reducible exact Ge.le) | go_size))⟩

set_option maxHeartbeats 1000000 in
theorem split_non (x : Nat) (hx : x < 18446744073709551616) (hf : finB x = false) : Gives 41 #[(.float .f64 x)] (.tuple #[(.agg #[.bool false, .int .u64 0, .int .i64 0]), .bool false]) := by
  intro w
  have i1 := isInf0_any x hx
  rcases tof (nan x) with hn | hn
  · have f1 : feq x x = false := by rw [feq_self, hn]; rfl
    clear hf hx
    go_enter Try.func41, Try.ntmps41
    go_wp2_with (first | (go_at_call 100; refine (i1.go _).mono ?_; rintro _ _ ⟨k, rfl, rfl⟩) | (go_at_call 94; refine ((isNaN_any _).go _).mono ?_; rintro _ _ ⟨k, rfl, rfl⟩))
    go_returns
    exact ⟨rfl, by (repeat' (first | (with_reducible exact Below.refl _ _) | (with_reducible assumption) | (with_reducible refine Later.belowOf _ ?_ ?_) | (with_reducible refine Below.alloc ?_ ?_ _) | (with_reducible refine Below.setCell ?_ ?_ _) | (with_reducible refine Below.drewN' _ ?_) | (with_reducible refine Below.drew ?_) | (with_reducible exact Ge.le) | go_size))⟩
  · have f1 : feq x x = true := by rw [feq_self, hn]; rfl
    have : infinB x = true := by
      unfold infinB finB at *
      have := nan_false.1 hn
      unfold INFR at this
      simp at *; omega
    rw [isInf0_fact hn, this] at i1
    clear hf hx
    go_enter Try.func41, Try.ntmps41
    go_wp2_with (first | (go_at_call 100; refine (i1.go _).mono ?_; rintro _ _ ⟨k, rfl, rfl⟩) | (go_at_call 94; refine ((isNaN_any _).go _).mono ?_; rintro _ _ ⟨k, rfl, rfl⟩))
    go_returns
    exact ⟨rfl, by (repeat' (first | (with_reducible exact Below.refl _ _) | (with_reducible assumption) | (with_reducible refine Later.belowOf _ ?_ ?_) | (with_reducible refine Below.alloc ?_ ?_ _) | (with_reducible refine Below.setCell ?_ ?_ _) | (with_reducible refine Below.drewN' _ ?_) | (with_reducible refine Below.drew ?_) | (with_reducible exact Ge.le) | go_size))⟩

def qNeg (x : Nat) : Bool := if finB x then pNeg x else false
def qM (x : Nat) : Int := if finB x then pM x else 0
def qE (x : Nat) : Int := if finB x then pE x else 0

theorem split_any (x : Nat) (hx : x < 18446744073709551616) : Gives 41 #[(.float .f64 x)] (.tuple #[(.agg #[.bool (qNeg x), .int .u64 (qM x), .int .i64 (qE x)]), .bool (finB x)]) := by
  unfold qNeg qM qE
  cases h : finB x
  · exact split_non x hx h
  · exact split_fin x hx h

set_option maxHeartbeats 2000000 in
theorem both_any (a b : Nat) (ha : a < 18446744073709551616) (hb : b < 18446744073709551616) : Gives 104 #[(.float .f64 a), (.float .f64 b)] (.tuple #[(.agg #[.bool (qNeg a), .int .u64 (qM a), .int .i64 (qE a)]), (.agg #[.bool (qNeg b), .int .u64 (qM b), .int .i64 (qE b)]), .bool (finB a && finB b)]) := by
  intro w
  have a1 := split_any a ha
  have a2 := split_any b hb
  clear ha hb
  refine (byB (finB a) (fun hc0 => ?_) (fun hc0 => ?_))
  all_goals
    go_enter Try.func104, Try.ntmps104
    go_wp2_with (go_at_call 41; first | ((with_reducible refine (a1.go _).mono ?_); rintro _ _ ⟨k, rfl, rfl⟩) | ((with_reducible refine (a2.go _).mono ?_); rintro _ _ ⟨k, rfl, rfl⟩))
    go_region
    all_goals (go_wp2; go_returns; exact ⟨by simp [*], by (repeat' (first | (with_reducible exact Below.refl _ _) | (with_reducible assumption) | (with_reducible refine Later.belowOf _ ?_ ?_) | (with_reducible refine Below.alloc ?_ ?_ _) | (with_reducible refine Below.setCell ?_ ?_ _) | (with_reducible refine Below.drewN' _ ?_) | (with_reducible refine Below.drew ?_) | (with_reducible exact Ge.le) | go_size))⟩)
end Go.Proofs.Ytjdccbigaahkeaa
