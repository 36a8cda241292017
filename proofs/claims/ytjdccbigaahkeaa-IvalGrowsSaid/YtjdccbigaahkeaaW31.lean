/- Contracts: the reference's operations: rounded parts; what is finite. -/
import Derived.Test.YtjdccbigaahkeaaW30
import Derived.Test.YtjdccbigaahkeaaW17
import Derived.Test.YtjdccbigaahkeaaFlE
namespace Go.Proofs.Ytjdccbigaahkeaa
set_option linter.unusedSimpArgs false
set_option linter.unusedVariables false
open Go.RowKit
open Fl

@[go_sem] theorem build_ex (sa sb : Bool) (A B : Option Addr) (ak ac bk bc : Nat) (ea eb : Int) (w : World) : (Instr.build 86 #[(0, (.agg #[.bool sa, (.slice A ak ac), .int .i64 ea])), (1, (.agg #[.bool sb, (.slice B bk bc), .int .i64 eb]))]).run Try.prog w = .ok (.agg #[.bool sa, (.slice A ak ac), .int .i64 ea, .bool sb, (.slice B bk bc), .int .i64 eb, .bool false]) w := run_build w 86 _ _ (by kernel_rfl)
@[go_sem] theorem build_ex_root (sa : Bool) (A : Option Addr) (ak ac : Nat) (ea : Int) (w : World) : (Instr.build 86 #[(0, (.agg #[.bool sa, (.slice A ak ac), .int .i64 ea])), (2, .bool true)]).run Try.prog w = .ok (.agg #[.bool sa, (.slice A ak ac), .int .i64 ea, .bool false, (.slice none 0 0), .int .i64 0, .bool true]) w := run_build w 86 _ _ (by kernel_rfl)

/-- A number's amount, by 1. -/
theorem whole_amount (K : Int) (s : Bool) (m : Nat) (e : Int) : qS (nv (1075 + K) s m e) (nv K false 1 0) = nv (1075 + K) s m e := by
  unfold qS
  rw [if_neg]
  unfold nv
  simp only [Bool.false_eq_true, if_false]
  omega

set_option maxHeartbeats 4000000 in
set_option maxRecDepth 100000 in
theorem bwhole_any (s : Bool) (m : Nat) (e L dir : Int) (A : Option Addr) (ak ac : Nat) (w : World) (ha : BigS w (.slice A ak ac) m) (lm : m < bp 2000) (e0 : -20000 ≤ e) (e1 : e ≤ 20000) (hL : 0 ≤ L) (hL2 : 0 ≤ e + (1075 + L)) :
    Calls Try.prog 102 #[(.agg #[.bool s, (.slice A ak ac), .int .i64 e]), .int .i64 dir] w (FloatRes (rnd (nv (1075 + L) s m e) (2 * pw L.toNat) dir) w) := by
  have b1 : 1 < bp 100 := by
    have : bp 1 ≤ bp 100 := bp_le (by decide)
    rw [bp_succ, bp_zero] at this
    omega
  have orc := fun (w1 : World) (hb : Below w.heap.size w w1) (B : Option Addr) (bk bc : Nat) (hB : BigS w1 (.slice B bk bc) 1) =>
    rounded_any _ _ dir _ _ _ _ _ _ _ _ _ _ _ w1 (oracleQ s false m 1 e 0 L A B ak ac bk bc w1 (ha.at hb) hB lm b1 (by decide) e0 e1 (by decide) (by decide) hL (by omega) hL2)
  have hD : 2 * (nv L false 1 0).natAbs = 2 * pw L.toNat := by
    unfold nv
    simp
  rw [whole_amount, hD] at orc
  have HA := Lib.hid ha
  have OR := Lib.hid (fun (w1 : World) (hb : Below w.heap.size w w1) (B : Option Addr) (bk bc : Nat) (hB : BigS w1 (.slice B bk bc) 1) => FloatRes.go (orc w1 hb B bk bc hB))
  have I1 := Lib.hid (fun w => NumRes.go (int1_any w))
  clear orc ha lm
  generalize rnd (nv (1075 + L) s m e) (2 * pw L.toNat) dir = x at *
  go_enter Try.func102, Try.ntmps102
  go_wp2_with (fail)
  go_region_held3 (fun w' => w'.cell? ⟨w.heap.size, 0, none⟩ = some (.bool s) ∧ w'.cell? ⟨w.heap.size, 1, none⟩ = some (.slice A ak ac) ∧ w'.cell? ⟨w.heap.size, 2, none⟩ = some (.int .i64 e))
    (first | (go_simp; done) | go_keep)
    ((first | (go_at_call 131; refine (I1.out _).mono ?_; rintro _ _ ⟨A2, k2, c2, q2, hq3, rfl, rfl⟩; have hq3' := hq3.out) | (go_at_call 115; refine (OR.out _ (by (repeat' (first | (with_reducible exact Below.refl _ _) | (with_reducible assumption) | (with_reducible refine Later.belowOf _ ?_ ?_) | (with_reducible refine Below.alloc ?_ ?_ _) | (with_reducible refine Below.setCell ?_ ?_ _) | (with_reducible refine Below.drewN' _ ?_) | (with_reducible refine Below.drew ?_) | (with_reducible exact Ge.le) | go_size))) _ _ _ (Big.stays (by (repeat (first | (with_reducible assumption) | (with_reducible refine Big.drew ?_) | (with_reducible refine Big.drewN ?_ _) | (with_reducible refine Big.alloc ?_ _) | (with_reducible refine Big.later ?_ _) | (with_reducible refine Big.setCell ?_ _ (by go_simp))))))).mono ?_; rintro _ _ ⟨q4, rfl, rfl⟩)))
  all_goals
    rename_i hHeld
    clear hHeld
    go_wp2
    go_ret
    exact ⟨rfl, by (repeat' (first | (with_reducible exact Below.refl _ _) | (with_reducible assumption) | (with_reducible refine Later.belowOf _ ?_ ?_) | (with_reducible refine Below.alloc ?_ ?_ _) | (with_reducible refine Below.setCell ?_ ?_ _) | (with_reducible refine Below.drewN' _ ?_) | (with_reducible refine Below.drew ?_) | (with_reducible exact Ge.le) | go_size))⟩

set_option maxHeartbeats 4000000 in
set_option maxRecDepth 100000 in
theorem round1_any (neg : Bool) (m : Nat) (hm : m < 18446744073709551616) (e dir : Int) (e0 : -9223372036854775808 ≤ e) (e1 : e ≤ 9223372036854775807) : Gives 45 #[(.agg #[.bool neg, .int .u64 m, .int .i64 e]), .int .i64 dir] (.float .f64 (partsS neg m e dir)) := by
  intro w
  obtain ⟨e5, h5⟩ : ∃ e5, e5 = min (max e (-5000)) 5000 := ⟨_, rfl⟩
  have hr := round_parts neg m hm e e5 dir h5
  have hp : partsS neg m e dir = rnd ((if neg then -(m : Int) else (m : Int)) * (pw (min (max e (-4000)) 4000 + 1074).toNat : Nat)) (pw (-(min (max e (-4000)) 4000 + 1074)).toNat) dir := rfl
  rw [hp, ← hr]
  have lm : m < bp 2000 := by
    have : bp 2 ≤ bp 2000 := bp_le (by decide)
    have h2 : bp 2 = 18446744073709551616 := by rw [bp_succ, bp_succ, bp_zero]
    omega
  have wh := fun (w1 : World) (A : Option Addr) (ak ac : Nat) (hA : BigS w1 (.slice A ak ac) m) => FloatRes.go (bwhole_any (neg && decide (m ≠ 0)) m e5 5000 dir A ak ac w1 hA lm (by omega) (by omega) (by decide) (by omega))
  have O := Lib.hid (fun w => BigRes.go (of_any m hm w))
  have WH := Lib.hid wh
  have hm2 : (m : Int) ≤ 18446744073709551615 := by omega
  clear hr hp wh lm
  generalize rnd (nv (1075 + 5000) (neg && decide (m ≠ 0)) m e5) (2 * pw (5000 : Int).toNat) dir = x at *
  have H5 := Lib.hid h5
  clear h5
  go_enter Try.func45, Try.ntmps45
  go_upto_if 9 with (fail)
  go_cut [5] (fun v wc => v = .int .i64 (min e 5000) ∧ wc = (w.alloc (.cells #[.bool neg, .int .u64 m, .int .i64 e] 38)))
  case first =>
    by_cases c1 : 5000 < e
    · have e2 : min e 5000 = 5000 := by omega
      have E2 := Lib.hid e2
      clear e2
      go_wp2
      go_meet
      case rel => exact ⟨i64_eq E2.out.symm, rfl⟩
    · have e2 : min e 5000 = e := by omega
      have E2 := Lib.hid e2
      clear e2
      go_wp2
      go_meet
      case rel => exact ⟨i64_eq E2.out.symm, rfl⟩
  case rest =>
    obtain ⟨rfl, rfl⟩ := hcut
    obtain ⟨e1', he1⟩ : ∃ x, x = min e 5000 := ⟨_, rfl⟩
    rw [← he1]
    have hb1 : -9223372036854775808 ≤ e1' := by omega
    have hb2 : e1' ≤ 5000 := by omega
    have HE1 := Lib.hid he1
    clear he1
    go_upto_if 11 with (fail)
    go_cut [5] (fun v wc => v = .int .i64 e5 ∧ wc = (w.alloc (.cells #[.bool neg, .int .u64 m, .int .i64 e] 38)))
    case first =>
      by_cases c1 : e1' < -5000
      · have e2 : e5 = -5000 := by have := H5.out; have := HE1.out; omega
        subst e2
        go_wp2
        go_meet
        case rel => exact ⟨rfl, rfl⟩
      · obtain rfl : e1' = e5 := by have := H5.out; have := HE1.out; omega
        go_wp2
        go_meet
        case rel => exact ⟨rfl, rfl⟩
    case rest =>
      obtain ⟨rfl, rfl⟩ := hcut
      have hc1 : -5000 ≤ e5 := by have := H5.out; omega
      have hc2 : e5 ≤ 5000 := by have := H5.out; omega
      cases neg
      · simp only [Bool.false_and] at WH
        go_wp2
        first
          | (go_region_with (first | (go_at_call 103; refine (O.out _).mono ?_; rintro _ _ ⟨A2, k2, c2, q2, hq3, hk3, hk4, rfl, rfl⟩; have hq3' := hq3.out) | (go_at_call 102; refine (WH.out _ _ _ _ (Big.stays (by (repeat (first | (with_reducible assumption) | (with_reducible refine Big.drew ?_) | (with_reducible refine Big.drewN ?_ _) | (with_reducible refine Big.alloc ?_ _) | (with_reducible refine Big.later ?_ _) | (with_reducible refine Big.setCell ?_ _ (by go_simp))))))).mono ?_; rintro _ _ ⟨q4, rfl, rfl⟩)))
          | fail "region"
        all_goals
          go_wp2
          go_ret
          exact ⟨rfl, by (repeat' (first | (with_reducible exact Below.refl _ _) | (with_reducible assumption) | (with_reducible refine Later.belowOf _ ?_ ?_) | (with_reducible refine Below.alloc ?_ ?_ _) | (with_reducible refine Below.setCell ?_ ?_ _) | (with_reducible refine Below.drewN' _ ?_) | (with_reducible refine Below.drew ?_) | (with_reducible exact Ge.le) | go_size))⟩
      · by_cases hm0 : m = 0
        · subst hm0
          simp only [ne_eq, not_true, decide_false, Bool.and_false] at WH
          go_wp2
          go_region_held3 (fun w' => w'.cell? ⟨w.heap.size, 0, none⟩ = some (.bool true) ∧ w'.cell? ⟨w.heap.size, 1, none⟩ = some (.int .u64 (0 : Nat)) ∧ w'.cell? ⟨w.heap.size, 2, none⟩ = some (.int .i64 e))
            (first | (go_simp; done) | go_keep)
            ((first | (go_at_call 103; refine (O.out _).mono ?_; rintro _ _ ⟨A2, k2, c2, q2, hq3, hk3, hk4, rfl, rfl⟩; have hq3' := hq3.out) | (go_at_call 102; refine (WH.out _ _ _ _ (Big.stays (by (repeat (first | (with_reducible assumption) | (with_reducible refine Big.drew ?_) | (with_reducible refine Big.drewN ?_ _) | (with_reducible refine Big.alloc ?_ _) | (with_reducible refine Big.later ?_ _) | (with_reducible refine Big.setCell ?_ _ (by go_simp))))))).mono ?_; rintro _ _ ⟨q4, rfl, rfl⟩)))
          all_goals
            rename_i hHeld
            clear hHeld
            go_wp2
            go_ret
            exact ⟨rfl, by (repeat' (first | (with_reducible exact Below.refl _ _) | (with_reducible assumption) | (with_reducible refine Later.belowOf _ ?_ ?_) | (with_reducible refine Below.alloc ?_ ?_ _) | (with_reducible refine Below.setCell ?_ ?_ _) | (with_reducible refine Below.drewN' _ ?_) | (with_reducible refine Below.drew ?_) | (with_reducible exact Ge.le) | go_size))⟩
        · have h0 : decide (m ≠ 0) = true := by simpa using hm0
          rw [h0] at WH
          simp only [Bool.and_true] at WH
          have hpos : (0 : Int) < (m : Int) := by omega
          have hpos2 : 0 < m := by omega
          clear hm0 h0
          go_wp2
          go_region_held3 (fun w' => w'.cell? ⟨w.heap.size, 0, none⟩ = some (.bool true) ∧ w'.cell? ⟨w.heap.size, 1, none⟩ = some (.int .u64 m) ∧ w'.cell? ⟨w.heap.size, 2, none⟩ = some (.int .i64 e))
            (first | (go_simp; done) | go_keep)
            ((first | (go_at_call 103; refine (O.out _).mono ?_; rintro _ _ ⟨A2, k2, c2, q2, hq3, hk3, hk4, rfl, rfl⟩; have hq3' := hq3.out) | (go_at_call 102; refine (WH.out _ _ _ _ (Big.stays (by (repeat (first | (with_reducible assumption) | (with_reducible refine Big.drew ?_) | (with_reducible refine Big.drewN ?_ _) | (with_reducible refine Big.alloc ?_ _) | (with_reducible refine Big.later ?_ _) | (with_reducible refine Big.setCell ?_ _ (by go_simp))))))).mono ?_; rintro _ _ ⟨q4, rfl, rfl⟩)))
          all_goals
            rename_i hHeld
            clear hHeld
            go_wp2
            go_ret
            exact ⟨rfl, by (repeat' (first | (with_reducible exact Below.refl _ _) | (with_reducible assumption) | (with_reducible refine Later.belowOf _ ?_ ?_) | (with_reducible refine Below.alloc ?_ ?_ _) | (with_reducible refine Below.setCell ?_ ?_ _) | (with_reducible refine Below.drewN' _ ?_) | (with_reducible refine Below.drew ?_) | (with_reducible exact Ge.le) | go_size))⟩
end Go.Proofs.Ytjdccbigaahkeaa
