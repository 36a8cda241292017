/- Contracts: numbers of 128 bits, shifted. -/
import Derived.Test.YtjdccbigaahkeaaW3
import Derived.Test.YtjdccbigaahkeaaShelf
import Derived.Test.YtjdccbigaahkeaaFlB
namespace Go.Proofs.Ytjdccbigaahkeaa
set_option linter.unusedSimpArgs false
set_option linter.unusedVariables false
open Go.RowKit
open Fl

theorem blen_eq {x : Nat} (h : x < 18446744073709551616) : Lib.bitLen x = blen x := by
  by_cases h0 : x = 0
  · subst h0; rw [blen_zero]; decide
  · have l1 := blen_ge h0
    have l2 := blen_lt x
    have hp := blen_pos h0
    generalize blen x = L at *
    obtain ⟨k, rfl⟩ : ∃ k, L = k + 1 := ⟨L - 1, by omega⟩
    rw [Nat.add_sub_cancel] at l1
    rw [Lib.bitLen_shift k x l1 h]
    have : x / 2 ^ k = 1 := by
      have p := Nat.two_pow_pos k
      rw [Nat.pow_succ] at l2
      have h1 : 1 ≤ x / 2 ^ k := (Nat.le_div_iff_mul_le p).2 (by omega)
      have h2 : x / 2 ^ k < 2 := (Nat.div_lt_iff_lt_mul p).2 (by omega)
      omega
    rw [this]
    have : Lib.bitLen 1 = 1 := by decide
    rw [this]

theorem gives_len64 (x : Int) (h0 : 0 ≤ x) (hx : x ≤ 18446744073709551615) : Gives 140 #[.int .u64 x] (.int .i64 (blen x.toNat)) := by
  intro w
  rw [← blen_eq (by omega)]
  exact (Try.bits_Len64 x w h0 hx).mono fun _ _ ⟨h, hw⟩ => ⟨h, hw ▸ Below.refl _ _⟩

def lenI (hi lo : Int) : Int := if 0 < hi then 64 + blen hi.toNat else blen lo.toNat

theorem blen_le64 {x : Int} (hx : x ≤ 18446744073709551615) : (blen x.toNat : Int) ≤ 64 := by
  have h1 := blen_le (n := x.toNat) (k := 64) (by omega)
  omega

set_option maxHeartbeats 400000 in
theorem vlen_any (neg more : Bool) (hi lo : Int) (e : Int) (h0 : 0 ≤ hi) (h1 : hi ≤ 18446744073709551615) (h2 : 0 ≤ lo) (h3 : lo ≤ 18446744073709551615) : Gives 128 #[(.agg #[.bool neg, .int .u64 hi, .int .u64 lo, .int .i64 e, .bool more])] (.int .i64 (lenI hi lo)) := by
  intro w
  have a1 := gives_len64 hi h0 h1
  have a2 := gives_len64 lo h2 h3
  have b1 := blen_le64 h1
  have b2 : (0 : Int) ≤ (blen hi.toNat : Int) := by omega
  generalize hg : (blen hi.toNat : Int) = L at *
  have Hg := Lib.hid hg
  clear hg
  by_cases h : 0 < hi
  · go_enter Try.func128, Try.ntmps128
    go_wp2_with (go_at_call 140; refine (a1.go _).mono ?_; rintro _ _ ⟨n, rfl, rfl⟩)
    go_ret
    exact ⟨ret_int (by unfold lenI; rw [if_pos h, Hg.out]), by (repeat' (first | (with_reducible exact Below.refl _ _) | (with_reducible assumption) | (with_reducible refine Later.belowOf _ ?_ ?_) | (with_reducible refine Below.alloc ?_ ?_ _) | (with_reducible refine Below.setCell ?_ ?_ _) | (with_reducible refine Below.drewN' _ ?_) | (with_reducible refine Below.drew ?_) | (with_reducible exact Ge.le) | go_size))⟩
  · go_enter Try.func128, Try.ntmps128
    go_wp2_with (go_at_call 140; refine (a2.go _).mono ?_; rintro _ _ ⟨n, rfl, rfl⟩)
    go_ret
    exact ⟨ret_int (by unfold lenI; rw [if_neg (by omega)]), by (repeat' (first | (with_reducible exact Below.refl _ _) | (with_reducible assumption) | (with_reducible refine Later.belowOf _ ?_ ?_) | (with_reducible refine Below.alloc ?_ ?_ _) | (with_reducible refine Below.setCell ?_ ?_ _) | (with_reducible refine Below.drewN' _ ?_) | (with_reducible refine Below.drew ?_) | (with_reducible exact Ge.le) | go_size))⟩

set_option maxHeartbeats 1000000 in
theorem vright_any (neg more : Bool) (hi lo n : Int) (e : Int) (h0 : 0 ≤ hi) (h1 : hi ≤ 18446744073709551615) (h2 : 0 ≤ lo) (h3 : lo ≤ 18446744073709551615) (hn0 : 0 ≤ n) (hn : n ≤ 128) : Gives 148 #[(.agg #[.bool neg, .int .u64 hi, .int .u64 lo, .int .i64 e, .bool more]), .int .i64 n] (.int .u64 (rightI hi lo n.toNat)) := by
  intro w
  by_cases c1 : 128 ≤ n
  · have e1 := Lib.hid (right_far h0 h1 h2 h3 (n := n.toNat) (by omega))
    go_enter Try.func148, Try.ntmps148
    go_wp2
    go_ret
    exact ⟨ret_int (by rw [e1.out]), by (repeat' (first | (with_reducible exact Below.refl _ _) | (with_reducible assumption) | (with_reducible refine Later.belowOf _ ?_ ?_) | (with_reducible refine Below.alloc ?_ ?_ _) | (with_reducible refine Below.setCell ?_ ?_ _) | (with_reducible refine Below.drewN' _ ?_) | (with_reducible refine Below.drew ?_) | (with_reducible exact Ge.le) | go_size))⟩
  · by_cases c2 : 64 ≤ n
    · have e1 := Lib.hid (right_mid h0 h1 h2 h3 (n := n.toNat) (by omega))
      go_enter Try.func148, Try.ntmps148
      go_wp2
      go_ret
      exact ⟨ret_int (by rw [e1.out]; congr 2; omega), by (repeat' (first | (with_reducible exact Below.refl _ _) | (with_reducible assumption) | (with_reducible refine Later.belowOf _ ?_ ?_) | (with_reducible refine Below.alloc ?_ ?_ _) | (with_reducible refine Below.setCell ?_ ?_ _) | (with_reducible refine Below.drewN' _ ?_) | (with_reducible refine Below.drew ?_) | (with_reducible exact Ge.le) | go_size))⟩
    · by_cases c3 : n = 0
      · subst c3
        have e1 := Lib.hid (right_none (hi := hi) h2 h3)
        go_enter Try.func148, Try.ntmps148
        go_wp2
        go_ret
        exact ⟨ret_int (by first | exact e1.out.symm | (rw [show (0 : Int).toNat = 0 from rfl]; exact e1.out.symm)), by (repeat' (first | (with_reducible exact Below.refl _ _) | (with_reducible assumption) | (with_reducible refine Later.belowOf _ ?_ ?_) | (with_reducible refine Below.alloc ?_ ?_ _) | (with_reducible refine Below.setCell ?_ ?_ _) | (with_reducible refine Below.drewN' _ ?_) | (with_reducible refine Below.drew ?_) | (with_reducible exact Ge.le) | go_size))⟩
      · have c4 : (n == 0) = false := by rw [beq_eq_false_iff_ne]; exact c3
        have e1 := Lib.hid (right_near h0 h1 h2 h3 (n := n.toNat) (by omega) (by omega))
        have e2 := Lib.hid (show 64 - n.toNat = (64 - n).toNat by omega)
        go_enter Try.func148, Try.ntmps148
        go_wp2
        go_quiet (fail)
        go_wp2
        go_ret
        exact ⟨ret_int (by rw [← e1.out, e2.out]), by (repeat' (first | (with_reducible exact Below.refl _ _) | (with_reducible assumption) | (with_reducible refine Later.belowOf _ ?_ ?_) | (with_reducible refine Below.alloc ?_ ?_ _) | (with_reducible refine Below.setCell ?_ ?_ _) | (with_reducible refine Below.drewN' _ ?_) | (with_reducible refine Below.drew ?_) | (with_reducible exact Ge.le) | go_size))⟩

set_option maxHeartbeats 1000000 in
theorem veven_any (neg more : Bool) (hi lo n : Int) (e : Int) (h0 : 0 ≤ hi) (h1 : hi ≤ 18446744073709551615) (h2 : 0 ≤ lo) (h3 : lo ≤ 18446744073709551615) (hn0 : 0 ≤ n) (hn : n ≤ 128) : Gives 149 #[(.agg #[.bool neg, .int .u64 hi, .int .u64 lo, .int .i64 e, .bool more]), .int .i64 n] (.bool (evenI hi lo n.toNat)) := by
  intro w
  by_cases c2 : 64 ≤ n
  · have e1 := even_far h0 h1 h2 h3 (n := n.toNat) (by omega) (by omega)
    rw [show ((n.toNat == 64) = (n == 64)) by rw [Bool.eq_iff_iff]; simp; omega, show (128 - n.toNat) = (128 - n).toNat by omega] at e1
    have E1 := Lib.hid e1
    clear e1
    refine (byB (lo == 0) (fun hc0 => (byB (n == 64) (fun hc1 => ?_) (fun hc1 => ?_))) (fun hc0 => ?_))
    all_goals
      go_enter Try.func149, Try.ntmps149
      go_wp2
      go_ret
      exact ⟨ret_bool (by rw [← E1.out]; simp [*]), by (repeat' (first | (with_reducible exact Below.refl _ _) | (with_reducible assumption) | (with_reducible refine Later.belowOf _ ?_ ?_) | (with_reducible refine Below.alloc ?_ ?_ _) | (with_reducible refine Below.setCell ?_ ?_ _) | (with_reducible refine Below.drewN' _ ?_) | (with_reducible refine Below.drew ?_) | (with_reducible exact Ge.le) | go_size))⟩
  · have e1 := even_near (hi := hi) h2 (n := n.toNat) (by omega)
    rw [show 64 - n.toNat = (64 - n).toNat by omega] at e1
    have E1 := Lib.hid e1
    clear e1
    go_enter Try.func149, Try.ntmps149
    go_wp2
    go_ret
    exact ⟨ret_bool (by rw [← E1.out]), by (repeat' (first | (with_reducible exact Below.refl _ _) | (with_reducible assumption) | (with_reducible refine Later.belowOf _ ?_ ?_) | (with_reducible refine Below.alloc ?_ ?_ _) | (with_reducible refine Below.setCell ?_ ?_ _) | (with_reducible refine Below.drewN' _ ?_) | (with_reducible refine Below.drew ?_) | (with_reducible exact Ge.le) | go_size))⟩

theorem right_odd {hi lo : Int} {n : Nat} : rightI hi lo n % 2 = (hi * 18446744073709551616 + lo) / 2 ^ n % 2 := by
  unfold rightI; omega
theorem right_range (hi lo : Int) (n : Nat) : 0 ≤ rightI hi lo n ∧ rightI hi lo n ≤ 18446744073709551615 := by
  unfold rightI; omega
theorem and_one {x : Int} (h : 0 ≤ x) (h2 : x ≤ 18446744073709551615) : bits BinOp.and IntKind.u64 x 1 = x % 2 := by
  have := u64_and x 1 h (by omega) (by omega) (by omega)
  rw [this, show (1 : Int).toNat = 2 ^ 1 - 1 from rfl, Nat.and_two_pow_sub_one_eq_mod]
  omega

set_option maxHeartbeats 4000000 in
theorem vshifted_any (neg more : Bool) (hi lo n : Int) (e : Int) (h0 : 0 ≤ hi) (h1 : hi ≤ 18446744073709551615) (h2 : 0 ≤ lo) (h3 : lo ≤ 18446744073709551615) (hn0 : 1 ≤ n) (hn : n ≤ 128) :
    Gives 129 #[(.agg #[.bool neg, .int .u64 hi, .int .u64 lo, .int .i64 e, .bool more]), .int .i64 n] (.tuple #[.int .u64 (rightI hi lo n.toNat), .int .i64 (lostI (hi * 18446744073709551616 + lo) more n.toNat)]) := by
  intro w
  have a1 := vright_any false false hi lo n 0 h0 h1 h2 h3 (by omega) hn
  have a2 := vright_any false false hi lo (n - 1) 0 h0 h1 h2 h3 (by omega) (by omega)
  have a3 := veven_any false false hi lo (n - 1) 0 h0 h1 h2 h3 (by omega) (by omega)
  have hL : lostI (hi * 18446744073709551616 + lo) more n.toNat = if rightI hi lo (n - 1).toNat % 2 = 1 then (if more || !evenI hi lo (n - 1).toNat then 3 else 2) else if more || !evenI hi lo (n - 1).toNat then 1 else 0 := by
    unfold lostI evenI
    rw [right_odd, show n.toNat - 1 = (n - 1).toNat by omega]
    simp only [ne_eq, decide_not]
  have hE : n = 1 → evenI hi lo (n - 1).toNat = true := by intro h; subst h; unfold evenI; simp
  have ho := and_one (right_range hi lo (n - 1).toNat).1 (right_range hi lo (n - 1).toNat).2
  have hp : rightI hi lo (n - 1).toNat % 2 = 0 ∨ rightI hi lo (n - 1).toNat % 2 = 1 := by omega
  generalize rightI hi lo (n - 1).toNat = R at *
  generalize evenI hi lo (n - 1).toNat = E at *
  generalize lostI (hi * 18446744073709551616 + lo) more n.toNat = L at *
  generalize rightI hi lo n.toNat = T at *
  clear h0 h1 h2 h3
  have main : ∀ (b : Int) (r : Bool), bits BinOp.and IntKind.u64 R 1 = b → (more || (decide (2 ≤ n) && !E)) = r → L = (if b = 1 then (if r then 3 else 2) else if r then 1 else 0) := by
    intro b r hb hr
    rw [hL, ← hb, ho]
    have : (more || !E) = r := by
      rw [← hr]
      by_cases h : 2 ≤ n
      · simp [h]
      · have := hE (by omega); simp [h, this]
    rw [this]
  have M := Lib.hid main
  clear main hL hE
  rcases hp with hp | hp
  all_goals
    rw [hp] at ho
    clear hp
    cases hm : more
    · by_cases h2n : 2 ≤ n
      · cases hE : E
        all_goals
          have hR := M.out _ _ ho rfl
          simp [hm, h2n, hE] at hR
          have HR := Lib.hid hR
          clear hR M
          go_enter Try.func129, Try.ntmps129
          go_wp2_with (first | (go_at_call 148; first | ((with_reducible refine (a1.go _).mono ?_); rintro _ _ ⟨k, rfl, rfl⟩) | ((with_reducible refine (a2.go _).mono ?_); rintro _ _ ⟨k, rfl, rfl⟩)) | (go_at_call 149; refine (a3.go _).mono ?_; rintro _ _ ⟨k, rfl, rfl⟩))
          go_ret2
          exact ⟨by rw [HR.out]; rfl, by (repeat' (first | (with_reducible exact Below.refl _ _) | (with_reducible assumption) | (with_reducible refine Later.belowOf _ ?_ ?_) | (with_reducible refine Below.alloc ?_ ?_ _) | (with_reducible refine Below.setCell ?_ ?_ _) | (with_reducible refine Below.drewN' _ ?_) | (with_reducible refine Below.drew ?_) | (with_reducible exact Ge.le) | go_size))⟩
      · have h2n' : ¬ 2 ≤ n := h2n
        have hR := M.out _ _ ho rfl
        simp [hm, h2n'] at hR
        have HR := Lib.hid hR
        clear hR M
        go_enter Try.func129, Try.ntmps129
        go_wp2_with (first | (go_at_call 148; first | ((with_reducible refine (a1.go _).mono ?_); rintro _ _ ⟨k, rfl, rfl⟩) | ((with_reducible refine (a2.go _).mono ?_); rintro _ _ ⟨k, rfl, rfl⟩)) | (go_at_call 149; refine (a3.go _).mono ?_; rintro _ _ ⟨k, rfl, rfl⟩))
        go_ret2
        exact ⟨by rw [HR.out]; rfl, by (repeat' (first | (with_reducible exact Below.refl _ _) | (with_reducible assumption) | (with_reducible refine Later.belowOf _ ?_ ?_) | (with_reducible refine Below.alloc ?_ ?_ _) | (with_reducible refine Below.setCell ?_ ?_ _) | (with_reducible refine Below.drewN' _ ?_) | (with_reducible refine Below.drew ?_) | (with_reducible exact Ge.le) | go_size))⟩
    · have hR := M.out _ _ ho rfl
      simp [hm] at hR
      have HR := Lib.hid hR
      clear hR M
      go_enter Try.func129, Try.ntmps129
      go_wp2_with (first | (go_at_call 148; first | ((with_reducible refine (a1.go _).mono ?_); rintro _ _ ⟨k, rfl, rfl⟩) | ((with_reducible refine (a2.go _).mono ?_); rintro _ _ ⟨k, rfl, rfl⟩)) | (go_at_call 149; refine (a3.go _).mono ?_; rintro _ _ ⟨k, rfl, rfl⟩))
      go_ret2
      exact ⟨by rw [HR.out]; rfl, by (repeat' (first | (with_reducible exact Below.refl _ _) | (with_reducible assumption) | (with_reducible refine Later.belowOf _ ?_ ?_) | (with_reducible refine Below.alloc ?_ ?_ _) | (with_reducible refine Below.setCell ?_ ?_ _) | (with_reducible refine Below.drewN' _ ?_) | (with_reducible refine Below.drew ?_) | (with_reducible exact Ge.le) | go_size))⟩
end Go.Proofs.Ytjdccbigaahkeaa
