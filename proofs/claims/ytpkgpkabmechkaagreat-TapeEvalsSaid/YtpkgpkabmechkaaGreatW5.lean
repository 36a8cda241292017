/- Contracts: numbers of 128 bits, shifted. -/
import Derived.Test.YtpkgpkabmechkaaGreatW1
import Derived.Test.YtpkgpkabmechkaaGreatShelf
import Derived.Test.YtpkgpkabmechkaaGreatFlB
namespace Go.Proofs.YtpkgpkabmechkaaGreat
set_option linter.unusedSimpArgs false
set_option linter.unusedVariables false
open Go.RowKit
open Fl

theorem blen_eq {x : Nat} (h : x < 18446744073709551616) : Lib.bitLen x = blen x := by
  by_cases h0 : x = 0
  · subst h0; rw [blen_zero]; decide
  · have l1 := blen_ge h0
    have l2 := blen_lt x
    have hp := blen_pos h0
    generalize blen x = L at *
    obtain ⟨k, rfl⟩ : ∃ k, L = k + 1 := ⟨L - 1, by omega⟩
    rw [Nat.add_sub_cancel] at l1
    rw [Lib.bitLen_shift k x l1 h]
    have : x / 2 ^ k = 1 := by
      have p := Nat.two_pow_pos k
      rw [Nat.pow_succ] at l2
      have h1 : 1 ≤ x / 2 ^ k := (Nat.le_div_iff_mul_le p).2 (by omega)
      have h2 : x / 2 ^ k < 2 := (Nat.div_lt_iff_lt_mul p).2 (by omega)
      omega
    rw [this]
    have : Lib.bitLen 1 = 1 := by decide
    rw [this]

theorem gives_len64 (x : Int) (h0 : 0 ≤ x) (hx : x ≤ 18446744073709551615) : Gives 225 #[.int .u64 x] (.int .i64 (blen x.toNat)) := by
  intro w
  rw [← blen_eq (by omega)]
  exact (Tryz.bits_Len64 x w h0 hx).mono fun _ _ ⟨h, hw⟩ => ⟨h, hw ▸ Below.refl _ _⟩

def lenI (hi lo : Int) : Int := if 0 < hi then 64 + blen hi.toNat else blen lo.toNat

theorem blen_le64 {x : Int} (hx : x ≤ 18446744073709551615) : (blen x.toNat : Int) ≤ 64 := by
  have h1 := blen_le (n := x.toNat) (k := 64) (by omega)
  omega

set_option maxHeartbeats 400000 in
theorem vlen_any (neg more : Bool) (hi lo : Int) (e : Int) (h0 : 0 ≤ hi) (h1 : hi ≤ 18446744073709551615) (h2 : 0 ≤ lo) (h3 : lo ≤ 18446744073709551615) : Gives 226 #[(.agg #[.bool neg, .int .u64 hi, .int .u64 lo, .int .i64 e, .bool more])] (.int .i64 (lenI hi lo)) := by
  intro w
  have a1 := gives_len64 hi h0 h1
  have a2 := gives_len64 lo h2 h3
  have b1 := blen_le64 h1
  have b2 : (0 : Int) ≤ (blen hi.toNat : Int) := by omega
  generalize hg : (blen hi.toNat : Int) = L at *
  have Hg := Lib.hid hg
  clear hg
  by_cases h : 0 < hi
  · go_enter Tryz.func226, Tryz.ntmps226
    go_wp2_with (go_at_call 225; refine (a1.go _).mono ?_; rintro _ _ ⟨n, rfl, rfl⟩)
    go_ret
    exact ⟨ret_int (by unfold lenI; rw [if_pos h, Hg.out]), by (repeat' (first | (with_reducible exact Below.refl _ _) | (with_reducible assumption) | (with_reducible refine Later.belowOf _ ?_ ?_) | (with_reducible refine Below.alloc ?_ ?_ _) | (with_reducible refine Below.setCell ?_ ?_ _) | (with_reducible refine Below.drewN' _ ?_) | (with_reducible refine Below.drew ?_) | (with_reducible exact Ge.le) | go_size))⟩
  · go_enter Tryz.func226, Tryz.ntmps226
    go_wp2_with (go_at_call 225; refine (a2.go _).mono ?_; rintro _ _ ⟨n, rfl, rfl⟩)
    go_ret
    exact ⟨ret_int (by unfold lenI; rw [if_neg (by omega)]), by (repeat' (first | (with_reducible exact Below.refl _ _) | (with_reducible assumption) | (with_reducible refine Later.belowOf _ ?_ ?_) | (with_reducible refine Below.alloc ?_ ?_ _) | (with_reducible refine Below.setCell ?_ ?_ _) | (with_reducible refine Below.drewN' _ ?_) | (with_reducible refine Below.drew ?_) | (with_reducible exact Ge.le) | go_size))⟩

set_option maxHeartbeats 1000000 in
theorem vright_any (neg more : Bool) (hi lo n : Int) (e : Int) (h0 : 0 ≤ hi) (h1 : hi ≤ 18446744073709551615) (h2 : 0 ≤ lo) (h3 : lo ≤ 18446744073709551615) (hn0 : 0 ≤ n) (hn : n ≤ 128) : Gives 242 #[(.agg #[.bool neg, .int .u64 hi, .int .u64 lo, .int .i64 e, .bool more]), .int .i64 n] (.int .u64 (rightI hi lo n.toNat)) := by
  intro w
  by_cases c1 : 128 ≤ n
  · have e1 := Lib.hid (right_far h0 h1 h2 h3 (n := n.toNat) (by omega))
    go_enter Tryz.func242, Tryz.ntmps242
    go_wp2
    go_ret
    exact ⟨ret_int (by rw [e1.out]), by (repeat' (first | (with_reducible exact Below.refl _ _) | (with_reducible assumption) | (with_reducible refine Later.belowOf _ ?_ ?_) | (with_reducible refine Below.alloc ?_ ?_ _) | (with_reducible refine Below.setCell ?_ ?_ _) | (with_reducible refine Below.drewN' _ ?_) | (with_reducible refine Below.drew ?_) | (with_reducible exact Ge.le) | go_size))⟩
  · by_cases c2 : 64 ≤ n
    · have e1 := Lib.hid (right_mid h0 h1 h2 h3 (n := n.toNat) (by omega))
      go_enter Tryz.func242, Tryz.ntmps242
      go_wp2
      go_ret
      exact ⟨ret_int (by rw [e1.out]; congr 2; omega), by (repeat' (first | (with_reducible exact Below.refl _ _) | (with_reducible assumption) | (with_reducible refine Later.belowOf _ ?_ ?_) | (with_reducible refine Below.alloc ?_ ?_ _) | (with_reducible refine Below.setCell ?_ ?_ _) | (with_reducible refine Below.drewN' _ ?_) | (with_reducible refine Below.drew ?_) | (with_reducible exact Ge.le) | go_size))⟩
    · by_cases c3 : n = 0
      · subst c3
        have e1 := Lib.hid (right_none (hi := hi) h2 h3)
        go_enter Tryz.func242, Tryz.ntmps242
        go_wp2
        go_ret
        exact ⟨ret_int (by first | exact e1.out.symm | (rw [show (0 : Int).toNat = 0 from rfl]; exact e1.out.symm)), by (repeat' (first | (with_reducible exact Below.refl _ _) | (with_reducible assumption) | (with_reducible refine Later.belowOf _ ?_ ?_) | (with_reducible refine Below.alloc ?_ ?_ _) | (with_reducible refine Below.setCell ?_ ?_ _) | (with_reducible refine Below.drewN' _ ?_) | (with_reducible refine Below.drew ?_) | (with_reducible exact Ge.le) | go_size))⟩
      · have c4 : (n == 0) = false := by rw [beq_eq_false_iff_ne]; exact c3
        have e1 := Lib.hid (right_near h0 h1 h2 h3 (n := n.toNat) (by omega) (by omega))
        have e2 := Lib.hid (show 64 - n.toNat = (64 - n).toNat by omega)
        go_enter Tryz.func242, Tryz.ntmps242
        go_wp2
        go_quiet (fail)
        go_wp2
        go_ret
        exact ⟨ret_int (by rw [← e1.out, e2.out]), by (repeat' (first | (with_reducible exact Below.refl _ _) | (with_reducible assumption) | (with_reducible refine Later.belowOf _ ?_ ?_) | (with_reducible refine Below.alloc ?_ ?_ _) | (with_reducible refine Below.setCell ?_ ?_ _) | (with_reducible refine Below.drewN' _ ?_) | (with_reducible refine Below.drew ?_) | (with_reducible exact Ge.le) | go_size))⟩

set_option maxHeartbeats 1000000 in
theorem veven_any (neg more : Bool) (hi lo n : Int) (e : Int) (h0 : 0 ≤ hi) (h1 : hi ≤ 18446744073709551615) (h2 : 0 ≤ lo) (h3 : lo ≤ 18446744073709551615) (hn0 : 0 ≤ n) (hn : n ≤ 128) : Gives 243 #[(.agg #[.bool neg, .int .u64 hi, .int .u64 lo, .int .i64 e, .bool more]), .int .i64 n] (.bool (evenI hi lo n.toNat)) := by
  intro w
  by_cases c2 : 64 ≤ n
  · have e1 := even_far h0 h1 h2 h3 (n := n.toNat) (by omega) (by omega)
    rw [show ((n.toNat == 64) = (n == 64)) by rw [Bool.eq_iff_iff]; simp; omega, show (128 - n.toNat) = (128 - n).toNat by omega] at e1
    have E1 := Lib.hid e1
    clear e1
    refine (byB (lo == 0) (fun hc0 => (byB (n == 64) (fun hc1 => ?_) (fun hc1 => ?_))) (fun hc0 => ?_))
    all_goals
      go_enter Tryz.func243, Tryz.ntmps243
      go_wp2
      go_ret
      exact ⟨ret_bool (by rw [← E1.out]; simp [*]), by (repeat' (first | (with_reducible exact Below.refl _ _) | (with_reducible assumption) | (with_reducible refine Later.belowOf _ ?_ ?_) | (with_reducible refine Below.alloc ?_ ?_ _) | (with_reducible refine Below.setCell ?_ ?_ _) | (with_reducible refine Below.drewN' _ ?_) | (with_reducible refine Below.drew ?_) | (with_reducible exact Ge.le) | go_size))⟩
  · have e1 := even_near (hi := hi) h2 (n := n.toNat) (by omega)
    rw [show 64 - n.toNat = (64 - n).toNat by omega] at e1
    have E1 := Lib.hid e1
    clear e1
    go_enter Tryz.func243, Tryz.ntmps243
    go_wp2
    go_ret
    exact ⟨ret_bool (by rw [← E1.out]), by (repeat' (first | (with_reducible exact Below.refl _ _) | (with_reducible assumption) | (with_reducible refine Later.belowOf _ ?_ ?_) | (with_reducible refine Below.alloc ?_ ?_ _) | (with_reducible refine Below.setCell ?_ ?_ _) | (with_reducible refine Below.drewN' _ ?_) | (with_reducible refine Below.drew ?_) | (with_reducible exact Ge.le) | go_size))⟩

theorem right_odd {hi lo : Int} {n : Nat} : rightI hi lo n % 2 = (hi * 18446744073709551616 + lo) / 2 ^ n % 2 := by
  unfold rightI; omega
theorem right_range (hi lo : Int) (n : Nat) : 0 ≤ rightI hi lo n ∧ rightI hi lo n ≤ 18446744073709551615 := by
  unfold rightI; omega
theorem and_one {x : Int} (h : 0 ≤ x) (h2 : x ≤ 18446744073709551615) : bits BinOp.and IntKind.u64 x 1 = x % 2 := by
  have := u64_and x 1 h (by omega) (by omega) (by omega)
  rw [this, show (1 : Int).toNat = 2 ^ 1 - 1 from rfl, Nat.and_two_pow_sub_one_eq_mod]
  omega

set_option maxHeartbeats 4000000 in
theorem vshifted_any (neg more : Bool) (hi lo n : Int) (e : Int) (h0 : 0 ≤ hi) (h1 : hi ≤ 18446744073709551615) (h2 : 0 ≤ lo) (h3 : lo ≤ 18446744073709551615) (hn0 : 1 ≤ n) (hn : n ≤ 128) :
    Gives 227 #[(.agg #[.bool neg, .int .u64 hi, .int .u64 lo, .int .i64 e, .bool more]), .int .i64 n] (.tuple #[.int .u64 (rightI hi lo n.toNat), .int .i64 (lostI (hi * 18446744073709551616 + lo) more n.toNat)]) := by
  intro w
  have a1 := vright_any false false hi lo n 0 h0 h1 h2 h3 (by omega) hn
  have a2 := vright_any false false hi lo (n - 1) 0 h0 h1 h2 h3 (by omega) (by omega)
  have a3 := veven_any false false hi lo (n - 1) 0 h0 h1 h2 h3 (by omega) (by omega)
  have hL : lostI (hi * 18446744073709551616 + lo) more n.toNat = if rightI hi lo (n - 1).toNat % 2 = 1 then (if more || !evenI hi lo (n - 1).toNat then 3 else 2) else if more || !evenI hi lo (n - 1).toNat then 1 else 0 := by
    unfold lostI evenI
    rw [right_odd, show n.toNat - 1 = (n - 1).toNat by omega]
    simp only [ne_eq, decide_not]
  have hE : n = 1 → evenI hi lo (n - 1).toNat = true := by intro h; subst h; unfold evenI; simp
  have ho := and_one (right_range hi lo (n - 1).toNat).1 (right_range hi lo (n - 1).toNat).2
  have hp : rightI hi lo (n - 1).toNat % 2 = 0 ∨ rightI hi lo (n - 1).toNat % 2 = 1 := by omega
  generalize rightI hi lo (n - 1).toNat = R at *
  generalize evenI hi lo (n - 1).toNat = E at *
  generalize lostI (hi * 18446744073709551616 + lo) more n.toNat = L at *
  generalize rightI hi lo n.toNat = T at *
  clear h0 h1 h2 h3
  have main : ∀ (b : Int) (r : Bool), bits BinOp.and IntKind.u64 R 1 = b → (more || (decide (2 ≤ n) && !E)) = r → L = (if b = 1 then (if r then 3 else 2) else if r then 1 else 0) := by
    intro b r hb hr
    rw [hL, ← hb, ho]
    have : (more || !E) = r := by
      rw [← hr]
      by_cases h : 2 ≤ n
      · simp [h]
      · have := hE (by omega); simp [h, this]
    rw [this]
  have M := Lib.hid main
  clear main hL hE
  rcases hp with hp | hp
  all_goals
    rw [hp] at ho
    clear hp
    cases hm : more
    · by_cases h2n : 2 ≤ n
      · cases hE : E
        all_goals
          have hR := M.out _ _ ho rfl
          simp [hm, h2n, hE] at hR
          have HR := Lib.hid hR
          clear hR M
          go_enter Tryz.func227, Tryz.ntmps227
          go_wp2_with (first | (go_at_call 242; first | ((with_reducible refine (a1.go _).mono ?_); rintro _ _ ⟨k, rfl, rfl⟩) | ((with_reducible refine (a2.go _).mono ?_); rintro _ _ ⟨k, rfl, rfl⟩)) | (go_at_call 243; refine (a3.go _).mono ?_; rintro _ _ ⟨k, rfl, rfl⟩))
          go_ret2
          exact ⟨by rw [HR.out]; rfl, by (repeat' (first | (with_reducible exact Below.refl _ _) | (with_reducible assumption) | (with_reducible refine Later.belowOf _ ?_ ?_) | (with_reducible refine Below.alloc ?_ ?_ _) | (with_reducible refine Below.setCell ?_ ?_ _) | (with_reducible refine Below.drewN' _ ?_) | (with_reducible refine Below.drew ?_) | (with_reducible exact Ge.le) | go_size))⟩
      · have h2n' : ¬ 2 ≤ n := h2n
        have hR := M.out _ _ ho rfl
        simp [hm, h2n'] at hR
        have HR := Lib.hid hR
        clear hR M
        go_enter Tryz.func227, Tryz.ntmps227
        go_wp2_with (first | (go_at_call 242; first | ((with_reducible refine (a1.go _).mono ?_); rintro _ _ ⟨k, rfl, rfl⟩) | ((with_reducible refine (a2.go _).mono ?_); rintro _ _ ⟨k, rfl, rfl⟩)) | (go_at_call 243; refine (a3.go _).mono ?_; rintro _ _ ⟨k, rfl, rfl⟩))
        go_ret2
        exact ⟨by rw [HR.out]; rfl, by (repeat' (first | (with_reducible exact Below.refl _ _) | (with_reducible assumption) | (with_reducible refine Later.belowOf _ ?_ ?_) | (with_reducible refine Below.alloc ?_ ?_ _) | (with_reducible refine Below.setCell ?_ ?_ _) | (with_reducible refine Below.drewN' _ ?_) | (with_reducible refine Below.drew ?_) | (with_reducible exact Ge.le) | go_size))⟩
    · have hR := M.out _ _ ho rfl
      simp [hm] at hR
      have HR := Lib.hid hR
      clear hR M
      go_enter Tryz.func227, Tryz.ntmps227
      go_wp2_with (first | (go_at_call 242; first | ((with_reducible refine (a1.go _).mono ?_); rintro _ _ ⟨k, rfl, rfl⟩) | ((with_reducible refine (a2.go _).mono ?_); rintro _ _ ⟨k, rfl, rfl⟩)) | (go_at_call 243; refine (a3.go _).mono ?_; rintro _ _ ⟨k, rfl, rfl⟩))
      go_ret2
      exact ⟨by rw [HR.out]; rfl, by (repeat' (first | (with_reducible exact Below.refl _ _) | (with_reducible assumption) | (with_reducible refine Later.belowOf _ ?_ ?_) | (with_reducible refine Below.alloc ?_ ?_ _) | (with_reducible refine Below.setCell ?_ ?_ _) | (with_reducible refine Below.drewN' _ ?_) | (with_reducible refine Below.drew ?_) | (with_reducible exact Ge.le) | go_size))⟩
end Go.Proofs.YtpkgpkabmechkaaGreat

/- Contracts: math.Ldexp of positive normal floats. -/
namespace Go.Proofs.YtpkgpkabmechkaaGreat
set_option linter.unusedSimpArgs false
set_option linter.unusedVariables false
open Go.RowKit
open Fl

set_option maxHeartbeats 1000000 in
theorem normalize_any (f : Nat) (hf : f < 9218868437227405312) (hf2 : 4503599627370496 ≤ f) : Gives 222 #[(.float .f64 f)] (.tuple #[(.float .f64 f), .int .i64 0]) := by
  intro w
  have a1 := abs_any f (by omega)
  have e : rung f = f := by unfold rung SW; omega
  rw [e] at a1
  have t1 : flt f 4503599627370496 = false := by
    have i1 : idx 4503599627370496 = 4503599627370496 := by decide
    have i2 := idx_small (x := f) (by omega)
    cases h : flt f 4503599627370496
    · rfl
    · have := (flt_true.1 h).2.2
      rw [i1, i2] at this; omega
  clear hf hf2 e
  go_enter Tryz.func222, Tryz.ntmps222
  go_wp2_with (go_at_call 107; refine (a1.go _).mono ?_; rintro _ _ ⟨n, rfl, rfl⟩)
  go_ret2
  exact ⟨rfl, by (repeat' (first | (with_reducible exact Below.refl _ _) | (with_reducible assumption) | (with_reducible refine Later.belowOf _ ?_ ?_) | (with_reducible refine Below.alloc ?_ ?_ _) | (with_reducible refine Below.setCell ?_ ?_ _) | (with_reducible refine Below.drewN' _ ?_) | (with_reducible refine Below.drew ?_) | (with_reducible exact Ge.le) | go_size))⟩

theorem and_2047 {B : Int} (h0 : 0 ≤ B) (h1 : B ≤ 2047) : bits BinOp.and IntKind.i64 B 2047 = B := by
  have h127 : (BitVec.ofInt 64 2047).toNat = 2 ^ 11 - 1 := by decide
  have key : (BitVec.ofInt 64 B &&& BitVec.ofInt 64 2047).toNat = (B % ((2 ^ 64 : Nat) : Int)).toNat % 2 ^ 11 := by
    rw [BitVec.toNat_and, BitVec.toNat_ofInt, h127, Nat.and_two_pow_sub_one_eq_mod]
  show IntKind.i64.wrap ((BitVec.ofInt 64 B &&& BitVec.ofInt 64 2047).toNat : Nat) = B
  rw [key, IntKind.wrap_i64]
  omega

theorem andNot_inf {f : Nat} (h : f < 9218868437227405312) : bits BinOp.andNot IntKind.u64 (f : Int) 9218868437227405312 = (f : Int) % 4503599627370496 := by
  have h1 := u64_andNot_nat f 9218868437227405312 (by omega) (by decide)
  have e : ((9218868437227405312 : Nat) : Int) = 9218868437227405312 := rfl
  rw [e] at h1
  rw [h1]
  have : f &&& (18446744073709551615 - 9218868437227405312) = f % 4503599627370496 := by
    have e3 : (18446744073709551615 - 9218868437227405312 : Nat) = 2 ^ 63 ||| (2 ^ 52 - 1) := by decide
    rw [e3, Nat.and_or_distrib_left, Nat.and_two_pow_sub_one_eq_mod]
    have : f &&& 2 ^ 63 = 0 := by
      apply Nat.eq_of_testBit_eq
      intro i
      rw [Nat.testBit_and, Nat.testBit_two_pow, Nat.zero_testBit]
      by_cases hi : 63 = i
      · subst hi
        have : f.testBit 63 = false := Nat.testBit_lt_two_pow (by omega)
        rw [this]; rfl
      · simp [hi]
    rw [this, Nat.zero_or]
  rw [this]; omega

theorem or_exp {M K : Int} (h0 : 0 ≤ M) (h1 : M ≤ 4503599627370495) (h2 : 0 ≤ K) (h3 : K ≤ 4095) : (bits BinOp.or IntKind.u64 M (K * 4503599627370496)).toNat = K.toNat * 4503599627370496 + M.toNat := by
  rw [u64_or _ _ h0 (by omega) (by omega) (by omega), Int.toNat_natCast]
  have e : (K * 4503599627370496).toNat = K.toNat <<< 52 := by rw [Nat.shiftLeft_eq]; omega
  rw [e, Nat.or_comm, ← Nat.shiftLeft_add_eq_or_of_lt (by omega), Nat.shiftLeft_eq]

/-- Behind the walk: both factors, and the product. -/
theorem ldexp_end {f : Nat} {e B M K c : Int} {cn : Nat} {j : Nat} (w : World) (hf : f < 9218868437227405312) (hB : (f : Int) / 4503599627370496 = B) (hM : (f : Int) % 4503599627370496 = M) (hb : 1 ≤ B)
    (hK1 : 1 ≤ K) (hK2 : K ≤ 2046) (hcn : rung cn = cn ∧ sgn cn = false ∧ cn < INFR) (hG : G cn = pw (1074 - j)) (hj : j ≤ 1074) (hKj : K = e + B + j) :
    fop BinOp.mul cn (bits BinOp.or IntKind.u64 M (K * 4503599627370496)).toNat w = rungOf (G f * 2 ^ e.toNat) (2 ^ (-e).toNat) 0 := by
  rw [or_exp (by omega) (by omega) (by omega) (by omega)]
  obtain ⟨k, rfl⟩ : ∃ k : Nat, K = (k : Int) + 1 := ⟨(K - 1).toNat, by omega⟩
  obtain ⟨b, rfl⟩ : ∃ b : Nat, B = (b : Int) + 1 := ⟨(B - 1).toNat, by omega⟩
  obtain ⟨m, rfl⟩ : ∃ m : Nat, M = (m : Int) := ⟨M.toNat, by omega⟩
  have hm : m < BIN := by unfold BIN; omega
  have ek : ((k : Int) + 1).toNat * 4503599627370496 + (m : Int).toNat = (k + 1) * BIN + m := by unfold BIN; omega
  have ef : f = (b + 1) * BIN + m := by unfold BIN; omega
  rw [ek]
  have lk : (k + 1) * BIN + m < INFR := by unfold BIN at *; unfold INFR; omega
  have rk : rung ((k + 1) * BIN + m) = (k + 1) * BIN + m := Nat.mod_eq_of_lt (by unfold SW; unfold INFR at lk; omega)
  have sk : sgn ((k + 1) * BIN + m) = false := by
    unfold sgn; rw [Nat.div_eq_of_lt (by unfold SW; unfold INFR at lk; omega)]; rfl
  rw [fop_mul w (by rw [hcn.1]; exact hcn.2.2) (by rw [rk]; exact lk), hcn.1, hcn.2.1, rk, sk]
  have : word (false ^^ false) = fun r => r := by funext r; unfold word; simp
  rw [this, hG, ef, G_normal hm, G_normal hm]
  simp only []
  refine rungOf_ratio 0 (pw_pos _) (Nat.two_pow_pos _) ?_
  have e1 : pw 1074 = pw (1074 - j) * 2 ^ j := by
    have := pw_add (1074 - j) j
    rw [pw_eq j, Nat.sub_add_cancel hj] at this
    exact this
  rw [e1]
  have e2 : 2 ^ k * 2 ^ (-e).toNat = 2 ^ b * 2 ^ e.toNat * 2 ^ j := by
    rw [← Nat.pow_add, ← Nat.pow_add, ← Nat.pow_add]; congr 1; omega
  generalize pw (1074 - j) = P
  calc P * ((BIN + m) * 2 ^ k) * 2 ^ (-e).toNat = P * (BIN + m) * (2 ^ k * 2 ^ (-e).toNat) := by simp only [Nat.mul_assoc]
    _ = P * (BIN + m) * (2 ^ b * 2 ^ e.toNat * 2 ^ j) := by rw [e2]
    _ = (BIN + m) * 2 ^ b * 2 ^ e.toNat * (P * 2 ^ j) := by simp only [Nat.mul_assoc, Nat.mul_comm, Nat.mul_left_comm]

theorem G_one : G 4607182418800017408 = pw (1074 - 0) := by
  have := G_normal' (K := 1022) (m := 0) (by decide)
  have e : (1022 + 1) * BIN + 0 = 4607182418800017408 := by decide
  rw [e] at this
  rw [this]
  have e2 : BIN + 0 = pw 52 := by rw [pw_eq]
  rw [e2, ← pw_add]
theorem G_m53 : G 4368491638549381120 = pw (1074 - 53) := by
  have := G_normal' (K := 969) (m := 0) (by decide)
  have e : (969 + 1) * BIN + 0 = 4368491638549381120 := by decide
  rw [e] at this
  rw [this]
  have e2 : BIN + 0 = pw 52 := by rw [pw_eq]
  rw [e2, ← pw_add]

set_option maxHeartbeats 4000000 in
theorem ldexp_pos (f : Nat) (e B M : Int) (hf : f < 9218868437227405312) (hf2 : 4503599627370496 ≤ f) (hB : (f : Int) / 4503599627370496 = B) (hM : (f : Int) % 4503599627370496 = M) (h1 : -1075 ≤ e + (B - 1023)) (h2 : e + (B - 1023) ≤ 1023) :
    Gives 195 #[(.float .f64 f), .int .i64 e] (.float .f64 (rungOf (G f * 2 ^ e.toNat) (2 ^ (-e).toNat) 0)) := by
  intro w
  have i2 := idx_small (x := f) (by omega)
  have rg : rung f = f := by unfold rung SW; omega
  have nn : nan f = false := by unfold nan INFR; rw [rg]; simp; omega
  have a1 := normalize_any f hf hf2
  have a2 := isInf0_any f (by omega)
  have t1 : feq f 0 = false := by
    cases h : feq f 0
    · rfl
    · have := (feq_true.1 h).2.2
      have z : idx 0 = 0 := by decide
      rw [i2, z] at this; omega
  have t2 : flt 9218868437227405311 (rung f) = false := by
    rw [rg, infP_fact]
    cases h : feq f 9218868437227405312
    · rfl
    · have := (feq_true.1 h).2.2
      rw [i2, idx_pinf] at this; omega
  rw [t2] at a2
  have t3 : feq f f = true := by rw [feq_self, nn]; rfl
  have b1 : 1 ≤ B := by omega
  have b2 : B ≤ 2046 := by omega
  have m1 : 0 ≤ M := by omega
  have m2 : M ≤ 4503599627370495 := by omega
  have e1 : -3121 ≤ e := by omega
  have e2 : e ≤ 3121 := by omega
  have k1 := and_2047 (B := B) (by omega) (by omega)
  have k2 := andNot_inf hf
  rw [hM] at k2
  have HF := Lib.hid hf
  have HB := Lib.hid hB
  clear t2 nn rg i2 hf hf2
  have HM := Lib.hid hM
  clear hM
  by_cases c1 : e + (B - 1023) < -1022
  · go_enter Tryz.func195, Tryz.ntmps195
    go_wp2_with (first | (go_at_call 222; refine (a1.go _).mono ?_; rintro _ _ ⟨k, rfl, rfl⟩) | (go_at_call 167; refine (a2.go _).mono ?_; rintro _ _ ⟨k, rfl, rfl⟩) | (go_at_call 176; refine ((isNaN_any _).go _).mono ?_; rintro _ _ ⟨k, rfl, rfl⟩))
    go_ret
    exact ⟨ret_float (by rw [show e + (B - 1023) + 53 + 1023 = e + B + 53 by omega]; exact ldexp_end (c := 0) (j := 53) _ HF.out HB.out HM.out b1 (by omega) (by omega) (by decide) G_m53 (by decide) (by omega)), by (repeat' (first | (with_reducible exact Below.refl _ _) | (with_reducible assumption) | (with_reducible refine Later.belowOf _ ?_ ?_) | (with_reducible refine Below.alloc ?_ ?_ _) | (with_reducible refine Below.setCell ?_ ?_ _) | (with_reducible refine Below.drewN' _ ?_) | (with_reducible refine Below.drew ?_) | (with_reducible exact Ge.le) | go_size))⟩
  · go_enter Tryz.func195, Tryz.ntmps195
    go_wp2_with (first | (go_at_call 222; refine (a1.go _).mono ?_; rintro _ _ ⟨k, rfl, rfl⟩) | (go_at_call 167; refine (a2.go _).mono ?_; rintro _ _ ⟨k, rfl, rfl⟩) | (go_at_call 176; refine ((isNaN_any _).go _).mono ?_; rintro _ _ ⟨k, rfl, rfl⟩))
    go_ret
    exact ⟨ret_float (by rw [show e + (B - 1023) + 1023 = e + B by omega]; exact ldexp_end (c := 0) (j := 0) _ HF.out HB.out HM.out b1 (by omega) (by omega) (by decide) G_one (by decide) (by omega)), by (repeat' (first | (with_reducible exact Below.refl _ _) | (with_reducible assumption) | (with_reducible refine Later.belowOf _ ?_ ?_) | (with_reducible refine Below.alloc ?_ ?_ _) | (with_reducible refine Below.setCell ?_ ?_ _) | (with_reducible refine Below.drewN' _ ?_) | (with_reducible refine Below.drew ?_) | (with_reducible exact Ge.le) | go_size))⟩

set_option maxHeartbeats 1000000 in
theorem Ldexp_pos (f : Nat) (e B : Int) (hf : f < 9218868437227405312) (hf2 : 4503599627370496 ≤ f) (hB : (f : Int) / 4503599627370496 = B) (h1 : -1075 ≤ e + (B - 1023)) (h2 : e + (B - 1023) ≤ 1023) :
    Gives 144 #[(.float .f64 f), .int .i64 e] (.float .f64 (rungOf (G f * 2 ^ e.toNat) (2 ^ (-e).toNat) 0)) := by
  intro w
  have a1 := ldexp_pos f e B _ hf hf2 hB rfl h1 h2
  clear hf hf2 hB h1 h2
  go_enter Tryz.func144, Tryz.ntmps144
  go_wp2_with (go_at_call 195; refine (a1.go _).mono ?_; rintro _ _ ⟨k, rfl, rfl⟩)
  go_ret
  exact ⟨rfl, by (repeat' (first | (with_reducible exact Below.refl _ _) | (with_reducible assumption) | (with_reducible refine Later.belowOf _ ?_ ?_) | (with_reducible refine Below.alloc ?_ ?_ _) | (with_reducible refine Below.setCell ?_ ?_ _) | (with_reducible refine Below.drewN' _ ?_) | (with_reducible refine Below.drew ?_) | (with_reducible exact Ge.le) | go_size))⟩
end Go.Proofs.YtpkgpkabmechkaaGreat

/- Contracts: a number made of whole bits and an exponent; rounding. -/
namespace Go.Proofs.YtpkgpkabmechkaaGreat
set_option linter.unusedSimpArgs false
set_option linter.unusedVariables false
open Go.RowKit
open Fl

/-- The rung of q 2^e, or what it is rounded to where there's no room. -/
def madeR (q e dir : Int) : Nat := if INFR ≤ (e + 1074).toNat * BIN + q.toNat then (if 0 ≤ dir then INFR else INFR - 1) else (e + 1074).toNat * BIN + q.toNat

def signP (neg : Bool) (r : Nat) : Nat := bitsOf (if neg then -(r : Int) else (r : Int))
theorem signP_word (neg : Bool) {r : Nat} (h : 0 < r) : signP neg r = word neg r := bitsOf_word neg r h
theorem signP_zero (neg : Bool) : signP neg 0 = 0 := by unfold signP; cases neg <;> rfl

set_option maxHeartbeats 2000000 in
theorem made_any (neg more : Bool) (hi lo e0 q e dir : Int) (h0 : 0 ≤ q) (h1 : q ≤ 9007199254740992) (he0 : -1074 ≤ e) (he1 : e ≤ 20000) (hE : e = -1074 ∨ 4503599627370496 ≤ q) :
    Gives 228 #[(.agg #[.bool neg, .int .u64 hi, .int .u64 lo, .int .i64 e0, .bool more]), .int .u64 q, .int .i64 e, .int .i64 dir] (.float .f64 (signP neg (madeR q e dir))) := by
  intro w
  by_cases hq : q = 0
  · have : madeR q e dir = 0 := by
      unfold madeR
      have : e = -1074 := by omega
      subst this; subst hq
      rw [if_neg (by decide)]
      decide
    rw [this, signP_zero]
    clear this h0 h1 hE
    subst hq
    go_enter Tryz.func228, Tryz.ntmps228
    go_wp2
    go_ret
    exact ⟨rfl, by (repeat' (first | (with_reducible exact Below.refl _ _) | (with_reducible assumption) | (with_reducible refine Later.belowOf _ ?_ ?_) | (with_reducible refine Below.alloc ?_ ?_ _) | (with_reducible refine Below.setCell ?_ ?_ _) | (with_reducible refine Below.drewN' _ ?_) | (with_reducible refine Below.drew ?_) | (with_reducible exact Ge.le) | go_size))⟩
  · have hq1 : 1 ≤ q.toNat := by omega
    obtain ⟨f, hf1, hf2, hf3, hf4, hf5⟩ := of_whole hq1 (by omega)
    have hqe : ((q.toNat : Nat) : Int) = q := by omega
    rw [hqe] at hf1
    have hlen := gives_len64 q h0 (by omega)
    have hroom := room_iff (q := q.toNat) (E := (e + 1074).toNat) hq1 (by unfold BIN; omega) (by unfold BIN; omega)
    have heE : (((e + 1074).toNat : Nat) : Int) - 1074 = e := by omega
    rw [heE] at hroom
    have lb : (1 : Int) ≤ (blen q.toNat : Int) := by have := blen_pos (n := q.toNat) (by omega); omega
    have lt : (blen q.toNat : Int) ≤ 54 := by have := blen_le (n := q.toNat) (k := 54) (by omega); omega
    have q0 : (q == 0) = false := by rw [beq_eq_false_iff_ne]; exact hq
    by_cases c : (blen q.toNat : Int) + e ≤ 1024
    · have hr := hroom.1 c
      have hm : madeR q e dir = (e + 1074).toNat * BIN + q.toNat := by unfold madeR; rw [if_neg (by omega)]
      have a1 := Ldexp_pos f e _ hf3 hf2 hf4 (by omega) (by omega)
      rw [hf5, G_at (E := (e + 1074).toNat) (by unfold BIN; omega) (by unfold BIN; omega) heE.symm hr] at a1
      rw [hm]
      have hpos : 0 < (e + 1074).toNat * BIN + q.toNat := by omega
      generalize (e + 1074).toNat * BIN + q.toNat = r at *
      generalize (blen q.toNat : Int) = L at *
      rw [signP_word neg hpos]
      have hneg := fneg_eq (x := r) (by unfold INFR at hr; omega)
      have hw : fneg r = word true r := by
        unfold fneg
        have e1 : rung r = r := Nat.mod_eq_of_lt (by unfold SW; unfold INFR at hr; omega)
        have e2 : sgn r = false := by unfold sgn; rw [Nat.div_eq_of_lt (by unfold SW; unfold INFR at hr; omega)]; rfl
        rw [e1, e2]; rfl
      rw [hw] at hneg
      clear hw hr hm hpos hf2 hf3 hf4 hf5 hroom heE hqe hE hq1
      cases neg
      all_goals
        go_enter Tryz.func228, Tryz.ntmps228
        go_wp2_with (first | (go_at_call 225; refine (hlen.go _).mono ?_; rintro _ _ ⟨k, rfl, rfl⟩) | (go_at_call 144; refine (a1.go _).mono ?_; rintro _ _ ⟨k, rfl, rfl⟩))
        go_ret
        exact ⟨ret_float (by unfold word; simp), by (repeat' (first | (with_reducible exact Below.refl _ _) | (with_reducible assumption) | (with_reducible refine Later.belowOf _ ?_ ?_) | (with_reducible refine Below.alloc ?_ ?_ _) | (with_reducible refine Below.setCell ?_ ?_ _) | (with_reducible refine Below.drewN' _ ?_) | (with_reducible refine Below.drew ?_) | (with_reducible exact Ge.le) | go_size))⟩
    · have hr := fun h => c (hroom.2 h)
      have hm : madeR q e dir = if 0 ≤ dir then INFR else INFR - 1 := by unfold madeR; rw [if_pos (by omega)]
      rw [hm]
      have n1 : Op.negFloat .f64 9218868437227405312 = 18442240474082181120 := by decide
      have n2 : Op.negFloat .f64 9218868437227405311 = 18442240474082181119 := by decide
      generalize (blen q.toNat : Int) = L at *
      clear hr hm hf2 hf3 hf4 hf5 hroom heE hqe hE hq1
      by_cases hd : 0 ≤ dir
      all_goals
        cases neg
        all_goals
          go_enter Tryz.func228, Tryz.ntmps228
          go_wp2_with (first | (go_at_call 225; refine (hlen.go _).mono ?_; rintro _ _ ⟨k, rfl, rfl⟩) | (go_at_call 137; refine (math_Inf_pos.go _).mono ?_; rintro _ _ ⟨k, rfl, rfl⟩))
          go_ret
          exact ⟨ret_float (by first | rw [if_pos hd] | rw [if_neg (by omega)] | skip; first | rfl | decide), by (repeat' (first | (with_reducible exact Below.refl _ _) | (with_reducible assumption) | (with_reducible refine Later.belowOf _ ?_ ?_) | (with_reducible refine Below.alloc ?_ ?_ _) | (with_reducible refine Below.setCell ?_ ?_ _) | (with_reducible refine Below.drewN' _ ?_) | (with_reducible refine Below.drew ?_) | (with_reducible exact Ge.le) | go_size))⟩
end Go.Proofs.YtpkgpkabmechkaaGreat
