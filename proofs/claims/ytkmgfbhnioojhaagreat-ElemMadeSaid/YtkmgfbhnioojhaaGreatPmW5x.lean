/- Contracts: numbers of 128 bits, shifted. -/
import Derived.Test.YtkmgfbhnioojhaaGreatPmW1
import Derived.Test.YtkmgfbhnioojhaaGreatShelf
import Derived.Test.YtkmgfbhnioojhaaGreatPmFlB
namespace Go.Proofs.YtkmgfbhnioojhaaGreat
set_option linter.unusedSimpArgs false
set_option linter.unusedVariables false
open Go.RowKit
open Fl

theorem blen_eq {x : Nat} (h : x < 18446744073709551616) : Lib.bitLen x = blen x := by
  by_cases h0 : x = 0
  · subst h0; rw [blen_zero]; decide
  · have l1 := blen_ge h0
    have l2 := blen_lt x
    have hp := blen_pos h0
    generalize blen x = L at *
    obtain ⟨k, rfl⟩ : ∃ k, L = k + 1 := ⟨L - 1, by omega⟩
    rw [Nat.add_sub_cancel] at l1
    rw [Lib.bitLen_shift k x l1 h]
    have : x / 2 ^ k = 1 := by
      have p := Nat.two_pow_pos k
      rw [Nat.pow_succ] at l2
      have h1 : 1 ≤ x / 2 ^ k := (Nat.le_div_iff_mul_le p).2 (by omega)
      have h2 : x / 2 ^ k < 2 := (Nat.div_lt_iff_lt_mul p).2 (by omega)
      omega
    rw [this]
    have : Lib.bitLen 1 = 1 := by decide
    rw [this]

theorem gives_len64 (x : Int) (h0 : 0 ≤ x) (hx : x ≤ 18446744073709551615) : Gives 308 #[.int .u64 x] (.int .i64 (blen x.toNat)) := by
  intro w
  rw [← blen_eq (by omega)]
  exact (Tryz.bits_Len64 x w h0 hx).mono fun _ _ ⟨h, hw⟩ => ⟨h, hw ▸ Below.refl _ _⟩

def lenI (hi lo : Int) : Int := if 0 < hi then 64 + blen hi.toNat else blen lo.toNat

theorem blen_le64 {x : Int} (hx : x ≤ 18446744073709551615) : (blen x.toNat : Int) ≤ 64 := by
  have h1 := blen_le (n := x.toNat) (k := 64) (by omega)
  omega

set_option maxHeartbeats 400000 in
theorem vlen_any (neg more : Bool) (hi lo : Int) (e : Int) (h0 : 0 ≤ hi) (h1 : hi ≤ 18446744073709551615) (h2 : 0 ≤ lo) (h3 : lo ≤ 18446744073709551615) : Gives 309 #[(.agg #[.bool neg, .int .u64 hi, .int .u64 lo, .int .i64 e, .bool more])] (.int .i64 (lenI hi lo)) := by
  intro w
  have a1 := gives_len64 hi h0 h1
  have a2 := gives_len64 lo h2 h3
  have b1 := blen_le64 h1
  have b2 : (0 : Int) ≤ (blen hi.toNat : Int) := by omega
  generalize hg : (blen hi.toNat : Int) = L at *
  have Hg := Lib.hid hg
  clear hg
  by_cases h : 0 < hi
  · go_enter Tryz.func309, Tryz.ntmps309
    go_wp2_with (go_at_call 308; refine (a1.go _).mono ?_; rintro _ _ ⟨n, rfl, rfl⟩)
    go_ret
    exact ⟨ret_int (by unfold lenI; rw [if_pos h, Hg.out]), by (repeat' first | (with_reducible first | exact Below.refl _ _ | assumption | refine Later.belowOf _ ?_ ?_ | refine Below.alloc ?_ ?_ _ | refine Below.setCell ?_ ?_ _ | refine Below.drewN' _ ?_ | refine Below.drew ?_ | exact Ge.le) | go_size)⟩
  · go_enter Tryz.func309, Tryz.ntmps309
    go_wp2_with (go_at_call 308; refine (a2.go _).mono ?_; rintro _ _ ⟨n, rfl, rfl⟩)
    go_ret
    exact ⟨ret_int (by unfold lenI; rw [if_neg (by omega)]), by (repeat' first | (with_reducible first | exact Below.refl _ _ | assumption | refine Later.belowOf _ ?_ ?_ | refine Below.alloc ?_ ?_ _ | refine Below.setCell ?_ ?_ _ | refine Below.drewN' _ ?_ | refine Below.drew ?_ | exact Ge.le) | go_size)⟩

set_option maxHeartbeats 1000000 in
theorem vright_any (neg more : Bool) (hi lo n : Int) (e : Int) (h0 : 0 ≤ hi) (h1 : hi ≤ 18446744073709551615) (h2 : 0 ≤ lo) (h3 : lo ≤ 18446744073709551615) (hn0 : 0 ≤ n) (hn : n ≤ 128) : Gives 328 #[(.agg #[.bool neg, .int .u64 hi, .int .u64 lo, .int .i64 e, .bool more]), .int .i64 n] (.int .u64 (rightI hi lo n.toNat)) := by
  intro w
  by_cases c1 : 128 ≤ n
  · have e1 := Lib.hid (right_far h0 h1 h2 h3 (n := n.toNat) (by omega))
    go_enter Tryz.func328, Tryz.ntmps328
    go_wp2
    go_ret
    exact ⟨ret_int (by rw [e1.out]), by (repeat' first | (with_reducible first | exact Below.refl _ _ | assumption | refine Later.belowOf _ ?_ ?_ | refine Below.alloc ?_ ?_ _ | refine Below.setCell ?_ ?_ _ | refine Below.drewN' _ ?_ | refine Below.drew ?_ | exact Ge.le) | go_size)⟩
  · by_cases c2 : 64 ≤ n
    · have e1 := Lib.hid (right_mid h0 h1 h2 h3 (n := n.toNat) (by omega))
      go_enter Tryz.func328, Tryz.ntmps328
      go_wp2
      go_ret
      exact ⟨ret_int (by rw [e1.out]; congr 2; omega), by (repeat' first | (with_reducible first | exact Below.refl _ _ | assumption | refine Later.belowOf _ ?_ ?_ | refine Below.alloc ?_ ?_ _ | refine Below.setCell ?_ ?_ _ | refine Below.drewN' _ ?_ | refine Below.drew ?_ | exact Ge.le) | go_size)⟩
    · by_cases c3 : n = 0
      · subst c3
        have e1 := Lib.hid (right_none (hi := hi) h2 h3)
        go_enter Tryz.func328, Tryz.ntmps328
        go_wp2
        go_ret
        exact ⟨ret_int (by first | exact e1.out.symm | (rw [show (0 : Int).toNat = 0 from rfl]; exact e1.out.symm)), by (repeat' first | (with_reducible first | exact Below.refl _ _ | assumption | refine Later.belowOf _ ?_ ?_ | refine Below.alloc ?_ ?_ _ | refine Below.setCell ?_ ?_ _ | refine Below.drewN' _ ?_ | refine Below.drew ?_ | exact Ge.le) | go_size)⟩
      · have c4 : (n == 0) = false := by rw [beq_eq_false_iff_ne]; exact c3
        have e1 := Lib.hid (right_near h0 h1 h2 h3 (n := n.toNat) (by omega) (by omega))
        have e2 := Lib.hid (show 64 - n.toNat = (64 - n).toNat by omega)
        go_enter Tryz.func328, Tryz.ntmps328
        go_wp2
        go_quiet (fail)
        go_wp2
        go_ret
        exact ⟨ret_int (by rw [← e1.out, e2.out]), by (repeat' first | (with_reducible first | exact Below.refl _ _ | assumption | refine Later.belowOf _ ?_ ?_ | refine Below.alloc ?_ ?_ _ | refine Below.setCell ?_ ?_ _ | refine Below.drewN' _ ?_ | refine Below.drew ?_ | exact Ge.le) | go_size)⟩

set_option maxHeartbeats 1000000 in
theorem veven_any (neg more : Bool) (hi lo n : Int) (e : Int) (h0 : 0 ≤ hi) (h1 : hi ≤ 18446744073709551615) (h2 : 0 ≤ lo) (h3 : lo ≤ 18446744073709551615) (hn0 : 0 ≤ n) (hn : n ≤ 128) : Gives 329 #[(.agg #[.bool neg, .int .u64 hi, .int .u64 lo, .int .i64 e, .bool more]), .int .i64 n] (.bool (evenI hi lo n.toNat)) := by
  intro w
  by_cases c2 : 64 ≤ n
  · have e1 := even_far h0 h1 h2 h3 (n := n.toNat) (by omega) (by omega)
    rw [show ((n.toNat == 64) = (n == 64)) by rw [Bool.eq_iff_iff]; simp; omega, show (128 - n.toNat) = (128 - n).toNat by omega] at e1
    have E1 := Lib.hid e1
    clear e1
    refine (byB (lo == 0) (fun hc0 => (byB (n == 64) (fun hc1 => ?_) (fun hc1 => ?_))) (fun hc0 => ?_))
    all_goals
      go_enter Tryz.func329, Tryz.ntmps329
      go_wp2
      go_ret
      exact ⟨ret_bool (by rw [← E1.out]; simp [*]), by (repeat' first | (with_reducible first | exact Below.refl _ _ | assumption | refine Later.belowOf _ ?_ ?_ | refine Below.alloc ?_ ?_ _ | refine Below.setCell ?_ ?_ _ | refine Below.drewN' _ ?_ | refine Below.drew ?_ | exact Ge.le) | go_size)⟩
  · have e1 := even_near (hi := hi) h2 (n := n.toNat) (by omega)
    rw [show 64 - n.toNat = (64 - n).toNat by omega] at e1
    have E1 := Lib.hid e1
    clear e1
    go_enter Tryz.func329, Tryz.ntmps329
    go_wp2
    go_ret
    exact ⟨ret_bool (by rw [← E1.out]), by (repeat' first | (with_reducible first | exact Below.refl _ _ | assumption | refine Later.belowOf _ ?_ ?_ | refine Below.alloc ?_ ?_ _ | refine Below.setCell ?_ ?_ _ | refine Below.drewN' _ ?_ | refine Below.drew ?_ | exact Ge.le) | go_size)⟩

theorem right_odd {hi lo : Int} {n : Nat} : rightI hi lo n % 2 = (hi * 18446744073709551616 + lo) / 2 ^ n % 2 := by
  unfold rightI; omega
theorem right_range (hi lo : Int) (n : Nat) : 0 ≤ rightI hi lo n ∧ rightI hi lo n ≤ 18446744073709551615 := by
  unfold rightI; omega
theorem and_one {x : Int} (h : 0 ≤ x) (h2 : x ≤ 18446744073709551615) : bits BinOp.and IntKind.u64 x 1 = x % 2 := by
  have := u64_and x 1 h (by omega) (by omega) (by omega)
  rw [this, show (1 : Int).toNat = 2 ^ 1 - 1 from rfl, Nat.and_two_pow_sub_one_eq_mod]
  omega

set_option maxHeartbeats 4000000 in
theorem vshifted_any (neg more : Bool) (hi lo n : Int) (e : Int) (h0 : 0 ≤ hi) (h1 : hi ≤ 18446744073709551615) (h2 : 0 ≤ lo) (h3 : lo ≤ 18446744073709551615) (hn0 : 1 ≤ n) (hn : n ≤ 128) :
    Gives 310 #[(.agg #[.bool neg, .int .u64 hi, .int .u64 lo, .int .i64 e, .bool more]), .int .i64 n] (.tuple #[.int .u64 (rightI hi lo n.toNat), .int .i64 (lostI (hi * 18446744073709551616 + lo) more n.toNat)]) := by
  intro w
  have a1 := vright_any false false hi lo n 0 h0 h1 h2 h3 (by omega) hn
  have a2 := vright_any false false hi lo (n - 1) 0 h0 h1 h2 h3 (by omega) (by omega)
  have a3 := veven_any false false hi lo (n - 1) 0 h0 h1 h2 h3 (by omega) (by omega)
  have hL : lostI (hi * 18446744073709551616 + lo) more n.toNat = if rightI hi lo (n - 1).toNat % 2 = 1 then (if more || !evenI hi lo (n - 1).toNat then 3 else 2) else if more || !evenI hi lo (n - 1).toNat then 1 else 0 := by
    unfold lostI evenI
    rw [right_odd, show n.toNat - 1 = (n - 1).toNat by omega]
    simp only [ne_eq, decide_not]
  have hE : n = 1 → evenI hi lo (n - 1).toNat = true := by intro h; subst h; unfold evenI; simp
  have ho := and_one (right_range hi lo (n - 1).toNat).1 (right_range hi lo (n - 1).toNat).2
  have hp : rightI hi lo (n - 1).toNat % 2 = 0 ∨ rightI hi lo (n - 1).toNat % 2 = 1 := by omega
  generalize rightI hi lo (n - 1).toNat = R at *
  generalize evenI hi lo (n - 1).toNat = E at *
  generalize lostI (hi * 18446744073709551616 + lo) more n.toNat = L at *
  generalize rightI hi lo n.toNat = T at *
  clear h0 h1 h2 h3
  have main : ∀ (b : Int) (r : Bool), bits BinOp.and IntKind.u64 R 1 = b → (more || (decide (2 ≤ n) && !E)) = r → L = (if b = 1 then (if r then 3 else 2) else if r then 1 else 0) := by
    intro b r hb hr
    rw [hL, ← hb, ho]
    have : (more || !E) = r := by
      rw [← hr]
      by_cases h : 2 ≤ n
      · simp [h]
      · have := hE (by omega); simp [h, this]
    rw [this]
  have M := Lib.hid main
  clear main hL hE
  rcases hp with hp | hp
  all_goals
    rw [hp] at ho
    clear hp
    cases hm : more
    · by_cases h2n : 2 ≤ n
      · cases hE : E
        all_goals
          have hR := M.out _ _ ho rfl
          simp [hm, h2n, hE] at hR
          have HR := Lib.hid hR
          clear hR M
          go_enter Tryz.func310, Tryz.ntmps310
          go_wp2_with (first | (go_at_call 328; first | ((with_reducible refine (a1.go _).mono ?_); rintro _ _ ⟨k, rfl, rfl⟩) | ((with_reducible refine (a2.go _).mono ?_); rintro _ _ ⟨k, rfl, rfl⟩)) | (go_at_call 329; refine (a3.go _).mono ?_; rintro _ _ ⟨k, rfl, rfl⟩))
          go_ret2
          exact ⟨by rw [HR.out]; rfl, by (repeat' first | (with_reducible first | exact Below.refl _ _ | assumption | refine Later.belowOf _ ?_ ?_ | refine Below.alloc ?_ ?_ _ | refine Below.setCell ?_ ?_ _ | refine Below.drewN' _ ?_ | refine Below.drew ?_ | exact Ge.le) | go_size)⟩
      · have h2n' : ¬ 2 ≤ n := h2n
        have hR := M.out _ _ ho rfl
        simp [hm, h2n'] at hR
        have HR := Lib.hid hR
        clear hR M
        go_enter Tryz.func310, Tryz.ntmps310
        go_wp2_with (first | (go_at_call 328; first | ((with_reducible refine (a1.go _).mono ?_); rintro _ _ ⟨k, rfl, rfl⟩) | ((with_reducible refine (a2.go _).mono ?_); rintro _ _ ⟨k, rfl, rfl⟩)) | (go_at_call 329; refine (a3.go _).mono ?_; rintro _ _ ⟨k, rfl, rfl⟩))
        go_ret2
        exact ⟨by rw [HR.out]; rfl, by (repeat' first | (with_reducible first | exact Below.refl _ _ | assumption | refine Later.belowOf _ ?_ ?_ | refine Below.alloc ?_ ?_ _ | refine Below.setCell ?_ ?_ _ | refine Below.drewN' _ ?_ | refine Below.drew ?_ | exact Ge.le) | go_size)⟩
    · have hR := M.out _ _ ho rfl
      simp [hm] at hR
      have HR := Lib.hid hR
      clear hR M
      go_enter Tryz.func310, Tryz.ntmps310
      go_wp2_with (first | (go_at_call 328; first | ((with_reducible refine (a1.go _).mono ?_); rintro _ _ ⟨k, rfl, rfl⟩) | ((with_reducible refine (a2.go _).mono ?_); rintro _ _ ⟨k, rfl, rfl⟩)) | (go_at_call 329; refine (a3.go _).mono ?_; rintro _ _ ⟨k, rfl, rfl⟩))
      go_ret2
      exact ⟨by rw [HR.out]; rfl, by (repeat' first | (with_reducible first | exact Below.refl _ _ | assumption | refine Later.belowOf _ ?_ ?_ | refine Below.alloc ?_ ?_ _ | refine Below.setCell ?_ ?_ _ | refine Below.drewN' _ ?_ | refine Below.drew ?_ | exact Ge.le) | go_size)⟩
end Go.Proofs.YtkmgfbhnioojhaaGreat

/- Contracts: math.Ldexp of positive normal floats. -/
namespace Go.Proofs.YtkmgfbhnioojhaaGreat
set_option linter.unusedSimpArgs false
set_option linter.unusedVariables false
open Go.RowKit
open Fl

set_option maxHeartbeats 1000000 in
theorem normalize_any (f : Nat) (hf : f < 9218868437227405312) (hf2 : 4503599627370496 ≤ f) : Gives 300 #[(.float .f64 f)] (.tuple #[(.float .f64 f), .int .i64 0]) := by
  intro w
  have a1 := abs_any f (by omega)
  have e : rung f = f := by unfold rung SW; omega
  rw [e] at a1
  have t1 : flt f 4503599627370496 = false := by
    have i1 : idx 4503599627370496 = 4503599627370496 := by decide
    have i2 := idx_small (x := f) (by omega)
    cases h : flt f 4503599627370496
    · rfl
    · have := (flt_true.1 h).2.2
      rw [i1, i2] at this; omega
  clear hf hf2 e
  go_enter Tryz.func300, Tryz.ntmps300
  go_wp2_with (go_at_call 148; refine (a1.go _).mono ?_; rintro _ _ ⟨n, rfl, rfl⟩)
  go_ret2
  exact ⟨rfl, by (repeat' first | (with_reducible first | exact Below.refl _ _ | assumption | refine Later.belowOf _ ?_ ?_ | refine Below.alloc ?_ ?_ _ | refine Below.setCell ?_ ?_ _ | refine Below.drewN' _ ?_ | refine Below.drew ?_ | exact Ge.le) | go_size)⟩

theorem and_2047 {B : Int} (h0 : 0 ≤ B) (h1 : B ≤ 2047) : bits BinOp.and IntKind.i64 B 2047 = B := by
  have h127 : (BitVec.ofInt 64 2047).toNat = 2 ^ 11 - 1 := by decide
  have key : (BitVec.ofInt 64 B &&& BitVec.ofInt 64 2047).toNat = (B % ((2 ^ 64 : Nat) : Int)).toNat % 2 ^ 11 := by
    rw [BitVec.toNat_and, BitVec.toNat_ofInt, h127, Nat.and_two_pow_sub_one_eq_mod]
  show IntKind.i64.wrap ((BitVec.ofInt 64 B &&& BitVec.ofInt 64 2047).toNat : Nat) = B
  rw [key, IntKind.wrap_i64]
  omega

theorem andNot_inf {f : Nat} (h : f < 9218868437227405312) : bits BinOp.andNot IntKind.u64 (f : Int) 9218868437227405312 = (f : Int) % 4503599627370496 := by
  have h1 := u64_andNot_nat f 9218868437227405312 (by omega) (by decide)
  have e : ((9218868437227405312 : Nat) : Int) = 9218868437227405312 := rfl
  rw [e] at h1
  rw [h1]
  have : f &&& (18446744073709551615 - 9218868437227405312) = f % 4503599627370496 := by
    have e3 : (18446744073709551615 - 9218868437227405312 : Nat) = 2 ^ 63 ||| (2 ^ 52 - 1) := by decide
    rw [e3, Nat.and_or_distrib_left, Nat.and_two_pow_sub_one_eq_mod]
    have : f &&& 2 ^ 63 = 0 := by
      apply Nat.eq_of_testBit_eq
      intro i
      rw [Nat.testBit_and, Nat.testBit_two_pow, Nat.zero_testBit]
      by_cases hi : 63 = i
      · subst hi
        have : f.testBit 63 = false := Nat.testBit_lt_two_pow (by omega)
        rw [this]; rfl
      · simp [hi]
    rw [this, Nat.zero_or]
  rw [this]; omega

theorem or_exp {M K : Int} (h0 : 0 ≤ M) (h1 : M ≤ 4503599627370495) (h2 : 0 ≤ K) (h3 : K ≤ 4095) : (bits BinOp.or IntKind.u64 M (K * 4503599627370496)).toNat = K.toNat * 4503599627370496 + M.toNat := by
  rw [u64_or _ _ h0 (by omega) (by omega) (by omega), Int.toNat_natCast]
  have e : (K * 4503599627370496).toNat = K.toNat <<< 52 := by rw [Nat.shiftLeft_eq]; omega
  rw [e, Nat.or_comm, ← Nat.shiftLeft_add_eq_or_of_lt (by omega), Nat.shiftLeft_eq]

/-- Behind the walk: both factors, and the product. -/
theorem ldexp_end {f : Nat} {e B M K c : Int} {cn : Nat} {j : Nat} (w : World) (hf : f < 9218868437227405312) (hB : (f : Int) / 4503599627370496 = B) (hM : (f : Int) % 4503599627370496 = M) (hb : 1 ≤ B)
    (hK1 : 1 ≤ K) (hK2 : K ≤ 2046) (hcn : rung cn = cn ∧ sgn cn = false ∧ cn < INFR) (hG : G cn = pw (1074 - j)) (hj : j ≤ 1074) (hKj : K = e + B + j) :
    fop BinOp.mul cn (bits BinOp.or IntKind.u64 M (K * 4503599627370496)).toNat w = rungOf (G f * 2 ^ e.toNat) (2 ^ (-e).toNat) 0 := by
  rw [or_exp (by omega) (by omega) (by omega) (by omega)]
  obtain ⟨k, rfl⟩ : ∃ k : Nat, K = (k : Int) + 1 := ⟨(K - 1).toNat, by omega⟩
  obtain ⟨b, rfl⟩ : ∃ b : Nat, B = (b : Int) + 1 := ⟨(B - 1).toNat, by omega⟩
  obtain ⟨m, rfl⟩ : ∃ m : Nat, M = (m : Int) := ⟨M.toNat, by omega⟩
  have hm : m < BIN := by unfold BIN; omega
  have ek : ((k : Int) + 1).toNat * 4503599627370496 + (m : Int).toNat = (k + 1) * BIN + m := by unfold BIN; omega
  have ef : f = (b + 1) * BIN + m := by unfold BIN; omega
  rw [ek]
  have lk : (k + 1) * BIN + m < INFR := by unfold BIN at *; unfold INFR; omega
  have rk : rung ((k + 1) * BIN + m) = (k + 1) * BIN + m := Nat.mod_eq_of_lt (by unfold SW; unfold INFR at lk; omega)
  have sk : sgn ((k + 1) * BIN + m) = false := by
    unfold sgn; rw [Nat.div_eq_of_lt (by unfold SW; unfold INFR at lk; omega)]; rfl
  rw [fop_mul w (by rw [hcn.1]; exact hcn.2.2) (by rw [rk]; exact lk), hcn.1, hcn.2.1, rk, sk]
  have : word (false ^^ false) = fun r => r := by funext r; unfold word; simp
  rw [this, hG, ef, G_normal hm, G_normal hm]
  simp only []
  refine rungOf_ratio 0 (pw_pos _) (Nat.two_pow_pos _) ?_
  have e1 : pw 1074 = pw (1074 - j) * 2 ^ j := by
    have := pw_add (1074 - j) j
    rw [pw_eq j, Nat.sub_add_cancel hj] at this
    exact this
  rw [e1]
  have e2 : 2 ^ k * 2 ^ (-e).toNat = 2 ^ b * 2 ^ e.toNat * 2 ^ j := by
    rw [← Nat.pow_add, ← Nat.pow_add, ← Nat.pow_add]; congr 1; omega
  generalize pw (1074 - j) = P
  calc P * ((BIN + m) * 2 ^ k) * 2 ^ (-e).toNat = P * (BIN + m) * (2 ^ k * 2 ^ (-e).toNat) := by simp only [Nat.mul_assoc]
    _ = P * (BIN + m) * (2 ^ b * 2 ^ e.toNat * 2 ^ j) := by rw [e2]
    _ = (BIN + m) * 2 ^ b * 2 ^ e.toNat * (P * 2 ^ j) := by simp only [Nat.mul_assoc, Nat.mul_comm, Nat.mul_left_comm]

theorem G_one : G 4607182418800017408 = pw (1074 - 0) := by
  have := G_normal' (K := 1022) (m := 0) (by decide)
  have e : (1022 + 1) * BIN + 0 = 4607182418800017408 := by decide
  rw [e] at this
  rw [this]
  have e2 : BIN + 0 = pw 52 := by rw [pw_eq]
  rw [e2, ← pw_add]
theorem G_m53 : G 4368491638549381120 = pw (1074 - 53) := by
  have := G_normal' (K := 969) (m := 0) (by decide)
  have e : (969 + 1) * BIN + 0 = 4368491638549381120 := by decide
  rw [e] at this
  rw [this]
  have e2 : BIN + 0 = pw 52 := by rw [pw_eq]
  rw [e2, ← pw_add]

set_option maxHeartbeats 4000000 in
theorem ldexp_pos (f : Nat) (e B M : Int) (hf : f < 9218868437227405312) (hf2 : 4503599627370496 ≤ f) (hB : (f : Int) / 4503599627370496 = B) (hM : (f : Int) % 4503599627370496 = M) (h1 : -1075 ≤ e + (B - 1023)) (h2 : e + (B - 1023) ≤ 1023) :
    Gives 248 #[(.float .f64 f), .int .i64 e] (.float .f64 (rungOf (G f * 2 ^ e.toNat) (2 ^ (-e).toNat) 0)) := by
  intro w
  have i2 := idx_small (x := f) (by omega)
  have rg : rung f = f := by unfold rung SW; omega
  have nn : nan f = false := by unfold nan INFR; rw [rg]; simp; omega
  have a1 := normalize_any f hf hf2
  have a2 := isInf0_any f (by omega)
  have t1 : feq f 0 = false := by
    cases h : feq f 0
    · rfl
    · have := (feq_true.1 h).2.2
      have z : idx 0 = 0 := by decide
      rw [i2, z] at this; omega
  have t2 : flt 9218868437227405311 (rung f) = false := by
    rw [rg, infP_fact]
    cases h : feq f 9218868437227405312
    · rfl
    · have := (feq_true.1 h).2.2
      rw [i2, idx_pinf] at this; omega
  rw [t2] at a2
  have t3 : feq f f = true := by rw [feq_self, nn]; rfl
  have b1 : 1 ≤ B := by omega
  have b2 : B ≤ 2046 := by omega
  have m1 : 0 ≤ M := by omega
  have m2 : M ≤ 4503599627370495 := by omega
  have e1 : -3121 ≤ e := by omega
  have e2 : e ≤ 3121 := by omega
  have k1 := and_2047 (B := B) (by omega) (by omega)
  have k2 := andNot_inf hf
  rw [hM] at k2
  have HF := Lib.hid hf
  have HB := Lib.hid hB
  clear t2 nn rg i2 hf hf2
  have HM := Lib.hid hM
  clear hM
  by_cases c1 : e + (B - 1023) < -1022
  · go_enter Tryz.func248, Tryz.ntmps248
    go_wp2_with (first | (go_at_call 300; refine (a1.go _).mono ?_; rintro _ _ ⟨k, rfl, rfl⟩) | (go_at_call 173; refine (a2.go _).mono ?_; rintro _ _ ⟨k, rfl, rfl⟩) | (go_at_call 221; refine ((isNaN_any _).go _).mono ?_; rintro _ _ ⟨k, rfl, rfl⟩))
    go_ret
    exact ⟨ret_float (by rw [show e + (B - 1023) + 53 + 1023 = e + B + 53 by omega]; exact ldexp_end (c := 0) (j := 53) _ HF.out HB.out HM.out b1 (by omega) (by omega) (by decide) G_m53 (by decide) (by omega)), by (repeat' first | (with_reducible first | exact Below.refl _ _ | assumption | refine Later.belowOf _ ?_ ?_ | refine Below.alloc ?_ ?_ _ | refine Below.setCell ?_ ?_ _ | refine Below.drewN' _ ?_ | refine Below.drew ?_ | exact Ge.le) | go_size)⟩
  · go_enter Tryz.func248, Tryz.ntmps248
    go_wp2_with (first | (go_at_call 300; refine (a1.go _).mono ?_; rintro _ _ ⟨k, rfl, rfl⟩) | (go_at_call 173; refine (a2.go _).mono ?_; rintro _ _ ⟨k, rfl, rfl⟩) | (go_at_call 221; refine ((isNaN_any _).go _).mono ?_; rintro _ _ ⟨k, rfl, rfl⟩))
    go_ret
    exact ⟨ret_float (by rw [show e + (B - 1023) + 1023 = e + B by omega]; exact ldexp_end (c := 0) (j := 0) _ HF.out HB.out HM.out b1 (by omega) (by omega) (by decide) G_one (by decide) (by omega)), by (repeat' first | (with_reducible first | exact Below.refl _ _ | assumption | refine Later.belowOf _ ?_ ?_ | refine Below.alloc ?_ ?_ _ | refine Below.setCell ?_ ?_ _ | refine Below.drewN' _ ?_ | refine Below.drew ?_ | exact Ge.le) | go_size)⟩

set_option maxHeartbeats 1000000 in
theorem Ldexp_pos (f : Nat) (e B : Int) (hf : f < 9218868437227405312) (hf2 : 4503599627370496 ≤ f) (hB : (f : Int) / 4503599627370496 = B) (h1 : -1075 ≤ e + (B - 1023)) (h2 : e + (B - 1023) ≤ 1023) :
    Gives 170 #[(.float .f64 f), .int .i64 e] (.float .f64 (rungOf (G f * 2 ^ e.toNat) (2 ^ (-e).toNat) 0)) := by
  intro w
  have a1 := ldexp_pos f e B _ hf hf2 hB rfl h1 h2
  clear hf hf2 hB h1 h2
  go_enter Tryz.func170, Tryz.ntmps170
  go_wp2_with (go_at_call 248; refine (a1.go _).mono ?_; rintro _ _ ⟨k, rfl, rfl⟩)
  go_ret
  exact ⟨rfl, by (repeat' first | (with_reducible first | exact Below.refl _ _ | assumption | refine Later.belowOf _ ?_ ?_ | refine Below.alloc ?_ ?_ _ | refine Below.setCell ?_ ?_ _ | refine Below.drewN' _ ?_ | refine Below.drew ?_ | exact Ge.le) | go_size)⟩
end Go.Proofs.YtkmgfbhnioojhaaGreat

/- Contracts: a number made of whole bits and an exponent; rounding. -/
namespace Go.Proofs.YtkmgfbhnioojhaaGreat
set_option linter.unusedSimpArgs false
set_option linter.unusedVariables false
open Go.RowKit
open Fl

/-- The rung of q 2^e, or what it is rounded to where there's no room. -/
def madeR (q e dir : Int) : Nat := if INFR ≤ (e + 1074).toNat * BIN + q.toNat then (if 0 ≤ dir then INFR else INFR - 1) else (e + 1074).toNat * BIN + q.toNat

def signP (neg : Bool) (r : Nat) : Nat := bitsOf (if neg then -(r : Int) else (r : Int))
theorem signP_word (neg : Bool) {r : Nat} (h : 0 < r) : signP neg r = word neg r := bitsOf_word neg r h
theorem signP_zero (neg : Bool) : signP neg 0 = 0 := by unfold signP; cases neg <;> rfl

set_option maxHeartbeats 2000000 in
theorem made_any (neg more : Bool) (hi lo e0 q e dir : Int) (h0 : 0 ≤ q) (h1 : q ≤ 9007199254740992) (he0 : -1074 ≤ e) (he1 : e ≤ 20000) (hE : e = -1074 ∨ 4503599627370496 ≤ q) :
    Gives 311 #[(.agg #[.bool neg, .int .u64 hi, .int .u64 lo, .int .i64 e0, .bool more]), .int .u64 q, .int .i64 e, .int .i64 dir] (.float .f64 (signP neg (madeR q e dir))) := by
  intro w
  by_cases hq : q = 0
  · have : madeR q e dir = 0 := by
      unfold madeR
      have : e = -1074 := by omega
      subst this; subst hq
      rw [if_neg (by decide)]
      decide
    rw [this, signP_zero]
    clear this h0 h1 hE
    subst hq
    go_enter Tryz.func311, Tryz.ntmps311
    go_wp2
    go_ret
    exact ⟨rfl, by (repeat' first | (with_reducible first | exact Below.refl _ _ | assumption | refine Later.belowOf _ ?_ ?_ | refine Below.alloc ?_ ?_ _ | refine Below.setCell ?_ ?_ _ | refine Below.drewN' _ ?_ | refine Below.drew ?_ | exact Ge.le) | go_size)⟩
  · have hq1 : 1 ≤ q.toNat := by omega
    obtain ⟨f, hf1, hf2, hf3, hf4, hf5⟩ := of_whole hq1 (by omega)
    have hqe : ((q.toNat : Nat) : Int) = q := by omega
    rw [hqe] at hf1
    have hlen := gives_len64 q h0 (by omega)
    have hroom := room_iff (q := q.toNat) (E := (e + 1074).toNat) hq1 (by unfold BIN; omega) (by unfold BIN; omega)
    have heE : (((e + 1074).toNat : Nat) : Int) - 1074 = e := by omega
    rw [heE] at hroom
    have lb : (1 : Int) ≤ (blen q.toNat : Int) := by have := blen_pos (n := q.toNat) (by omega); omega
    have lt : (blen q.toNat : Int) ≤ 54 := by have := blen_le (n := q.toNat) (k := 54) (by omega); omega
    have q0 : (q == 0) = false := by rw [beq_eq_false_iff_ne]; exact hq
    by_cases c : (blen q.toNat : Int) + e ≤ 1024
    · have hr := hroom.1 c
      have hm : madeR q e dir = (e + 1074).toNat * BIN + q.toNat := by unfold madeR; rw [if_neg (by omega)]
      have a1 := Ldexp_pos f e _ hf3 hf2 hf4 (by omega) (by omega)
      rw [hf5, G_at (E := (e + 1074).toNat) (by unfold BIN; omega) (by unfold BIN; omega) heE.symm hr] at a1
      rw [hm]
      have hpos : 0 < (e + 1074).toNat * BIN + q.toNat := by omega
      generalize (e + 1074).toNat * BIN + q.toNat = r at *
      generalize (blen q.toNat : Int) = L at *
      rw [signP_word neg hpos]
      have hneg := fneg_eq (x := r) (by unfold INFR at hr; omega)
      have hw : fneg r = word true r := by
        unfold fneg
        have e1 : rung r = r := Nat.mod_eq_of_lt (by unfold SW; unfold INFR at hr; omega)
        have e2 : sgn r = false := by unfold sgn; rw [Nat.div_eq_of_lt (by unfold SW; unfold INFR at hr; omega)]; rfl
        rw [e1, e2]; rfl
      rw [hw] at hneg
      clear hw hr hm hpos hf2 hf3 hf4 hf5 hroom heE hqe hE hq1
      cases neg
      all_goals
        go_enter Tryz.func311, Tryz.ntmps311
        go_wp2_with (first | (go_at_call 308; refine (hlen.go _).mono ?_; rintro _ _ ⟨k, rfl, rfl⟩) | (go_at_call 170; refine (a1.go _).mono ?_; rintro _ _ ⟨k, rfl, rfl⟩))
        go_ret
        exact ⟨ret_float (by unfold word; simp), by (repeat' first | (with_reducible first | exact Below.refl _ _ | assumption | refine Later.belowOf _ ?_ ?_ | refine Below.alloc ?_ ?_ _ | refine Below.setCell ?_ ?_ _ | refine Below.drewN' _ ?_ | refine Below.drew ?_ | exact Ge.le) | go_size)⟩
    · have hr := fun h => c (hroom.2 h)
      have hm : madeR q e dir = if 0 ≤ dir then INFR else INFR - 1 := by unfold madeR; rw [if_pos (by omega)]
      rw [hm]
      have n1 : Op.negFloat .f64 9218868437227405312 = 18442240474082181120 := by decide
      have n2 : Op.negFloat .f64 9218868437227405311 = 18442240474082181119 := by decide
      generalize (blen q.toNat : Int) = L at *
      clear hr hm hf2 hf3 hf4 hf5 hroom heE hqe hE hq1
      by_cases hd : 0 ≤ dir
      all_goals
        cases neg
        all_goals
          go_enter Tryz.func311, Tryz.ntmps311
          go_wp2_with (first | (go_at_call 308; refine (hlen.go _).mono ?_; rintro _ _ ⟨k, rfl, rfl⟩) | (go_at_call 92; refine (math_Inf_pos.go _).mono ?_; rintro _ _ ⟨k, rfl, rfl⟩))
          go_ret
          exact ⟨ret_float (by first | rw [if_pos hd] | rw [if_neg (by omega)] | skip; first | rfl | decide), by (repeat' first | (with_reducible first | exact Below.refl _ _ | assumption | refine Later.belowOf _ ?_ ?_ | refine Below.alloc ?_ ?_ _ | refine Below.setCell ?_ ?_ _ | refine Below.drewN' _ ?_ | refine Below.drew ?_ | exact Ge.le) | go_size)⟩
end Go.Proofs.YtkmgfbhnioojhaaGreat

/- Contracts: rounding. -/
namespace Go.Proofs.YtkmgfbhnioojhaaGreat
set_option linter.unusedSimpArgs false
set_option linter.unusedVariables false
open Go.RowKit
open Fl

theorem rungOf_clamp (N D : Nat) (dir : Int) : rungOf N D (min (max dir (-1)) 1) = rungOf N D dir := by
  unfold rungOf
  have e1 : (min (max dir (-1)) 1 < 0) ↔ dir < 0 := by omega
  have e2 : (0 < min (max dir (-1)) 1) ↔ 0 < dir := by omega
  simp only [e1, e2]

/-- V's length. -/
theorem lenI_spec {hi lo : Int} (h0 : 0 ≤ hi) (h1 : hi ≤ 18446744073709551615) (h2 : 0 ≤ lo) (h3 : lo ≤ 18446744073709551615) :
    ∃ L : Nat, lenI hi lo = L ∧ L ≤ 128 ∧ (hi * 18446744073709551616 + lo).toNat < 2 ^ L ∧ (0 < hi * 18446744073709551616 + lo → 1 ≤ L ∧ 2 ^ (L - 1) ≤ (hi * 18446744073709551616 + lo).toNat) := by
  obtain ⟨H, rfl⟩ := Int.eq_ofNat_of_zero_le h0
  obtain ⟨Lo, rfl⟩ := Int.eq_ofNat_of_zero_le h2
  have hV : ((H : Int) * 18446744073709551616 + (Lo : Int)).toNat = H * 18446744073709551616 + Lo := by omega
  rw [hV]
  unfold lenI
  rw [Int.toNat_natCast, Int.toNat_natCast]
  by_cases c : 0 < (H : Int)
  · rw [if_pos c]
    have b1 := blen_lt H
    have b2 := blen_ge (n := H) (by omega)
    have b3 := blen_pos (n := H) (by omega)
    have b4 := blen_le (n := H) (k := 64) (by omega)
    have e64 : (2 : Nat) ^ 64 = 18446744073709551616 := by decide
    refine ⟨64 + blen H, by omega, by omega, ?_, fun _ => ⟨by omega, ?_⟩⟩
    · rw [Nat.pow_add, e64]; omega
    · rw [show 64 + blen H - 1 = 64 + (blen H - 1) by omega, Nat.pow_add, e64]; omega
  · rw [if_neg c]
    have hH : H = 0 := by omega
    subst hH
    refine ⟨blen Lo, rfl, ?_, ?_, ?_⟩
    · have := blen_le (n := Lo) (k := 64) (by omega); omega
    · have := blen_lt Lo; omega
    · intro h
      have b2 := blen_ge (n := Lo) (by omega)
      have b3 := blen_pos (n := Lo) (by omega)
      exact ⟨by omega, by omega⟩

/-- What the bits and what is lost are, of N / D at the scale E. -/
def Cutd (N D E : Nat) (q l : Int) : Prop := LostIs l N D E q.toNat ∧ 0 ≤ q ∧ q ≤ 9007199254740991 ∧ (E = 0 ∨ 4503599627370496 ≤ q) ∧ 0 ≤ l ∧ l ≤ 3

theorem lostI_range (V : Int) (more : Bool) (n : Nat) : 0 ≤ lostI V more n ∧ lostI V more n ≤ 3 := by
  unfold lostI; repeat' split
  all_goals omega

theorem Cutd.made {N D E : Nat} {q l e dir : Int} (h : Cutd N D E q l) (hD : 0 < D) (he : e = (E : Int) - 1074) : madeR (q + incI l q.toNat dir) e dir = rungOf N D dir := by
  obtain ⟨h1, h2, h3, h4, h5, h6⟩ := h
  rw [← round_lost dir h1 hD (by unfold BIN; omega) (by unfold BIN; omega)]
  have hi := incI_le l q.toNat dir
  unfold madeR
  have e1 : (e + 1074).toNat = E := by omega
  have e2 : (q + (incI l q.toNat dir : Int)).toNat = q.toNat + incI l q.toNat dir := by omega
  rw [e1, e2]

theorem made_fin0 {N D : Nat} {q l e c : Int} (H : madeR (q + incI l q.toNat c) e c = rungOf N D c) (hi : incI l q.toNat c = 0) : madeR q e c = rungOf N D c := by
  rw [hi] at H; simpa using H
theorem made_fin1 {N D : Nat} {q l e c : Int} (H : madeR (q + incI l q.toNat c) e c = rungOf N D c) (hi : incI l q.toNat c = 1) : madeR (q + 1) e c = rungOf N D c := by
  rw [hi] at H; exact H

/-- One of three ways to the bits. -/
theorem cutd_of {V a b N D E : Nat} {more : Bool} {hi lo e S : Int} {L : Nat} (hA : Amount V more a b N D) (hab : e + 1074 = (a : Int) - b) (hm : more = true → 9007199254740992 ≤ (V : Int)) (hD : 0 < D)
    (h0 : 0 ≤ hi) (h1 : hi ≤ 18446744073709551615) (h2 : 0 ≤ lo) (h3 : lo ≤ 18446744073709551615) (hV : hi * 18446744073709551616 + lo = (V : Int)) (hz : V ≠ 0)
    (hL1 : L ≤ 128) (hL2 : V < 2 ^ L) (hL3 : 1 ≤ L ∧ 2 ^ (L - 1) ≤ V) (hS : max ((L : Int) - 53) (-1074 - e) = S) (hE : e + S = (E : Int) - 1074) :
    (128 < S → Cutd N D E 0 1) ∧ (1 ≤ S → S ≤ 128 → Cutd N D E (rightI hi lo S.toNat) (lostI (V : Int) more S.toNat)) ∧ (S ≤ 0 → more = false ∧ Cutd N D E (IntKind.u64.wrap (lo * 2 ^ (-S).toNat)) 0) := by
  have shift : 1 ≤ S → LostIs (lostI V more S.toNat) N D E (V / 2 ^ S.toNat) := fun hs => lost_shift hA (by omega) (by omega) hD
  have hup : ∀ s : Nat, (L : Int) - 53 ≤ s → V / 2 ^ s < 9007199254740992 := by
    intro s hs
    rw [Nat.div_lt_iff_lt_mul (Nat.two_pow_pos s)]
    have : 2 ^ L ≤ 2 ^ (53 + s) := Nat.pow_le_pow_right (by decide) (by omega)
    rw [Nat.pow_add] at this
    have e53 : (2 : Nat) ^ 53 = 9007199254740992 := by decide
    omega
  have hdn : 1 ≤ S → E = 0 ∨ 4503599627370496 ≤ V / 2 ^ S.toNat := by
    intro hs
    by_cases h : E = 0
    · exact Or.inl h
    · right
      rw [Nat.le_div_iff_mul_le (Nat.two_pow_pos _)]
      have : 2 ^ (52 + S.toNat) ≤ 2 ^ (L - 1) := Nat.pow_le_pow_right (by decide) (by omega)
      rw [Nat.pow_add] at this
      have e52 : (2 : Nat) ^ 52 = 4503599627370496 := by decide
      omega
  have hri : 1 ≤ S → rightI hi lo S.toNat = ((V / 2 ^ S.toNat : Nat) : Int) := by
    intro hs
    have := hup S.toNat (by omega)
    unfold rightI
    rw [hV, ← pow2_cast, ← Int.natCast_ediv]
    generalize V / 2 ^ S.toNat = k at *
    omega
  refine ⟨fun hs => ?_, fun hs hs2 => ?_, fun hs => ?_⟩
  · have e0 : V / 2 ^ S.toNat = 0 := by
      apply Nat.div_eq_of_lt
      exact Nat.lt_of_lt_of_le hL2 (Nat.pow_le_pow_right (by decide) (by omega))
    have hl : lostI V more S.toNat = 1 := by
      have hlt : V < 2 ^ (S.toNat - 1) := Nat.lt_of_lt_of_le hL2 (Nat.pow_le_pow_right (by decide) (by omega))
      unfold lostI
      rw [← pow2_cast, ← Int.natCast_ediv, ← Int.natCast_emod, Nat.div_eq_of_lt hlt, Nat.mod_eq_of_lt hlt]
      have : (V : Int) ≠ 0 := by omega
      simp [this]
      omega
    have h := shift (by omega)
    rw [hl, e0] at h
    have hd := hdn (by omega)
    rw [e0] at hd
    exact ⟨h, by omega, by omega, by omega, by omega, by omega⟩
  · have h := shift hs
    have hu := hup S.toNat (by omega)
    have hd := hdn hs
    have hl := lostI_range V more S.toNat
    rw [hri hs]
    unfold Cutd
    rw [Int.toNat_natCast]
    generalize V / 2 ^ S.toNat = k at *
    exact ⟨h, by omega, by omega, by omega, hl.1, hl.2⟩
  · have hmf : more = false := by
      cases hmm : more
      · rfl
      · have h9 := hm hmm
        exfalso
        have : 2 ^ L ≤ 2 ^ 53 := Nat.pow_le_pow_right (by decide) (by omega)
        have e53 : (2 : Nat) ^ 53 = 9007199254740992 := by decide
        omega
    refine ⟨hmf, ?_⟩
    subst hmf
    obtain ⟨t, ht⟩ : ∃ t : Nat, -S = t := ⟨(-S).toNat, by omega⟩
    have htn : (-S).toNat = t := by omega
    have hv53 : V * 2 ^ t < 9007199254740992 := by
      have : V * 2 ^ t < 2 ^ L * 2 ^ t := Nat.mul_lt_mul_of_pos_right hL2 (Nat.two_pow_pos _)
      rw [← Nat.pow_add] at this
      have h2 : 2 ^ (L + t) ≤ 2 ^ 53 := Nat.pow_le_pow_right (by decide) (by omega)
      have e53 : (2 : Nat) ^ 53 = 9007199254740992 := by decide
      omega
    have hVs : V < 9007199254740992 := by have := Nat.le_mul_of_pos_right V (Nat.two_pow_pos t); omega
    have hlo : lo = (V : Int) := by omega
    have hw : IntKind.u64.wrap (lo * 2 ^ (-S).toNat) = ((V * 2 ^ t : Nat) : Int) := by
      rw [wrap64u, htn, hlo, ← pow2_cast, ← Int.natCast_mul]
      omega
    rw [hw]
    have h := lost_none (E := E) (t := t) hA (by omega)
    have hd : E = 0 ∨ 4503599627370496 ≤ V * 2 ^ t := by
      by_cases h : E = 0
      · exact Or.inl h
      · right
        have : 2 ^ (L - 1) * 2 ^ t ≤ V * 2 ^ t := Nat.mul_le_mul_right _ hL3.2
        rw [← Nat.pow_add, show L - 1 + t = 52 by omega] at this
        have e52 : (2 : Nat) ^ 52 = 4503599627370496 := by decide
        omega
    refine ⟨by rw [Int.toNat_natCast]; exact h, by omega, by omega, by omega, by omega, by omega⟩

set_option maxHeartbeats 400000 in
theorem vshifted_far (neg more : Bool) (hi lo n : Int) (e : Int) (hn0 : 129 ≤ n) :
    Gives 310 #[(.agg #[.bool neg, .int .u64 hi, .int .u64 lo, .int .i64 e, .bool more]), .int .i64 n] (.tuple #[.int .u64 0, .int .i64 1]) := by
  intro w
  go_enter Tryz.func310, Tryz.ntmps310
  go_wp2
  go_ret2
  exact ⟨rfl, by (repeat' first | (with_reducible first | exact Below.refl _ _ | assumption | refine Later.belowOf _ ?_ ?_ | refine Below.alloc ?_ ?_ _ | refine Below.setCell ?_ ?_ _ | refine Below.drewN' _ ?_ | refine Below.drew ?_ | exact Ge.le) | go_size)⟩

set_option maxRecDepth 100000 in
set_option maxHeartbeats 8000000 in
theorem round_any (neg more : Bool) (hi lo e dir : Int) (N D a b : Nat) (h0 : 0 ≤ hi) (h1 : hi ≤ 18446744073709551615) (h2 : 0 ≤ lo) (h3 : lo ≤ 18446744073709551615) (he0 : -6000 ≤ e) (he1 : e ≤ 6000)
    (hA : Amount (hi * 18446744073709551616 + lo).toNat more a b N D) (hab : e + 1074 = (a : Int) - b) (hm : more = true → 9007199254740992 ≤ hi * 18446744073709551616 + lo) (hD : 0 < D) :
    Gives 259 #[(.agg #[.bool neg, .int .u64 hi, .int .u64 lo, .int .i64 e, .bool more]), .int .i64 dir] (.float .f64 (signP neg (rungOf N D (if neg then -dir else dir)))) := by
  intro w
  -- the side
  have hd : rungOf N D (if neg then -dir else dir) = rungOf N D (if neg then -(min (max dir (-1)) 1) else min (max dir (-1)) 1) := by
    rw [← rungOf_clamp]
    conv => rhs; rw [← rungOf_clamp]
    congr 1
    cases neg <;> simp <;> omega
  rw [hd]
  have hc3 : min (max dir (-1)) 1 = -1 ∨ min (max dir (-1)) 1 = 0 ∨ min (max dir (-1)) 1 = 1 := by omega
  clear hd
  obtain ⟨L, hL, hL1, hL2, hL3⟩ := lenI_spec h0 h1 h2 h3
  have a1 := vlen_any neg more hi lo e h0 h1 h2 h3
  rw [hL] at a1
  obtain ⟨V, hV⟩ : ∃ V : Nat, (hi * 18446744073709551616 + lo).toNat = V := ⟨_, rfl⟩
  have hVi : hi * 18446744073709551616 + lo = (V : Int) := by omega
  rw [hV] at hA hL2 hL3
  rw [hVi] at hm hL3
  by_cases hz : V = 0
  · have hmf : more = false := by cases more; rfl; have := hm rfl; omega
    subst hmf
    have hN : N = 0 := by
      have h : N * 2 ^ b = V * 2 ^ a * D := hA
      rw [hz, Nat.zero_mul, Nat.zero_mul] at h
      rcases Nat.mul_eq_zero.1 h with h | h
      · exact h
      · have := Nat.two_pow_pos b; omega
    rw [hN, rungOf_zero D hD, signP_zero]
    have z1 : hi = 0 := by omega
    have z2 : lo = 0 := by omega
    subst z1 z2
    clear hA hab hm hL hL1 hL2 hL3 a1 hV hVi hc3 h0 h1 h2 h3 he0 he1
    go_enter Tryz.func259, Tryz.ntmps259
    go_wp2
    go_ret
    exact ⟨rfl, by (repeat' first | (with_reducible first | exact Below.refl _ _ | assumption | refine Later.belowOf _ ?_ ?_ | refine Below.alloc ?_ ?_ _ | refine Below.setCell ?_ ?_ _ | refine Below.drewN' _ ?_ | refine Below.drew ?_ | exact Ge.le) | go_size)⟩
  · have hLV := hL3 (by omega)
    -- not nought
    have hnz : hi ≠ 0 ∨ lo ≠ 0 := by omega
    obtain ⟨S, hS⟩ : ∃ S : Int, max ((L : Int) - 53) (-1074 - e) = S := ⟨_, rfl⟩
    obtain ⟨E, hE⟩ : ∃ E : Nat, e + S = (E : Int) - 1074 := ⟨(e + S + 1074).toNat, by omega⟩
    obtain ⟨p1, p2, p3⟩ := cutd_of hA hab hm hD h0 h1 h2 h3 hVi hz hL1 hL2 hLV hS hE
    have made : ∀ q l dir : Int, Cutd N D E q l → madeR (q + incI l q.toNat dir) (e + S) dir = rungOf N D dir := fun q l dir h => h.made hD hE
    have a2 : 1 ≤ S → S ≤ 128 → Gives 310 #[(.agg #[.bool neg, .int .u64 hi, .int .u64 lo, .int .i64 e, .bool more]), .int .i64 S] (.tuple #[.int .u64 (rightI hi lo S.toNat), .int .i64 (lostI (V : Int) more S.toNat)]) := by
      intro hs1 hs2
      have := vshifted_any neg more hi lo S e h0 h1 h2 h3 hs1 hs2
      rwa [hVi] at this
    have s1 : -52 ≤ S := by omega
    have s2 : S ≤ 7000 := by omega
    have l1 : (0 : Int) ≤ L := by omega
    have l2 : (L : Int) ≤ 128 := by omega
    have es1 : -1074 ≤ e + S := by omega
    have es2 : e + S ≤ 20000 := by omega
    have esE : e + S = -1074 ∨ E ≠ 0 := by omega
    generalize (L : Int) = L0 at *
    have ME := Lib.hid made
    have P1 := Lib.hid p1
    have P2 := Lib.hid p2
    have P3 := Lib.hid p3
    have A2 := Lib.hid a2
    have EE := Lib.hid esE
    clear hA hab hm hL hL2 hL3 hL1 hLV hV hVi hz hE h0 h1 h2 h3 p1 p2 p3 made a2 esE
    go_enter Tryz.func259, Tryz.ntmps259
    go_upto_region 2 with (fail)
    go_cut [23] (fun v wc => v = .bool false ∧ wc = w.alloc (.cells #[.bool neg, .int .u64 hi, .int .u64 lo, .int .i64 e, .bool more] 218))
    case first =>
      by_cases hh : hi = 0
      · have hl : (lo == 0) = false := by rw [beq_eq_false_iff_ne]; omega
        subst hh
        go_wp2
        go_meet
        case rel => exact ⟨rfl, rfl⟩
      · have hl : (hi == 0) = false := by rw [beq_eq_false_iff_ne]; omega
        go_wp2
        go_meet
        case rel => exact ⟨rfl, rfl⟩
    case rest =>
      obtain ⟨rfl, rfl⟩ := hcut
      go_wp2_with (fail)
      refine wp_region_later (by kernel_rfl) (by kernel_rfl) ?_
      repeat (go_big_quiet_step ((go_at_call 309; (with_reducible exact a1.later _))))
      (refine wpQuiet_nil ?_; rintro _ ⟨nq, rfl⟩)
      clear a1 hS l1 l2
      go_upto_if 32 with (fail)
      go_cut [6, 7] (fun v6 v7 wc => ∃ (q l : Int) (k : Later nq.val), v6 = .int .u64 q ∧ v7 = .int .i64 l ∧ Hid (Cutd N D E q l) ∧ wc = k.val)
      case first =>
        by_cases c1 : S ≤ 0
        · obtain ⟨rfl, hc⟩ := P3.out c1
          have HC := Lib.hid hc
          clear hc P3 P1 P2 A2
          go_wp2
          go_meet
          case rel => exact ⟨_, _, ⟨nq.val, Below.refl _ _⟩, rfl, rfl, HC, rfl⟩
        · by_cases c2 : S ≤ 128
          · have hc := P2.out (by omega) c2
            have HC := Lib.hid hc
            have a2 := A2.out (by omega) c2
            clear hc P3 P1 P2 A2
            go_wp2_with (go_at_call 310; refine (a2.go _).mono ?_; rintro _ _ ⟨k, rfl, rfl⟩)
            go_meet
            case rel => exact ⟨_, _, k, rfl, rfl, HC, rfl⟩
          · have hc := P1.out (by omega)
            have HC := Lib.hid hc
            clear hc P3 P1 P2 A2
            have a3 := vshifted_far neg more hi lo S e (by omega)
            go_wp2_with (go_at_call 310; refine (a3.go _).mono ?_; rintro _ _ ⟨k, rfl, rfl⟩)
            go_meet
            case rel => exact ⟨_, _, k, rfl, rfl, HC, rfl⟩
      case rest =>
        clear P1 P2 P3 A2
        obtain ⟨q, l, k, rfl, rfl, HC, rfl⟩ := hcut
        have hq := HC.out
        obtain ⟨_, q0, q1, qE, l0, l1⟩ := hq
        have hm := fun d : Int => ME.out q l d HC.out
        have b0 : ∀ dd : Int, Gives 311 #[(.agg #[.bool neg, .int .u64 hi, .int .u64 lo, .int .i64 e, .bool more]), .int .u64 q, .int .i64 (e + S), .int .i64 dd] (.float .f64 (signP neg (madeR q (e + S) dd))) :=
          fun dd => made_any neg more hi lo e q (e + S) dd (by omega) (by omega) es1 es2 (by have := EE.out; omega)
        have b1 : ∀ dd : Int, Gives 311 #[(.agg #[.bool neg, .int .u64 hi, .int .u64 lo, .int .i64 e, .bool more]), .int .u64 (q + 1), .int .i64 (e + S), .int .i64 dd] (.float .f64 (signP neg (madeR (q + 1) (e + S) dd))) :=
          fun dd => made_any neg more hi lo e (q + 1) (e + S) dd (by omega) (by omega) es1 es2 (by have := EE.out; omega)
        have HM := Lib.hid hm
        have B0 := Lib.hid b0
        have B1 := Lib.hid b1
        clear hm b0 b1 ME HC EE qE es1 es2
        have hl : l = 0 ∨ l = 1 ∨ l = 2 ∨ l = 3 := by omega
        have hqo : (bits BinOp.and IntKind.u64 q 1 = 0 ∧ q.toNat % 2 = 0) ∨ (bits BinOp.and IntKind.u64 q 1 = 1 ∧ q.toNat % 2 = 1) := by rw [and_one q0 (by omega)]; omega
        clear l0 l1
        rcases hl with rfl | rfl | rfl | rfl
        · have hqp : True := trivial
          rcases hc3 with hc | hc | hc <;> cases neg
          all_goals
            rw [hc]
            go_wp2_with (go_at_call 311; first | ((with_reducible refine ((B0.out _).go _).mono ?_); rintro _ _ ⟨k2, rfl, rfl⟩) | ((with_reducible refine ((B1.out _).go _).mono ?_); rintro _ _ ⟨k2, rfl, rfl⟩))
            go_ret
            exact ⟨ret_float (by first | exact congrArg (signP _) (made_fin0 (HM.out _) (by unfold incI; simp [hqp])) | exact congrArg (signP _) (made_fin1 (HM.out _) (by unfold incI; simp [hqp]))), by (repeat' first | (with_reducible first | exact Below.refl _ _ | assumption | refine Later.belowOf _ ?_ ?_ | refine Below.alloc ?_ ?_ _ | refine Below.setCell ?_ ?_ _ | refine Below.drewN' _ ?_ | refine Below.drew ?_ | exact Ge.le) | go_size)⟩
        · have hqp : True := trivial
          rcases hc3 with hc | hc | hc <;> cases neg
          all_goals
            rw [hc]
            go_wp2_with (go_at_call 311; first | ((with_reducible refine ((B0.out _).go _).mono ?_); rintro _ _ ⟨k2, rfl, rfl⟩) | ((with_reducible refine ((B1.out _).go _).mono ?_); rintro _ _ ⟨k2, rfl, rfl⟩))
            go_ret
            exact ⟨ret_float (by first | exact congrArg (signP _) (made_fin0 (HM.out _) (by unfold incI; simp [hqp])) | exact congrArg (signP _) (made_fin1 (HM.out _) (by unfold incI; simp [hqp]))), by (repeat' first | (with_reducible first | exact Below.refl _ _ | assumption | refine Later.belowOf _ ?_ ?_ | refine Below.alloc ?_ ?_ _ | refine Below.setCell ?_ ?_ _ | refine Below.drewN' _ ?_ | refine Below.drew ?_ | exact Ge.le) | go_size)⟩
        · rcases hqo with ⟨hqo, hqp'⟩ | ⟨hqo, hqp'⟩
          all_goals
            have hqp := Lib.hid hqp'
            clear hqp'
            rcases hc3 with hc | hc | hc <;> cases neg
            all_goals
              rw [hc]
              go_wp2_with (go_at_call 311; first | ((with_reducible refine ((B0.out _).go _).mono ?_); rintro _ _ ⟨k2, rfl, rfl⟩) | ((with_reducible refine ((B1.out _).go _).mono ?_); rintro _ _ ⟨k2, rfl, rfl⟩))
              go_ret
              exact ⟨ret_float (by first | exact congrArg (signP _) (made_fin0 (HM.out _) (by unfold incI; simp [hqp.out])) | exact congrArg (signP _) (made_fin1 (HM.out _) (by unfold incI; simp [hqp.out]))), by (repeat' first | (with_reducible first | exact Below.refl _ _ | assumption | refine Later.belowOf _ ?_ ?_ | refine Below.alloc ?_ ?_ _ | refine Below.setCell ?_ ?_ _ | refine Below.drewN' _ ?_ | refine Below.drew ?_ | exact Ge.le) | go_size)⟩
        · have hqp : True := trivial
          rcases hc3 with hc | hc | hc <;> cases neg
          all_goals
            rw [hc]
            go_wp2_with (go_at_call 311; first | ((with_reducible refine ((B0.out _).go _).mono ?_); rintro _ _ ⟨k2, rfl, rfl⟩) | ((with_reducible refine ((B1.out _).go _).mono ?_); rintro _ _ ⟨k2, rfl, rfl⟩))
            go_ret
            exact ⟨ret_float (by first | exact congrArg (signP _) (made_fin0 (HM.out _) (by unfold incI; simp [hqp])) | exact congrArg (signP _) (made_fin1 (HM.out _) (by unfold incI; simp [hqp]))), by (repeat' first | (with_reducible first | exact Below.refl _ _ | assumption | refine Later.belowOf _ ?_ ?_ | refine Below.alloc ?_ ?_ _ | refine Below.setCell ?_ ?_ _ | refine Below.drewN' _ ?_ | refine Below.drew ?_ | exact Ge.le) | go_size)⟩

end Go.Proofs.YtkmgfbhnioojhaaGreat

/- Contracts: floats taken apart. -/
namespace Go.Proofs.YtkmgfbhnioojhaaGreat
set_option linter.unusedSimpArgs false
set_option linter.unusedVariables false
open Go.RowKit
open Fl

@[go_sem] theorem build_pa (a : Bool) (b c : Int) (w : World) : (Instr.build 131 #[(0, .bool a), (1, .int .u64 b), (2, .int .i64 c)]).run Tryz.prog w = .ok (.agg #[.bool a, .int .u64 b, .int .i64 c]) w := run_build w 131 _ _ (by kernel_rfl)
@[go_sem] theorem build_pa0 (w : World) : (Instr.build 131 #[]).run Tryz.prog w = .ok (.agg #[.bool false, .int .u64 0, .int .i64 0]) w := run_build w 131 _ _ (by kernel_rfl)

def pNeg (x : Nat) : Bool := sgn x && decide (rung x ≠ 0)
def pM (x : Nat) : Int := mag (rung x)
def pE (x : Nat) : Int := if rung x = 0 then 0 else -1074 + exn (rung x)


theorem or_bit {m : Int} (h0 : 0 ≤ m) (h1 : m ≤ 4503599627370495) : bits BinOp.or IntKind.u64 m 4503599627370496 = m + 4503599627370496 := by
  rw [u64_or _ _ h0 (by omega) (by omega) (by omega)]
  have e : (4503599627370496 : Int).toNat = 1 <<< 52 := by decide
  rw [e, Nat.or_comm, ← Nat.shiftLeft_add_eq_or_of_lt (by omega)]
  omega

theorem flt_zero {x : Nat} (h : nan x = false) : flt x 0 = pNeg x := by
  unfold flt pNeg
  have z : nan 0 = false := by decide
  have z2 : idx 0 = 0 := by decide
  rw [h, z, z2]
  unfold idx
  cases sgn x
  · simp
  · rw [Bool.eq_iff_iff]; simp <;> omega

set_option maxHeartbeats 4000000 in
theorem split_fin (x : Nat) (hx : x < 18446744073709551616) (hf : finB x = true) : Gives 307 #[(.float .f64 x)] (.tuple #[(.agg #[.bool (pNeg x), .int .u64 (pM x), .int .i64 (pE x)]), .bool true]) := by
  intro w
  have hr : rung x < 9218868437227405312 := by simpa [finB] using hf
  have hn : nan x = false := nan_false.2 (by unfold INFR; omega)
  have i1 := isInf0_any x hx
  rw [isInf0_fact hn, show infinB x = false by unfold infinB; simp; omega] at i1
  have f1 : feq x x = true := by rw [feq_self, hn]; rfl
  have f2 := flt_zero hn
  have e1 : IntKind.u64.wrap ((x : Int) * 4096) / 4096 = ((rung x % BIN : Nat) : Int) := by
    rw [wrap64u]; unfold rung BIN SW; omega
  have e2 : IntKind.u64.wrap ((x : Int) * 2) / 9007199254740992 = ((rung x / BIN : Nat) : Int) := by
    rw [wrap64u]; unfold rung BIN SW; omega
  have hB : ((rung x / BIN : Nat) : Int) ≤ 2046 := by unfold BIN; omega
  have hB0 : 0 ≤ ((rung x / BIN : Nat) : Int) := Int.natCast_nonneg _
  have hm0 : 0 ≤ ((rung x % BIN : Nat) : Int) := Int.natCast_nonneg _
  have hm1 : ((rung x % BIN : Nat) : Int) ≤ 4503599627370495 := by unfold BIN; omega
  have ho := or_bit hm0 hm1
  have hpM : pM x = if ((rung x / BIN : Nat) : Int) = 0 then ((rung x % BIN : Nat) : Int) else ((rung x % BIN : Nat) : Int) + 4503599627370496 := by
    unfold pM mag BIN; split <;> split <;> omega
  have hpE : pE x = if ((rung x / BIN : Nat) : Int) = 0 then (if ((rung x % BIN : Nat) : Int) = 0 then 0 else -1074) else ((rung x / BIN : Nat) : Int) - 1075 := by
    unfold pE exn BIN; split <;> split <;> (try split) <;> omega
  have hpN : ((rung x / BIN : Nat) : Int) = 0 → ((rung x % BIN : Nat) : Int) = 0 → pNeg x = false := by
    intro h1 h2
    unfold pNeg
    have : rung x = 0 := by unfold BIN at h1 h2; omega
    simp [this]
  generalize ((rung x / BIN : Nat) : Int) = B at *
  generalize ((rung x % BIN : Nat) : Int) = m at *
  have l : (x : Int) ≤ 18446744073709551615 := by omega
  have HM := Lib.hid hpM
  have HE := Lib.hid hpE
  have HN := Lib.hid hpN
  clear hr hn hpM hpE hpN hx hf
  by_cases c1 : B = 0
  · subst c1
    by_cases c2 : m = 0
    · subst c2
      have hM : pM x = 0 := by rw [HM.out]; rfl
      have hE : pE x = 0 := by rw [HE.out]; rfl
      have hN : pNeg x = false := HN.out rfl rfl
      rw [hM, hE, hN]
      clear HM HE HN hM hE hN
      go_enter Tryz.func307, Tryz.ntmps307
      go_wp2_with (first | (go_at_call 173; refine (i1.go _).mono ?_; rintro _ _ ⟨k, rfl, rfl⟩) | (go_at_call 221; refine ((isNaN_any _).go _).mono ?_; rintro _ _ ⟨k, rfl, rfl⟩))
      go_returns
      exact ⟨rfl, by (repeat' first | (with_reducible first | exact Below.refl _ _ | assumption | refine Later.belowOf _ ?_ ?_ | refine Below.alloc ?_ ?_ _ | refine Below.setCell ?_ ?_ _ | refine Below.drewN' _ ?_ | refine Below.drew ?_ | exact Ge.le) | go_size)⟩
    · have c2' : (m == 0) = false := by rw [beq_eq_false_iff_ne]; exact c2
      have hM : pM x = m := by rw [HM.out]; rfl
      have hE : pE x = -1074 := by rw [HE.out, if_pos rfl, if_neg c2]
      rw [hM, hE]
      clear HM HE HN hM hE c2
      go_enter Tryz.func307, Tryz.ntmps307
      go_wp2_with (first | (go_at_call 173; refine (i1.go _).mono ?_; rintro _ _ ⟨k, rfl, rfl⟩) | (go_at_call 221; refine ((isNaN_any _).go _).mono ?_; rintro _ _ ⟨k, rfl, rfl⟩))
      go_returns
      exact ⟨rfl, by (repeat' first | (with_reducible first | exact Below.refl _ _ | assumption | refine Later.belowOf _ ?_ ?_ | refine Below.alloc ?_ ?_ _ | refine Below.setCell ?_ ?_ _ | refine Below.drewN' _ ?_ | refine Below.drew ?_ | exact Ge.le) | go_size)⟩
  · have c1' : (B == 0) = false := by rw [beq_eq_false_iff_ne]; exact c1
    have hM : pM x = m + 4503599627370496 := by rw [HM.out, if_neg c1]
    have hE : pE x = B + -1074 - 1 := by rw [HE.out, if_neg c1]; omega
    rw [hM, hE]
    clear HM HE HN hM hE c1
    by_cases c2 : m = 0
    · subst c2
      go_enter Tryz.func307, Tryz.ntmps307
      go_wp2_with (first | (go_at_call 173; refine (i1.go _).mono ?_; rintro _ _ ⟨k, rfl, rfl⟩) | (go_at_call 221; refine ((isNaN_any _).go _).mono ?_; rintro _ _ ⟨k, rfl, rfl⟩))
      go_returns
      exact ⟨rfl, by (repeat' first | (with_reducible first | exact Below.refl _ _ | assumption | refine Later.belowOf _ ?_ ?_ | refine Below.alloc ?_ ?_ _ | refine Below.setCell ?_ ?_ _ | refine Below.drewN' _ ?_ | refine Below.drew ?_ | exact Ge.le) | go_size)⟩
    · have c2' : (m == 0) = false := by rw [beq_eq_false_iff_ne]; exact c2
      go_enter Tryz.func307, Tryz.ntmps307
      go_wp2_with (first | (go_at_call 173; refine (i1.go _).mono ?_; rintro _ _ ⟨k, rfl, rfl⟩) | (go_at_call 221; refine ((isNaN_any _).go _).mono ?_; rintro _ _ ⟨k, rfl, rfl⟩))
      go_returns
      exact ⟨rfl, by (repeat' first | (with_reducible first | exact Below.refl _ _ | assumption | refine Later.belowOf _ ?_ ?_ | refine Below.alloc ?_ ?_ _ | refine Below.setCell ?_ ?_ _ | refine Below.drewN' _ ?_ | refine Below.drew ?_ | exact Ge.le) | go_size)⟩

set_option maxHeartbeats 1000000 in
theorem split_non (x : Nat) (hx : x < 18446744073709551616) (hf : finB x = false) : Gives 307 #[(.float .f64 x)] (.tuple #[(.agg #[.bool false, .int .u64 0, .int .i64 0]), .bool false]) := by
  intro w
  have i1 := isInf0_any x hx
  rcases tof (nan x) with hn | hn
  · have f1 : feq x x = false := by rw [feq_self, hn]; rfl
    clear hf hx
    go_enter Tryz.func307, Tryz.ntmps307
    go_wp2_with (first | (go_at_call 173; refine (i1.go _).mono ?_; rintro _ _ ⟨k, rfl, rfl⟩) | (go_at_call 221; refine ((isNaN_any _).go _).mono ?_; rintro _ _ ⟨k, rfl, rfl⟩))
    go_returns
    exact ⟨rfl, by (repeat' first | (with_reducible first | exact Below.refl _ _ | assumption | refine Later.belowOf _ ?_ ?_ | refine Below.alloc ?_ ?_ _ | refine Below.setCell ?_ ?_ _ | refine Below.drewN' _ ?_ | refine Below.drew ?_ | exact Ge.le) | go_size)⟩
  · have f1 : feq x x = true := by rw [feq_self, hn]; rfl
    have : infinB x = true := by
      unfold infinB finB at *
      have := nan_false.1 hn
      unfold INFR at this
      simp at *; omega
    rw [isInf0_fact hn, this] at i1
    clear hf hx
    go_enter Tryz.func307, Tryz.ntmps307
    go_wp2_with (first | (go_at_call 173; refine (i1.go _).mono ?_; rintro _ _ ⟨k, rfl, rfl⟩) | (go_at_call 221; refine ((isNaN_any _).go _).mono ?_; rintro _ _ ⟨k, rfl, rfl⟩))
    go_returns
    exact ⟨rfl, by (repeat' first | (with_reducible first | exact Below.refl _ _ | assumption | refine Later.belowOf _ ?_ ?_ | refine Below.alloc ?_ ?_ _ | refine Below.setCell ?_ ?_ _ | refine Below.drewN' _ ?_ | refine Below.drew ?_ | exact Ge.le) | go_size)⟩

def qNeg (x : Nat) : Bool := if finB x then pNeg x else false
def qM (x : Nat) : Int := if finB x then pM x else 0
def qE (x : Nat) : Int := if finB x then pE x else 0

theorem split_any (x : Nat) (hx : x < 18446744073709551616) : Gives 307 #[(.float .f64 x)] (.tuple #[(.agg #[.bool (qNeg x), .int .u64 (qM x), .int .i64 (qE x)]), .bool (finB x)]) := by
  unfold qNeg qM qE
  cases h : finB x
  · exact split_non x hx h
  · exact split_fin x hx h

set_option maxHeartbeats 2000000 in
theorem both_any (a b : Nat) (ha : a < 18446744073709551616) (hb : b < 18446744073709551616) : Gives 256 #[(.float .f64 a), (.float .f64 b)] (.tuple #[(.agg #[.bool (qNeg a), .int .u64 (qM a), .int .i64 (qE a)]), (.agg #[.bool (qNeg b), .int .u64 (qM b), .int .i64 (qE b)]), .bool (finB a && finB b)]) := by
  intro w
  have a1 := split_any a ha
  have a2 := split_any b hb
  clear ha hb
  refine (byB (finB a) (fun hc0 => ?_) (fun hc0 => ?_))
  all_goals
    go_enter Tryz.func256, Tryz.ntmps256
    go_wp2_with (go_at_call 307; first | ((with_reducible refine (a1.go _).mono ?_); rintro _ _ ⟨k, rfl, rfl⟩) | ((with_reducible refine (a2.go _).mono ?_); rintro _ _ ⟨k, rfl, rfl⟩))
    go_region
    all_goals (go_wp2; go_returns; exact ⟨by simp [*], by (repeat' first | (with_reducible first | exact Below.refl _ _ | assumption | refine Later.belowOf _ ?_ ?_ | refine Below.alloc ?_ ?_ _ | refine Below.setCell ?_ ?_ _ | refine Below.drewN' _ ?_ | refine Below.drew ?_ | exact Ge.le) | go_size)⟩)
end Go.Proofs.YtkmgfbhnioojhaaGreat

/- Contracts: exact sums. -/
namespace Go.Proofs.YtkmgfbhnioojhaaGreat
set_option linter.unusedSimpArgs false
set_option linter.unusedVariables false
open Go.RowKit
open Fl

def sub64E : Array Value → Sem Value := fun args => do
  let (x, y, b) ← Extern.MathBitsCarry.three "Sub64" args
  pure (Extern.MathBitsCarry.pair ((x + Extern.MathBitsCarry.m64 - y - b) % Extern.MathBitsCarry.m64) (if x < y + b then 1 else 0))

theorem run_sub64 {P : Program} (x y c : Int) (hx : 0 ≤ x) (hx1 : x ≤ 18446744073709551615) (hy : 0 ≤ y) (hy1 : y ≤ 18446744073709551615) (hc0 : 0 ≤ c) (hc : c ≤ 1) (w : World) :
    (sub64E #[.int .u64 x, .int .u64 y, .int .u64 c]).run P w =
      .ok (.tuple #[.int .u64 ((x - y - c) % 18446744073709551616), .int .u64 (if x < y + c then 1 else 0)]) w := by
  have key : ∀ k : Nat, k ≤ 1 → (sub64E #[.int .u64 x, .int .u64 y, .int .u64 (k : Int)]).run P w =
      .ok (Extern.MathBitsCarry.pair ((x.toNat + Extern.MathBitsCarry.m64 - y.toNat - k) % Extern.MathBitsCarry.m64) (if x.toNat < y.toNat + k then 1 else 0)) w := by
    intro k hk
    have : k = 0 ∨ k = 1 := by omega
    rcases this with rfl | rfl <;> rfl
  obtain ⟨k, rfl⟩ := Int.eq_ofNat_of_zero_le hc0
  rw [key k (by omega)]
  obtain ⟨X, rfl⟩ := Int.eq_ofNat_of_zero_le hx
  obtain ⟨Y, rfl⟩ := Int.eq_ofNat_of_zero_le hy
  simp only [Extern.MathBitsCarry.pair, Extern.MathBitsCarry.m64, Int.toNat_natCast]
  have e1 : (((X + 2 ^ 64 - Y - k) % 2 ^ 64 : Nat) : Int) = ((X : Int) - Y - k) % 18446744073709551616 := by omega
  have e2 : ((if X < Y + k then 1 else 0 : Nat) : Int) = if (X : Int) < Y + k then 1 else 0 := by split <;> split <;> omega
  have e3 : Int.ofNat ((X + 2 ^ 64 - Y - k) % 2 ^ 64) = ((X : Int) - Y - k) % 18446744073709551616 := e1
  have e4 : Int.ofNat (if X < Y + k then 1 else 0) = if (X : Int) < Y + k then 1 else 0 := e2
  rw [e3, e4]

theorem call_add64 (x y c : Int) (hx : 0 ≤ x) (hy : 0 ≤ y) (hc0 : 0 ≤ c) (hc : c ≤ 1) (w : World) :
    (callFunc 312 #[.int .u64 x, .int .u64 y, .int .u64 c]).run Tryz.prog w =
      .ok (.value (.tuple #[.int .u64 ((x + y + c) % 18446744073709551616), .int .u64 ((x + y + c) / 18446744073709551616)])) w := by
  rw [run_callFunc_extern Tryz.func312 (by kernel_rfl) (by kernel_rfl) (by kernel_rfl) (e := add64Entry) (by kernel_rfl), run_add64 x y c hx hy hc0 hc]
  rfl
theorem call_sub64 (x y c : Int) (hx : 0 ≤ x) (hx1 : x ≤ 18446744073709551615) (hy : 0 ≤ y) (hy1 : y ≤ 18446744073709551615) (hc0 : 0 ≤ c) (hc : c ≤ 1) (w : World) :
    (callFunc 313 #[.int .u64 x, .int .u64 y, .int .u64 c]).run Tryz.prog w =
      .ok (.value (.tuple #[.int .u64 ((x - y - c) % 18446744073709551616), .int .u64 (if x < y + c then 1 else 0)])) w := by
  rw [run_callFunc_extern Tryz.func313 (by kernel_rfl) (by kernel_rfl) (by kernel_rfl) (e := sub64E) (by kernel_rfl), run_sub64 x y c hx hx1 hy hy1 hc0 hc]
  rfl

@[go_sem] theorem build_va3 (a : Bool) (b c : Int) (w : World) : (Instr.build 218 #[(0, .bool a), (2, .int .u64 b), (3, .int .i64 c)]).run Tryz.prog w = .ok (.agg #[.bool a, .int .u64 0, .int .u64 b, .int .i64 c, .bool false]) w := run_build w 218 _ _ (by kernel_rfl)
@[go_sem] theorem build_va2 (a : Bool) (c : Int) (w : World) : (Instr.build 218 #[(0, .bool a), (3, .int .i64 c)]).run Tryz.prog w = .ok (.agg #[.bool a, .int .u64 0, .int .u64 0, .int .i64 c, .bool false]) w := run_build w 218 _ _ (by kernel_rfl)

/-- The bits of a sum whose second one isn't shifted out, as the program has them. -/
theorem shl_parts {pm : Int} (p0 : 0 ≤ pm) (p1 : pm ≤ 9007199254740991) {d : Int} (d0 : 0 ≤ d) (d1 : d ≤ 63) :
    ∃ h l : Int, pm / 2 ^ (64 - d).toNat = h ∧ IntKind.u64.wrap (pm * 2 ^ d.toNat) = l ∧ h * 18446744073709551616 + l = pm * 2 ^ d.toNat ∧ 0 ≤ h ∧ h ≤ 9007199254740991 ∧ 0 ≤ l ∧ l ≤ 18446744073709551615 := by
  refine ⟨_, _, rfl, rfl, ?_, ?_, ?_, ?_, ?_⟩
  · rw [wrap64u]
    obtain ⟨P, rfl⟩ := Int.eq_ofNat_of_zero_le p0
    rw [← pow2_cast, ← pow2_cast, ← Int.natCast_mul, ← Int.natCast_ediv]
    have e : (18446744073709551616 : Nat) = 2 ^ (64 - d).toNat * 2 ^ d.toNat := by
      rw [← Nat.pow_add, show (64 - d).toNat + d.toNat = 64 by omega]
    have e2 : P * 2 ^ d.toNat / 18446744073709551616 = P / 2 ^ (64 - d).toNat := by
      rw [e, Nat.mul_div_mul_right _ _ (Nat.two_pow_pos _)]
    rw [← e2]
    omega
  · exact Int.ediv_nonneg p0 (Int.le_of_lt (by rw [← pow2_cast]; have := Nat.two_pow_pos (64 - d).toNat; omega))
  · obtain ⟨P, rfl⟩ := Int.eq_ofNat_of_zero_le p0
    rw [← pow2_cast, ← Int.natCast_ediv]
    have := Nat.div_le_self P (2 ^ (64 - d).toNat)
    generalize P / 2 ^ (64 - d).toNat = x at *
    omega
  · rw [wrap64u]; omega
  · rw [wrap64u]; omega

def SumOk (S : Int) (neg : Bool) (hi lo e : Int) (more : Bool) : Prop :=
  0 ≤ hi ∧ hi ≤ 18446744073709551615 ∧ 0 ≤ lo ∧ lo ≤ 18446744073709551615 ∧ -6000 ≤ e ∧ e ≤ 6000 ∧
    (∃ a b : Nat, Amount (hi * 18446744073709551616 + lo).toNat more a b S.natAbs 1 ∧ e + 1074 = (a : Int) - b) ∧ (more = true → 9007199254740992 ≤ hi * 18446744073709551616 + lo) ∧ (S ≠ 0 → neg = decide (S < 0))

/-- A number's exact value, in units of 2^-1074. -/
def pval (neg : Bool) (m e : Int) : Int := if neg then -(m * 2 ^ (e + 1074).toNat) else m * 2 ^ (e + 1074).toNat

theorem pow_split {e f : Int} (h : -1074 ≤ f) (h2 : f ≤ e) : (2 : Int) ^ (e + 1074).toNat = 2 ^ (e - f).toNat * 2 ^ (f + 1074).toNat := by
  rw [← Int.pow_add]; congr 1; omega

theorem pow_pos (n : Nat) : (0 : Int) < 2 ^ n := by rw [← pow2_cast]; have := Nat.two_pow_pos n; omega

theorem natAbs_mul_pow (V : Int) (n : Nat) : (V * 2 ^ n).natAbs = V.natAbs * 2 ^ n := by
  rw [Int.natAbs_mul, ← pow2_cast, Int.natAbs_natCast]

/-- Exact: the amount is V 2^e. -/
theorem sumOk_exact {S V hi lo e : Int} {neg : Bool} (h0 : 0 ≤ hi) (h1 : hi ≤ 18446744073709551615) (h2 : 0 ≤ lo) (h3 : lo ≤ 18446744073709551615) (e0 : -1074 ≤ e) (e1 : e ≤ 6000)
    (hV : hi * 18446744073709551616 + lo = V) (hS : S = (if neg then -V else V) * 2 ^ (e + 1074).toNat) : SumOk S neg hi lo e false := by
  have hV0 : 0 ≤ V := by omega
  refine ⟨h0, h1, h2, h3, by omega, e1, ⟨(e + 1074).toNat, 0, ?_, by omega⟩, fun h => absurd h (by decide), ?_⟩
  · show S.natAbs * 2 ^ 0 = (hi * 18446744073709551616 + lo).toNat * 2 ^ (e + 1074).toNat * 1
    rw [hS, natAbs_mul_pow, hV, Nat.pow_zero, Nat.mul_one, Nat.mul_one]
    congr 1
    cases neg <;> simp <;> omega
  · intro hne
    have p := pow_pos (e + 1074).toNat
    rw [hS] at hne ⊢
    generalize (2 : Int) ^ (e + 1074).toNat = P at *
    have hVne : V ≠ 0 := by intro h; apply hne; rw [h]; cases neg <;> simp
    cases neg
    · simp only [Bool.false_eq_true, if_false] at *
      have : 0 ≤ V * P := Int.mul_nonneg hV0 (by omega)
      symm; simp; omega
    · simp only [if_true] at *
      have : 0 < V * P := Int.mul_pos (by omega) p
      rw [Int.neg_mul]
      symm; simp; omega

set_option maxRecDepth 100000 in
set_option maxHeartbeats 4000000 in
theorem sum_zero1 (pn qn : Bool) (pm pe qe : Int) (p0 : 0 ≤ pm) (p1 : pm ≤ 9007199254740991) : Gives 261 #[(.agg #[.bool pn, .int .u64 pm, .int .i64 pe]), (.agg #[.bool qn, .int .u64 0, .int .i64 qe])] (.agg #[.bool pn, .int .u64 0, .int .u64 pm, .int .i64 pe, .bool false]) := by
  intro w
  go_enter Tryz.func261, Tryz.ntmps261
  go_wp2
  go_returns
  exact ⟨rfl, by (repeat' first | (with_reducible first | exact Below.refl _ _ | assumption | refine Later.belowOf _ ?_ ?_ | refine Below.alloc ?_ ?_ _ | refine Below.setCell ?_ ?_ _ | refine Below.drewN' _ ?_ | refine Below.drew ?_ | exact Ge.le) | go_size)⟩
set_option maxRecDepth 100000 in
set_option maxHeartbeats 4000000 in
theorem sum_zero2 (pn qn : Bool) (qm pe qe : Int) (q0 : 1 ≤ qm) (q1 : qm ≤ 9007199254740991) : Gives 261 #[(.agg #[.bool pn, .int .u64 0, .int .i64 pe]), (.agg #[.bool qn, .int .u64 qm, .int .i64 qe])] (.agg #[.bool qn, .int .u64 0, .int .u64 qm, .int .i64 qe, .bool false]) := by
  intro w
  have z1 : (qm == 0) = false := by rw [beq_eq_false_iff_ne]; omega
  go_enter Tryz.func261, Tryz.ntmps261
  go_wp2
  go_returns
  exact ⟨rfl, by (repeat' first | (with_reducible first | exact Below.refl _ _ | assumption | refine Later.belowOf _ ?_ ?_ | refine Below.alloc ?_ ?_ _ | refine Below.setCell ?_ ?_ _ | refine Below.drewN' _ ?_ | refine Below.drew ?_ | exact Ge.le) | go_size)⟩

/-- The walk behind the first one's bits. -/
theorem shl_far {pm : Int} (p0 : 0 ≤ pm) (p1 : pm ≤ 9007199254740991) {d : Int} (d0 : 64 ≤ d) (d1 : d ≤ 70) :
    ∃ h : Int, IntKind.u64.wrap (pm * 2 ^ (d - 64).toNat) = h ∧ h * 18446744073709551616 + 0 = pm * 2 ^ d.toNat ∧ 0 ≤ h ∧ h ≤ 576460752303423488 := by
  refine ⟨_, rfl, ?_⟩
  rw [wrap64u]
  obtain ⟨P, rfl⟩ := Int.eq_ofNat_of_zero_le p0
  have e : (2 : Int) ^ d.toNat = 2 ^ (d - 64).toNat * 18446744073709551616 := by
    rw [show (18446744073709551616 : Int) = 2 ^ 64 by decide, ← Int.pow_add]; congr 1; omega
  have hb : (2 : Nat) ^ (d - 64).toNat ≤ 2 ^ 6 := Nat.pow_le_pow_right (by decide) (by omega)
  have hm : P * 2 ^ (d - 64).toNat ≤ 9007199254740991 * 64 := Nat.mul_le_mul (by omega) hb
  rw [e, ← Int.mul_assoc, ← pow2_cast, ← Int.natCast_mul]
  omega

theorem add_parts {l m : Int} (l0 : 0 ≤ l) (l1 : l ≤ 18446744073709551615) (m0 : 0 ≤ m) (m1 : m ≤ 9007199254740992) :
    ∃ s c : Int, (∀ w, (callFunc 312 #[.int .u64 l, .int .u64 m, .int .u64 0]).run Tryz.prog w = .ok (.value (.tuple #[.int .u64 s, .int .u64 c])) w) ∧ s + c * 18446744073709551616 = l + m ∧ 0 ≤ s ∧ s ≤ 18446744073709551615 ∧ 0 ≤ c ∧ c ≤ 1 := by
  refine ⟨_, _, fun w => call_add64 l m 0 l0 m0 (by omega) (by omega) w, ?_, ?_, ?_, ?_, ?_⟩ <;> omega

theorem sub_parts {h l m : Int} (h0 : 0 ≤ h) (h1 : h ≤ 18446744073709551615) (l0 : 0 ≤ l) (l1 : l ≤ 18446744073709551615) (m0 : 0 ≤ m) (m1 : m ≤ 9007199254740992) (hm : m ≤ h * 18446744073709551616 + l) :
    ∃ s c g : Int, (∀ w, (callFunc 313 #[.int .u64 l, .int .u64 m, .int .u64 0]).run Tryz.prog w = .ok (.value (.tuple #[.int .u64 s, .int .u64 c])) w) ∧
      (∀ w, (callFunc 313 #[.int .u64 h, .int .u64 0, .int .u64 c]).run Tryz.prog w = .ok (.value (.tuple #[.int .u64 g, .int .u64 0])) w) ∧
      g * 18446744073709551616 + s = h * 18446744073709551616 + l - m ∧ 0 ≤ s ∧ s ≤ 18446744073709551615 ∧ 0 ≤ g ∧ g ≤ 18446744073709551615 ∧ 0 ≤ c ∧ c ≤ 1 := by
  have k1 := fun w => call_sub64 l m 0 l0 l1 m0 (by omega) (by omega) (by omega) w
  by_cases hc : l < m
  · have e1 : (if l < m + 0 then (1 : Int) else 0) = 1 := by rw [if_pos (by omega)]
    have k2 := fun w => call_sub64 h 0 1 h0 h1 (by omega) (by omega) (by omega) (by omega) w
    have e2 : (if h < 0 + 1 then (1 : Int) else 0) = 0 := by rw [if_neg (by omega)]
    simp only [e1] at k1
    simp only [e2] at k2
    refine ⟨_, _, _, k1, k2, ?_, ?_, ?_, ?_, ?_, ?_, ?_⟩ <;> omega
  · have e1 : (if l < m + 0 then (1 : Int) else 0) = 0 := by rw [if_neg (by omega)]
    have k2 := fun w => call_sub64 h 0 0 h0 h1 (by omega) (by omega) (by omega) (by omega) w
    have e2 : (if h < 0 + 0 then (1 : Int) else 0) = 0 := by rw [if_neg (by omega)]
    simp only [e1] at k1
    simp only [e2] at k2
    refine ⟨_, _, _, k1, k2, ?_, ?_, ?_, ?_, ?_, ?_, ?_⟩ <;> omega

set_option maxRecDepth 100000 in
set_option maxHeartbeats 8000000 in
theorem sum_near (pn qn : Bool) (pm qm pe qe : Int) (p0 : 1 ≤ pm) (p1 : pm ≤ 9007199254740991) (q0 : 1 ≤ qm) (q1 : qm ≤ 9007199254740991) (e0 : -1074 ≤ qe) (e1 : pe ≤ 971) (hd : qe ≤ pe) (hd2 : pe - qe ≤ 70)
    (hle : qm ≤ pm * 2 ^ (pe - qe).toNat) : ∃ neg hi lo, Gives 261 #[(.agg #[.bool pn, .int .u64 pm, .int .i64 pe]), (.agg #[.bool qn, .int .u64 qm, .int .i64 qe])] (.agg #[.bool neg, .int .u64 hi, .int .u64 lo, .int .i64 qe, .bool false]) ∧ SumOk (pval pn pm pe + pval qn qm qe) neg hi lo qe false := by
  have z1 : (qm == 0) = false := by rw [beq_eq_false_iff_ne]; omega
  have z2 : (pm == 0) = false := by rw [beq_eq_false_iff_ne]; omega
  -- the first one's bits
  obtain ⟨d, hdd⟩ : ∃ d, pe - qe = d := ⟨_, rfl⟩
  have mn : min d 70 = d := by omega
  have hpd : pe - d = qe := by omega
  rw [hdd] at hle
  have hS : pval pn pm pe + pval qn qm qe = (if pn then -(if pn = qn then pm * 2 ^ d.toNat + qm else pm * 2 ^ d.toNat - qm) else (if pn = qn then pm * 2 ^ d.toNat + qm else pm * 2 ^ d.toNat - qm)) * 2 ^ (qe + 1074).toNat := by
    unfold pval
    rw [pow_split (e := pe) e0 hd, hdd, ← Int.mul_assoc]
    generalize pm * 2 ^ d.toNat = A
    generalize (2 : Int) ^ (qe + 1074).toNat = P
    cases pn <;> cases qn <;> simp <;> grind
  rw [hS]
  clear hS
  by_cases c63 : d ≤ 63
  · obtain ⟨h, l, k1, k2, k3, h0, h1, l0, l1⟩ := shl_parts (pm := pm) (by omega) p1 (d := d) (by omega) c63
    by_cases hs : pn = qn
    · subst hs
      obtain ⟨s, c, kA, kB, s0, s1, c0, c1⟩ := add_parts l0 l1 (show 0 ≤ qm by omega) (by omega)
      refine ⟨pn, h + c, s, ?_, sumOk_exact (by omega) (by omega) s0 s1 e0 (by omega) (V := pm * 2 ^ d.toNat + qm) (by rw [← k3]; omega) (by simp)⟩
      intro w
      clear k3 kB hle
      go_enter Tryz.func261, Tryz.ntmps261
      go_wp2_with (fail)
      go_region
      go_wp2
      go_returns
      exact ⟨rfl, by (repeat' first | (with_reducible first | exact Below.refl _ _ | assumption | refine Later.belowOf _ ?_ ?_ | refine Below.alloc ?_ ?_ _ | refine Below.setCell ?_ ?_ _ | refine Below.drewN' _ ?_ | refine Below.drew ?_ | exact Ge.le) | go_size)⟩
    · have hb : (pn == qn) = false := by simpa using hs
      obtain ⟨s, c, g, kA, kB, kC, s0, s1, g0, g1, c0, c1⟩ := sub_parts h0 (by omega) l0 l1 (show 0 ≤ qm by omega) (by omega) (by rw [k3]; exact hle)
      refine ⟨pn, g, s, ?_, sumOk_exact g0 g1 s0 s1 e0 (by omega) (V := pm * 2 ^ d.toNat - qm) (by rw [← k3]; omega) (by simp [hs])⟩
      intro w
      clear k3 kC hle hs
      go_enter Tryz.func261, Tryz.ntmps261
      go_wp2_with (fail)
      go_region
      go_wp2
      go_returns
      exact ⟨rfl, by (repeat' first | (with_reducible first | exact Below.refl _ _ | assumption | refine Later.belowOf _ ?_ ?_ | refine Below.alloc ?_ ?_ _ | refine Below.setCell ?_ ?_ _ | refine Below.drewN' _ ?_ | refine Below.drew ?_ | exact Ge.le) | go_size)⟩
  · obtain ⟨h, k1, k3, h0, h1⟩ := shl_far (pm := pm) (by omega) p1 (d := d) (by omega) (by omega)
    by_cases hs : pn = qn
    · subst hs
      obtain ⟨s, c, kA, kB, s0, s1, c0, c1⟩ := add_parts (l := 0) (by omega) (by omega) (show 0 ≤ qm by omega) (by omega)
      refine ⟨pn, h + c, s, ?_, sumOk_exact (by omega) (by omega) s0 s1 e0 (by omega) (V := pm * 2 ^ d.toNat + qm) (by rw [← k3]; omega) (by simp)⟩
      intro w
      clear k3 kB hle
      go_enter Tryz.func261, Tryz.ntmps261
      go_wp2
      go_returns
      exact ⟨rfl, by (repeat' first | (with_reducible first | exact Below.refl _ _ | assumption | refine Later.belowOf _ ?_ ?_ | refine Below.alloc ?_ ?_ _ | refine Below.setCell ?_ ?_ _ | refine Below.drewN' _ ?_ | refine Below.drew ?_ | exact Ge.le) | go_size)⟩
    · have hb : (pn == qn) = false := by simpa using hs
      obtain ⟨s, c, g, kA, kB, kC, s0, s1, g0, g1, c0, c1⟩ := sub_parts h0 (by omega) (l := 0) (by omega) (by omega) (show 0 ≤ qm by omega) (by omega) (by rw [k3]; exact hle)
      refine ⟨pn, g, s, ?_, sumOk_exact g0 g1 s0 s1 e0 (by omega) (V := pm * 2 ^ d.toNat - qm) (by rw [← k3]; omega) (by simp [hs])⟩
      intro w
      clear k3 kC hle hs
      go_enter Tryz.func261, Tryz.ntmps261
      go_wp2
      go_returns
      exact ⟨rfl, by (repeat' first | (with_reducible first | exact Below.refl _ _ | assumption | refine Later.belowOf _ ?_ ?_ | refine Below.alloc ?_ ?_ _ | refine Below.setCell ?_ ?_ _ | refine Below.drewN' _ ?_ | refine Below.drew ?_ | exact Ge.le) | go_size)⟩

/-- Far: more than 70 places apart: the second one is cut to its place. -/
theorem far_parts {qm : Int} (q0 : 1 ≤ qm) (q1 : qm ≤ 9007199254740991) {t : Int} (t0 : 1 ≤ t) :
    ∃ m : Int, qm / 2 ^ (min t 63).toNat = m ∧ 0 ≤ m ∧ m ≤ qm ∧ IntKind.u64.wrap (m * 2 ^ (min t 63).toNat) = m * 2 ^ (min t 63).toNat ∧
      (((qm == m * 2 ^ (min t 63).toNat) = true ∧ t ≤ 63 ∧ qm = m * 2 ^ t.toNat) ∨ (((qm == m * 2 ^ (min t 63).toNat) = false ∨ 63 < t) ∧ m * 2 ^ t.toNat < qm ∧ qm < (m + 1) * 2 ^ t.toNat)) := by
  obtain ⟨Q, rfl⟩ := Int.eq_ofNat_of_zero_le (show 0 ≤ qm by omega)
  generalize hu : (min t 63).toNat = u
  have hu1 : u ≤ 63 := by omega
  refine ⟨((Q / 2 ^ u : Nat) : Int), by rw [← pow2_cast, ← Int.natCast_ediv], Int.natCast_nonneg _, ?_, ?_, ?_⟩
  · have := Nat.div_le_self Q (2 ^ u); omega
  · rw [wrap64u, ← pow2_cast, ← Int.natCast_mul]
    have := Nat.div_mul_le_self Q (2 ^ u)
    omega
  · rw [← pow2_cast, ← pow2_cast, ← Int.natCast_mul, ← Int.natCast_mul]
    have d1 := Nat.div_add_mod Q (2 ^ u)
    have d2 := Nat.mod_lt Q (Nat.two_pow_pos u)
    rw [Nat.mul_comm] at d1
    by_cases ct : t ≤ 63
    · have : t.toNat = u := by omega
      rw [this]
      by_cases c : Q = Q / 2 ^ u * 2 ^ u
      · left
        refine ⟨by rw [beq_iff_eq]; omega, ct, by omega⟩
      · right
        refine ⟨Or.inl (by rw [beq_eq_false_iff_ne]; omega), by omega, ?_⟩
        rw [Int.add_mul, Int.one_mul, ← Int.natCast_mul]
        omega
    · right
      have e63 : u = 63 := by omega
      have hz : Q / 2 ^ u = 0 := by rw [e63]; exact Nat.div_eq_of_lt (by have : (2 : Nat) ^ 63 = 9223372036854775808 := by decide
                                                                         omega)
      rw [hz]
      have hp : (2 : Nat) ^ 64 ≤ 2 ^ t.toNat := Nat.pow_le_pow_right (by decide) (by omega)
      have e64 : (2 : Nat) ^ 64 = 18446744073709551616 := by decide
      refine ⟨Or.inr (by omega), by omega, by omega⟩

end Go.Proofs.YtkmgfbhnioojhaaGreat
