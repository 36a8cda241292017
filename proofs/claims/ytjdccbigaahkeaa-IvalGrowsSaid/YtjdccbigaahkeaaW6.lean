/- Contracts: math.Ldexp of positive normal floats. -/
import Derived.Test.YtjdccbigaahkeaaW5
import Derived.Test.YtjdccbigaahkeaaW4
import Derived.Test.YtjdccbigaahkeaaFlB
namespace Go.Proofs.Ytjdccbigaahkeaa
set_option linter.unusedSimpArgs false
set_option linter.unusedVariables false
open Go.RowKit
open Fl

set_option maxHeartbeats 1000000 in
theorem normalize_any (f : Nat) (hf : f < 9218868437227405312) (hf2 : 4503599627370496 ≤ f) : Gives 157 #[(.float .f64 f)] (.tuple #[(.float .f64 f), .int .i64 0]) := by
  intro w
  have a1 := abs_any f (by omega)
  have e : rung f = f := by unfold rung SW; omega
  rw [e] at a1
  have t1 : flt f 4503599627370496 = false := by
    have i1 : idx 4503599627370496 = 4503599627370496 := by decide
    have i2 := idx_small (x := f) (by omega)
    cases h : flt f 4503599627370496
    · rfl
    · have := (flt_true.1 h).2.2
      rw [i1, i2] at this; omega
  clear hf hf2 e
  go_enter Try.func157, Try.ntmps157
  go_wp2_with (go_at_call 80; refine (a1.go _).mono ?_; rintro _ _ ⟨n, rfl, rfl⟩)
  go_ret2
  exact ⟨rfl, by (repeat' (first | (with_reducible exact Below.refl _ _) | (with_reducible assumption) | (with_reducible refine Later.belowOf _ ?_ ?_) | (with_reducible refine Below.alloc ?_ ?_ _) | (with_reducible refine Below.setCell ?_ ?_ _) | (with_reducible refine Below.drewN' _ ?_) | (with_reducible refine Below.drew ?_) | (with_reducible exact Ge.le) | go_size))⟩

theorem and_2047 {B : Int} (h0 : 0 ≤ B) (h1 : B ≤ 2047) : bits BinOp.and IntKind.i64 B 2047 = B := by
  have h127 : (BitVec.ofInt 64 2047).toNat = 2 ^ 11 - 1 := by decide
  have key : (BitVec.ofInt 64 B &&& BitVec.ofInt 64 2047).toNat = (B % ((2 ^ 64 : Nat) : Int)).toNat % 2 ^ 11 := by
    rw [BitVec.toNat_and, BitVec.toNat_ofInt, h127, Nat.and_two_pow_sub_one_eq_mod]
  show IntKind.i64.wrap ((BitVec.ofInt 64 B &&& BitVec.ofInt 64 2047).toNat : Nat) = B
  rw [key, IntKind.wrap_i64]
  omega

theorem andNot_inf {f : Nat} (h : f < 9218868437227405312) : bits BinOp.andNot IntKind.u64 (f : Int) 9218868437227405312 = (f : Int) % 4503599627370496 := by
  have h1 := u64_andNot_nat f 9218868437227405312 (by omega) (by decide)
  have e : ((9218868437227405312 : Nat) : Int) = 9218868437227405312 := rfl
  rw [e] at h1
  rw [h1]
  have : f &&& (18446744073709551615 - 9218868437227405312) = f % 4503599627370496 := by
    have e3 : (18446744073709551615 - 9218868437227405312 : Nat) = 2 ^ 63 ||| (2 ^ 52 - 1) := by decide
    rw [e3, Nat.and_or_distrib_left, Nat.and_two_pow_sub_one_eq_mod]
    have : f &&& 2 ^ 63 = 0 := by
      apply Nat.eq_of_testBit_eq
      intro i
      rw [Nat.testBit_and, Nat.testBit_two_pow, Nat.zero_testBit]
      by_cases hi : 63 = i
      · subst hi
        have : f.testBit 63 = false := Nat.testBit_lt_two_pow (by omega)
        rw [this]; rfl
      · simp [hi]
    rw [this, Nat.zero_or]
  rw [this]; omega

theorem or_exp {M K : Int} (h0 : 0 ≤ M) (h1 : M ≤ 4503599627370495) (h2 : 0 ≤ K) (h3 : K ≤ 4095) : (bits BinOp.or IntKind.u64 M (K * 4503599627370496)).toNat = K.toNat * 4503599627370496 + M.toNat := by
  rw [u64_or _ _ h0 (by omega) (by omega) (by omega), Int.toNat_natCast]
  have e : (K * 4503599627370496).toNat = K.toNat <<< 52 := by rw [Nat.shiftLeft_eq]; omega
  rw [e, Nat.or_comm, ← Nat.shiftLeft_add_eq_or_of_lt (by omega), Nat.shiftLeft_eq]

/-- Behind the walk: both factors, and the product. -/
theorem ldexp_end {f : Nat} {e B M K c : Int} {cn : Nat} {j : Nat} (w : World) (hf : f < 9218868437227405312) (hB : (f : Int) / 4503599627370496 = B) (hM : (f : Int) % 4503599627370496 = M) (hb : 1 ≤ B)
    (hK1 : 1 ≤ K) (hK2 : K ≤ 2046) (hcn : rung cn = cn ∧ sgn cn = false ∧ cn < INFR) (hG : G cn = pw (1074 - j)) (hj : j ≤ 1074) (hKj : K = e + B + j) :
    fop BinOp.mul cn (bits BinOp.or IntKind.u64 M (K * 4503599627370496)).toNat w = rungOf (G f * 2 ^ e.toNat) (2 ^ (-e).toNat) 0 := by
  rw [or_exp (by omega) (by omega) (by omega) (by omega)]
  obtain ⟨k, rfl⟩ : ∃ k : Nat, K = (k : Int) + 1 := ⟨(K - 1).toNat, by omega⟩
  obtain ⟨b, rfl⟩ : ∃ b : Nat, B = (b : Int) + 1 := ⟨(B - 1).toNat, by omega⟩
  obtain ⟨m, rfl⟩ : ∃ m : Nat, M = (m : Int) := ⟨M.toNat, by omega⟩
  have hm : m < BIN := by unfold BIN; omega
  have ek : ((k : Int) + 1).toNat * 4503599627370496 + (m : Int).toNat = (k + 1) * BIN + m := by unfold BIN; omega
  have ef : f = (b + 1) * BIN + m := by unfold BIN; omega
  rw [ek]
  have lk : (k + 1) * BIN + m < INFR := by unfold BIN at *; unfold INFR; omega
  have rk : rung ((k + 1) * BIN + m) = (k + 1) * BIN + m := Nat.mod_eq_of_lt (by unfold SW; unfold INFR at lk; omega)
  have sk : sgn ((k + 1) * BIN + m) = false := by
    unfold sgn; rw [Nat.div_eq_of_lt (by unfold SW; unfold INFR at lk; omega)]; rfl
  rw [fop_mul w (by rw [hcn.1]; exact hcn.2.2) (by rw [rk]; exact lk), hcn.1, hcn.2.1, rk, sk]
  have : word (false ^^ false) = fun r => r := by funext r; unfold word; simp
  rw [this, hG, ef, G_normal hm, G_normal hm]
  simp only []
  refine rungOf_ratio 0 (pw_pos _) (Nat.two_pow_pos _) ?_
  have e1 : pw 1074 = pw (1074 - j) * 2 ^ j := by
    have := pw_add (1074 - j) j
    rw [pw_eq j, Nat.sub_add_cancel hj] at this
    exact this
  rw [e1]
  have e2 : 2 ^ k * 2 ^ (-e).toNat = 2 ^ b * 2 ^ e.toNat * 2 ^ j := by
    rw [← Nat.pow_add, ← Nat.pow_add, ← Nat.pow_add]; congr 1; omega
  generalize pw (1074 - j) = P
  calc P * ((BIN + m) * 2 ^ k) * 2 ^ (-e).toNat = P * (BIN + m) * (2 ^ k * 2 ^ (-e).toNat) := by simp only [Nat.mul_assoc]
    _ = P * (BIN + m) * (2 ^ b * 2 ^ e.toNat * 2 ^ j) := by rw [e2]
    _ = (BIN + m) * 2 ^ b * 2 ^ e.toNat * (P * 2 ^ j) := by simp only [Nat.mul_assoc, Nat.mul_comm, Nat.mul_left_comm]

theorem G_one : G 4607182418800017408 = pw (1074 - 0) := by
  have := G_normal' (K := 1022) (m := 0) (by decide)
  have e : (1022 + 1) * BIN + 0 = 4607182418800017408 := by decide
  rw [e] at this
  rw [this]
  have e2 : BIN + 0 = pw 52 := by rw [pw_eq]
  rw [e2, ← pw_add]
theorem G_m53 : G 4368491638549381120 = pw (1074 - 53) := by
  have := G_normal' (K := 969) (m := 0) (by decide)
  have e : (969 + 1) * BIN + 0 = 4368491638549381120 := by decide
  rw [e] at this
  rw [this]
  have e2 : BIN + 0 = pw 52 := by rw [pw_eq]
  rw [e2, ← pw_add]

set_option maxHeartbeats 4000000 in
theorem ldexp_pos (f : Nat) (e B M : Int) (hf : f < 9218868437227405312) (hf2 : 4503599627370496 ≤ f) (hB : (f : Int) / 4503599627370496 = B) (hM : (f : Int) % 4503599627370496 = M) (h1 : -1075 ≤ e + (B - 1023)) (h2 : e + (B - 1023) ≤ 1023) :
    Gives 155 #[(.float .f64 f), .int .i64 e] (.float .f64 (rungOf (G f * 2 ^ e.toNat) (2 ^ (-e).toNat) 0)) := by
  intro w
  have i2 := idx_small (x := f) (by omega)
  have rg : rung f = f := by unfold rung SW; omega
  have nn : nan f = false := by unfold nan INFR; rw [rg]; simp; omega
  have a1 := normalize_any f hf hf2
  have a2 := isInf0_any f (by omega)
  have t1 : feq f 0 = false := by
    cases h : feq f 0
    · rfl
    · have := (feq_true.1 h).2.2
      have z : idx 0 = 0 := by decide
      rw [i2, z] at this; omega
  have t2 : flt 9218868437227405311 (rung f) = false := by
    rw [rg, infP_fact]
    cases h : feq f 9218868437227405312
    · rfl
    · have := (feq_true.1 h).2.2
      rw [i2, idx_pinf] at this; omega
  rw [t2] at a2
  have t3 : feq f f = true := by rw [feq_self, nn]; rfl
  have b1 : 1 ≤ B := by omega
  have b2 : B ≤ 2046 := by omega
  have m1 : 0 ≤ M := by omega
  have m2 : M ≤ 4503599627370495 := by omega
  have e1 : -3121 ≤ e := by omega
  have e2 : e ≤ 3121 := by omega
  have k1 := and_2047 (B := B) (by omega) (by omega)
  have k2 := andNot_inf hf
  rw [hM] at k2
  have HF := Lib.hid hf
  have HB := Lib.hid hB
  clear t2 nn rg i2 hf hf2
  have HM := Lib.hid hM
  clear hM
  by_cases c1 : e + (B - 1023) < -1022
  · go_enter Try.func155, Try.ntmps155
    go_wp2_with (first | (go_at_call 157; refine (a1.go _).mono ?_; rintro _ _ ⟨k, rfl, rfl⟩) | (go_at_call 100; refine (a2.go _).mono ?_; rintro _ _ ⟨k, rfl, rfl⟩) | (go_at_call 94; refine ((isNaN_any _).go _).mono ?_; rintro _ _ ⟨k, rfl, rfl⟩))
    go_ret
    exact ⟨ret_float (by rw [show e + (B - 1023) + 53 + 1023 = e + B + 53 by omega]; exact ldexp_end (c := 0) (j := 53) _ HF.out HB.out HM.out b1 (by omega) (by omega) (by decide) G_m53 (by decide) (by omega)), by (repeat' (first | (with_reducible exact Below.refl _ _) | (with_reducible assumption) | (with_reducible refine Later.belowOf _ ?_ ?_) | (with_reducible refine Below.alloc ?_ ?_ _) | (with_reducible refine Below.setCell ?_ ?_ _) | (with_reducible refine Below.drewN' _ ?_) | (with_reducible refine Below.drew ?_) | (with_reducible exact Ge.le) | go_size))⟩
  · go_enter Try.func155, Try.ntmps155
    go_wp2_with (first | (go_at_call 157; refine (a1.go _).mono ?_; rintro _ _ ⟨k, rfl, rfl⟩) | (go_at_call 100; refine (a2.go _).mono ?_; rintro _ _ ⟨k, rfl, rfl⟩) | (go_at_call 94; refine ((isNaN_any _).go _).mono ?_; rintro _ _ ⟨k, rfl, rfl⟩))
    go_ret
    exact ⟨ret_float (by rw [show e + (B - 1023) + 1023 = e + B by omega]; exact ldexp_end (c := 0) (j := 0) _ HF.out HB.out HM.out b1 (by omega) (by omega) (by decide) G_one (by decide) (by omega)), by (repeat' (first | (with_reducible exact Below.refl _ _) | (with_reducible assumption) | (with_reducible refine Later.belowOf _ ?_ ?_) | (with_reducible refine Below.alloc ?_ ?_ _) | (with_reducible refine Below.setCell ?_ ?_ _) | (with_reducible refine Below.drewN' _ ?_) | (with_reducible refine Below.drew ?_) | (with_reducible exact Ge.le) | go_size))⟩

set_option maxHeartbeats 1000000 in
theorem Ldexp_pos (f : Nat) (e B : Int) (hf : f < 9218868437227405312) (hf2 : 4503599627370496 ≤ f) (hB : (f : Int) / 4503599627370496 = B) (h1 : -1075 ≤ e + (B - 1023)) (h2 : e + (B - 1023) ≤ 1023) :
    Gives 150 #[(.float .f64 f), .int .i64 e] (.float .f64 (rungOf (G f * 2 ^ e.toNat) (2 ^ (-e).toNat) 0)) := by
  intro w
  have a1 := ldexp_pos f e B _ hf hf2 hB rfl h1 h2
  clear hf hf2 hB h1 h2
  go_enter Try.func150, Try.ntmps150
  go_wp2_with (go_at_call 155; refine (a1.go _).mono ?_; rintro _ _ ⟨k, rfl, rfl⟩)
  go_ret
  exact ⟨rfl, by (repeat' (first | (with_reducible exact Below.refl _ _) | (with_reducible assumption) | (with_reducible refine Later.belowOf _ ?_ ?_) | (with_reducible refine Below.alloc ?_ ?_ _) | (with_reducible refine Below.setCell ?_ ?_ _) | (with_reducible refine Below.drewN' _ ?_) | (with_reducible refine Below.drew ?_) | (with_reducible exact Ge.le) | go_size))⟩
end Go.Proofs.Ytjdccbigaahkeaa
