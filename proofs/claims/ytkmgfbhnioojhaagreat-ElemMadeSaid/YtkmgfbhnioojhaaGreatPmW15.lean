/- Contracts: quotients. -/
import Derived.Test.YtkmgfbhnioojhaaGreatPmW14
import Derived.Test.YtkmgfbhnioojhaaGreatPmFlC
import Derived.Deep.LoopGhost
namespace Go.Proofs.YtkmgfbhnioojhaaGreat
set_option linter.unusedSimpArgs false
set_option linter.unusedVariables false
open Go.RowKit
open Fl

/-- A number, shifted to the top. -/
theorem top_parts {m : Int} (h0 : 1 ≤ m) (h1 : m ≤ 9007199254740991) :
    ∃ n x : Int, Gives 257 #[.int .u64 m] (.int .i64 n) ∧ 11 ≤ n ∧ n ≤ 63 ∧ IntKind.u64.wrap (m * 2 ^ n.toNat) = x ∧ x = m * 2 ^ n.toNat ∧ 9223372036854775808 ≤ x ∧ x ≤ 18446744073709551615 := by
  have l1 := gives_lz64 m (by omega) (by omega)
  have b1 := blen_lt m.toNat
  have b2 := blen_ge (n := m.toNat) (by omega)
  have b3 := blen_pos (n := m.toNat) (by omega)
  have b4 := blen_le (n := m.toNat) (k := 53) (by omega)
  generalize blen m.toNat = L at *
  refine ⟨64 - L, m * 2 ^ (64 - L : Int).toNat, l1, by omega, by omega, ?_, rfl, ?_, ?_⟩
  all_goals
    obtain ⟨M, rfl⟩ := Int.eq_ofNat_of_zero_le (show 0 ≤ m by omega)
    rw [Int.toNat_natCast] at b1 b2
    rw [← pow2_cast, ← Int.natCast_mul]
    have e1 : (64 - L : Int).toNat = 64 - L := by omega
    rw [e1]
    have u1 : M * 2 ^ (64 - L) < 2 ^ L * 2 ^ (64 - L) := Nat.mul_lt_mul_of_pos_right b1 (Nat.two_pow_pos _)
    have u2 : 2 ^ (L - 1) * 2 ^ (64 - L) ≤ M * 2 ^ (64 - L) := Nat.mul_le_mul_right _ b2
    rw [← Nat.pow_add, show L + (64 - L) = 64 by omega] at u1
    rw [← Nat.pow_add, show L - 1 + (64 - L) = 63 by omega] at u2
    generalize M * 2 ^ (64 - L) = X at *
    have e63 : (2 : Nat) ^ 63 = 9223372036854775808 := by decide
    have e64 : (2 : Nat) ^ 64 = 18446744073709551616 := by decide
    first | (rw [wrap64u]; omega) | omega

theorem natAbs_pval (n : Bool) (m e : Int) : (pval n m e).natAbs = m.natAbs * 2 ^ (e + 1074).toNat := by
  unfold pval
  cases n
  · simp only [Bool.false_eq_true, if_false]; exact natAbs_mul_pow _ _
  · simp only [if_true]; rw [Int.natAbs_neg]; exact natAbs_mul_pow _ _

theorem rnd_zero {D : Nat} (hD : 0 < D) (dir : Int) : rnd 0 D dir = 0 := by
  unfold rnd
  rw [show (0 : Int).natAbs = 0 from rfl, rungOf_zero D hD]
  decide

/-- The quotient's amount. -/
theorem quo_amount {pm qm pe qe x y n k quo rem : Int} (hx : x = pm * 2 ^ n.toNat) (hy : y = qm * 2 ^ k.toNat) (p0 : 1 ≤ pm) (q0 : 1 ≤ qm) (h : x * 9223372036854775808 = quo * y + rem) (r0 : 0 ≤ rem) (r1 : rem < y) (hq : 0 ≤ quo) (t : Nat) :
    Amount quo.toNat (decide (0 < rem)) ((pe + 1074).toNat + k.toNat + t) ((qe + 1074).toNat + n.toNat + 63) (pm.natAbs * 2 ^ (pe + 1074).toNat * pw t) (qm.natAbs * 2 ^ (qe + 1074).toNat) := by
  obtain ⟨P, rfl⟩ := Int.eq_ofNat_of_zero_le (show 0 ≤ pm by omega)
  obtain ⟨Q, rfl⟩ := Int.eq_ofNat_of_zero_le (show 0 ≤ qm by omega)
  obtain ⟨V, rfl⟩ := Int.eq_ofNat_of_zero_le hq
  obtain ⟨R, rfl⟩ := Int.eq_ofNat_of_zero_le r0
  rw [← pow2_cast, ← Int.natCast_mul] at hx hy
  subst hx hy
  have h' : P * 2 ^ n.toNat * 2 ^ 63 = V * (Q * 2 ^ k.toNat) + R := by
    rw [show (9223372036854775808 : Int) = ((2 ^ 63 : Nat) : Int) by decide, ← Int.natCast_mul, ← Int.natCast_mul, ← Int.natCast_add] at h
    exact Int.ofNat_inj.1 h
  have r1' : R < Q * 2 ^ k.toNat := by omega
  clear h r1 hq r0 p0 q0
  rw [Int.natAbs_natCast, Int.natAbs_natCast, Int.toNat_natCast, pw_eq]
  generalize (pe + 1074).toNat = a1
  generalize (qe + 1074).toNat = a2
  generalize n.toNat = n' at *
  generalize k.toNat = k' at *
  have pa1 := Nat.two_pow_pos a1
  have pa2 := Nat.two_pow_pos a2
  have pt := Nat.two_pow_pos t
  have eN : P * 2 ^ a1 * 2 ^ t * 2 ^ (a2 + n' + 63) = (P * 2 ^ n' * 2 ^ 63) * (2 ^ a1 * 2 ^ t * 2 ^ a2) := by
    rw [Nat.pow_add, Nat.pow_add]; simp only [Nat.mul_assoc, Nat.mul_comm, Nat.mul_left_comm]
  have eV : ∀ v : Nat, v * 2 ^ (a1 + k' + t) * (Q * 2 ^ a2) = (v * (Q * 2 ^ k')) * (2 ^ a1 * 2 ^ t * 2 ^ a2) := by
    intro v
    rw [Nat.pow_add, Nat.pow_add]; simp only [Nat.mul_assoc, Nat.mul_comm, Nat.mul_left_comm]
  have pc : 0 < 2 ^ a1 * 2 ^ t * 2 ^ a2 := Nat.mul_pos (Nat.mul_pos pa1 pt) pa2
  unfold Amount
  rw [eN, eV, eV, h']
  have e1 : (V + 1) * (Q * 2 ^ k') = V * (Q * 2 ^ k') + Q * 2 ^ k' := by rw [Nat.add_mul, Nat.one_mul]
  rw [e1]
  generalize V * (Q * 2 ^ k') = A at *
  generalize Q * 2 ^ k' = B at *
  generalize 2 ^ a1 * 2 ^ t * 2 ^ a2 = C at *
  by_cases hr : 0 < R
  · rw [if_pos (by simpa using hr)]
    exact ⟨Nat.mul_lt_mul_of_pos_right (by omega) pc, Nat.mul_lt_mul_of_pos_right (by omega) pc⟩
  · rw [if_neg (by simpa using hr), show R = 0 by omega, Nat.add_zero]

theorem div_value {x y quo rem : Int} (h : x * 9223372036854775808 = quo * y + rem) (x0 : 9223372036854775808 ≤ x) (y1 : y ≤ 18446744073709551615) (r1 : rem < y) (hq : 0 ≤ quo) (y0 : 0 ≤ y) : 9007199254740992 ≤ quo := by
  rcases Int.lt_or_le quo 9007199254740992 with c | c
  · have : quo * y ≤ 9007199254740991 * y := Int.mul_le_mul_of_nonneg_right (by omega) y0
    omega
  · exact c

set_option maxRecDepth 100000 in
set_option maxHeartbeats 8000000 in
theorem div_fin (pn qn : Bool) (pm pe qm qe : Int) (a b : Nat) (dir : Int) (b1 : Gives 256 #[(.float .f64 a), (.float .f64 b)] (.tuple #[(.agg #[.bool pn, .int .u64 pm, .int .i64 pe]), (.agg #[.bool qn, .int .u64 qm, .int .i64 qe]), .bool true])) (hb : feq b 0 = false)
    (p0 : 1 ≤ pm) (p1 : pm ≤ 9007199254740991) (p2 : -1074 ≤ pe) (p3 : pe ≤ 971) (q0 : 1 ≤ qm) (q1 : qm ≤ 9007199254740991) (q2 : -1074 ≤ qe) (q3 : qe ≤ 971) :
    Gives 191 #[(.float .f64 a), (.float .f64 b), .int .i64 dir] (.float .f64 (rnd (pval pn pm pe * (if qn then -1 else 1) * (pw 1074 : Nat)) (qm.natAbs * 2 ^ (qe + 1074).toNat) dir)) := by
  obtain ⟨n, x, l1, n0, n1, x1, x2, x3, x4⟩ := top_parts p0 p1
  obtain ⟨k, y, l2, k0, k1, y1, y2, y3, y4⟩ := top_parts q0 q1
  obtain ⟨h, hh⟩ : ∃ h, x / 2 = h := ⟨_, rfl⟩
  obtain ⟨l, hl⟩ : ∃ l, IntKind.u64.wrap (x * 9223372036854775808) = l := ⟨_, rfl⟩
  have hl2 := hl
  rw [wrap64u] at hl2
  obtain ⟨quo, rem, d1, d2, d3, d4, d5, d6⟩ := div64_any h l y (by omega) (by omega) (by omega) (by omega) y3 y4
  have d2' : x * 9223372036854775808 = quo * y + rem := by omega
  have r1 : Gives 259 #[(.agg #[.bool (pn != qn), .int .u64 0, .int .u64 quo, .int .i64 (pe - n - (qe - k) - 63), .bool (decide (0 < rem))]), .int .i64 dir] (.float .f64 (rnd (pval pn pm pe * (if qn then -1 else 1) * (pw 1074 : Nat)) (qm.natAbs * 2 ^ (qe + 1074).toNat) dir)) := by
    have A := quo_amount (pe := pe) (qe := qe) x2 y2 p0 q0 d2' d3 d4 d5 1074
    refine round_signed _ _ _ 0 quo _ dir _ ((pe + 1074).toNat + k.toNat + 1074) ((qe + 1074).toNat + n.toNat + 63) (by omega) (by omega) d5 d6 (by omega) (by omega) ?_ ?_ ?_ ?_ ?_
    rotate_left 5
    · have e1 : (pval pn pm pe * (if qn then -1 else 1) * (pw 1074 : Nat)).natAbs = pm.natAbs * 2 ^ (pe + 1074).toNat * pw 1074 := by
        rw [Int.natAbs_mul, Int.natAbs_mul, natAbs_pval, Int.natAbs_natCast]
        congr 1
        cases qn <;> simp
      rw [e1, show (0 : Int) * 18446744073709551616 + quo = quo by omega]
      exact A
    · omega
    · intro _; have := div_value d2' x3 y4 d4 d5 (by omega); omega
    · exact Nat.mul_pos (by omega) (Nat.two_pow_pos _)
    · intro _
      have P1 := pow_pos (pe + 1074).toNat
      have P2 := pw_pos 1074
      unfold pval
      have k1 : 0 < pm * 2 ^ (pe + 1074).toNat := Int.mul_pos (by omega) P1
      generalize pm * 2 ^ (pe + 1074).toNat = A at *
      have k2 : 0 < A * (pw 1074 : Nat) := Int.mul_pos k1 (by omega)
      generalize (pw 1074 : Nat) = B at *
      cases pn <;> cases qn <;> symm <;> simp [Int.mul_neg, Int.neg_mul] <;> omega
  generalize rnd (pval pn pm pe * (if qn then -1 else 1) * (pw 1074 : Nat)) (qm.natAbs * 2 ^ (qe + 1074).toNat) dir = s at *
  clear x2 y2 d2 d2' d4 hl2
  intro w
  have z1 : (pm == 0) = false := by rw [beq_eq_false_iff_ne]; omega
  go_enter Tryz.func191, Tryz.ntmps191
  go_upto_region 8 with (go_at_call 256; refine (b1.go _).mono ?_; rintro _ _ ⟨k, rfl, rfl⟩)
  refine wp_region_later (by kernel_rfl) (by kernel_rfl) ?_
  repeat (go_big_quiet_step ((go_at_call 257; first | (with_reducible exact l1.later _) | (with_reducible exact l2.later _))))
  (refine wpQuiet_nil ?_; rintro _ ⟨nq, rfl⟩)
  go_upto_region 9 with (fail)
  go_quiet (fail)
  go_wp2_with (first | (go_at_call 258; refine (d1.go _).mono ?_; rintro _ _ ⟨k, rfl, rfl⟩) | (go_at_call 259; refine (r1.go _).mono ?_; rintro _ _ ⟨k, rfl, rfl⟩))
  go_ret
  exact ⟨rfl, by (repeat' first | (with_reducible first | exact Below.refl _ _ | assumption | refine Later.belowOf _ ?_ ?_ | refine Below.alloc ?_ ?_ _ | refine Below.setCell ?_ ?_ _ | refine Below.drewN' _ ?_ | refine Below.drew ?_ | exact Ge.le) | go_size)⟩

theorem divS_lt {a b : Nat} (dir : Int) : divS a b dir < 18446744073709551616 := by
  unfold divS
  repeat' split
  all_goals first | exact rnd_lt _ _ _ | decide | exact word_lt _ (by decide)

set_option maxHeartbeats 1000000 in
theorem div_zero (a b : Nat) (dir : Int) (ha : a < 18446744073709551616) (hb : b < 18446744073709551616) (hz : rung b = 0) : Gives 191 #[(.float .f64 a), (.float .f64 b), .int .i64 dir] (.float .f64 QN) := by
  intro w
  have b1 := both_any a b ha hb
  have n1 := math_NaN
  have z1 := feq_zero (x := b) (by rw [nan_false, hz]; decide)
  rw [hz] at z1
  simp only [decide_true] at z1
  clear hz ha hb
  go_enter Tryz.func191, Tryz.ntmps191
  go_wp2_with (first | (go_at_call 256; refine (b1.go _).mono ?_; rintro _ _ ⟨k, rfl, rfl⟩) | (go_at_call 186; refine (n1.go _).mono ?_; rintro _ _ ⟨k, rfl, rfl⟩))
  go_ret
  exact ⟨rfl, by (repeat' first | (with_reducible first | exact Below.refl _ _ | assumption | refine Later.belowOf _ ?_ ?_ | refine Below.alloc ?_ ?_ _ | refine Below.setCell ?_ ?_ _ | refine Below.drewN' _ ?_ | refine Below.drew ?_ | exact Ge.le) | go_size)⟩

set_option maxHeartbeats 1000000 in
theorem div_non (a b : Nat) (dir : Int) (ha : a < 18446744073709551616) (hb : b < 18446744073709551616) (hz : rung b ≠ 0) (hf : (finB a && finB b) = false) : GivesF 191 #[(.float .f64 a), (.float .f64 b), .int .i64 dir] (divS a b dir) := by
  intro w
  have b1 := both_any a b ha hb
  have z1 : feq b 0 = false := by
    cases hn : nan b
    · rw [feq_zero hn]; simp [hz]
    · exact feq_nan hn
  have d1 := fun w => fop_quo_non (a := a) (b := b) w ha hb hf hz dir
  rw [hf] at b1
  have H := Lib.hid d1
  clear d1 hz ha hb hf
  go_enter Tryz.func191, Tryz.ntmps191
  go_wp2_with (first | (go_at_call 256; refine (b1.go _).mono ?_; rintro _ _ ⟨k, rfl, rfl⟩) | (go_at_call 222; refine ((clean_any _).go _).mono ?_; rintro _ _ ⟨k, rfl, rfl⟩))
  go_ret
  refine ⟨?_, by (repeat' first | (with_reducible first | exact Below.refl _ _ | assumption | refine Later.belowOf _ ?_ ?_ | refine Below.alloc ?_ ?_ _ | refine Below.setCell ?_ ?_ _ | refine Below.drewN' _ ?_ | refine Below.drew ?_ | exact Ge.le) | go_size)⟩
  rcases H.out _ with ⟨h1, h2, h3⟩ | ⟨h1, h2⟩
  · exact ⟨_, cl_lt h2, Or.inr ⟨by rw [cl_nan h1]; exact h1, h3⟩, rfl⟩
  · rw [h2]; exact ⟨_, divS_lt dir, Or.inl rfl, rfl⟩

set_option maxHeartbeats 1000000 in
theorem div_nought (a b : Nat) (dir : Int) (ha : a < 18446744073709551616) (hb : b < 18446744073709551616) (hz : rung b ≠ 0) (hf : (finB a && finB b) = true) (za : rung a = 0) : Gives 191 #[(.float .f64 a), (.float .f64 b), .int .i64 dir] (.float .f64 0) := by
  intro w
  have b1 := both_any a b ha hb
  have hf' := hf
  rw [Bool.and_eq_true] at hf'
  have z1 : feq b 0 = false := by
    rw [feq_zero (nan_false.2 (Nat.le_of_lt (finB_rung.1 hf'.2)))]; simp [hz]
  have z2 := (qM_zero hf'.1).2 za
  rw [hf, z2] at b1
  clear hz ha hb hf hf' za z2
  go_enter Tryz.func191, Tryz.ntmps191
  go_wp2_with (first | (go_at_call 256; refine (b1.go _).mono ?_; rintro _ _ ⟨k, rfl, rfl⟩))
  go_ret
  exact ⟨rfl, by (repeat' first | (with_reducible first | exact Below.refl _ _ | assumption | refine Later.belowOf _ ?_ ?_ | refine Below.alloc ?_ ?_ _ | refine Below.setCell ?_ ?_ _ | refine Below.drewN' _ ?_ | refine Below.drew ?_ | exact Ge.le) | go_size)⟩

theorem div_any (a b : Nat) (dir : Int) (ha : a < 18446744073709551616) (hb : b < 18446744073709551616) : GivesF 191 #[(.float .f64 a), (.float .f64 b), .int .i64 dir] (divS a b dir) := by
  by_cases hz : rung b = 0
  · refine (div_zero a b dir ha hb hz).nums (by decide) (Or.inl ?_)
    unfold divS
    rw [if_pos hz, ite_self]
  · cases hf : finB a && finB b
    · exact div_non a b dir ha hb hz hf
    · have hf' := hf
      rw [Bool.and_eq_true] at hf'
      have na : nan a = false := nan_false.2 (Nat.le_of_lt (finB_rung.1 hf'.1))
      have nb : nan b = false := nan_false.2 (Nat.le_of_lt (finB_rung.1 hf'.2))
      have e : divS a b dir = rnd (val a * (if sgn b then -1 else 1) * (pw 1074 : Nat)) (G (rung b)) dir := by
        unfold divS; rw [na, nb, hf, if_neg (by decide), if_neg hz, if_pos rfl]
      have gb : 0 < G (rung b) := G_pos (Nat.pos_of_ne_zero hz)
      by_cases za : rung a = 0
      · refine (div_nought a b dir ha hb hz hf za).nums (by decide) (Or.inl ?_)
        rw [e, (val_eq_zero a).2 za, Int.zero_mul, Int.zero_mul, rnd_zero gb]
      · have b1 := both_any a b ha hb
        rw [hf] at b1
        have p1 := partsOk_q a hf'.1
        have p2 := partsOk_q b hf'.2
        have v1 := pval_q a hf'.1
        have v2 := pval_q b hf'.2
        have g1 := mt (qM_zero hf'.1).1 za
        have g2 := mt (qM_zero hf'.2).1 hz
        have z1 : feq b 0 = false := by rw [feq_zero nb]; simp [hz]
        have hs : sgn b = qNeg b := by unfold qNeg pNeg; rw [hf'.2]; simp [hz]
        have hg : G (rung b) = (qM b).natAbs * 2 ^ (qE b + 1074).toNat := by
          have := natAbs_pval (qNeg b) (qM b) (qE b)
          rw [v2] at this
          rw [← this]; unfold val; cases sgn b <;> simp
        have pr : PartsOk (qM a) (qE a) → 0 ≤ qM a ∧ qM a ≤ 9007199254740991 ∧ -1074 ≤ qE a ∧ qE a ≤ 971 := by unfold PartsOk; omega
        have qr : PartsOk (qM b) (qE b) → 0 ≤ qM b ∧ qM b ≤ 9007199254740991 ∧ -1074 ≤ qE b ∧ qE b ≤ 971 := by unfold PartsOk; omega
        have pp := pr p1
        have qq := qr p2
        have d := div_fin (qNeg a) (qNeg b) (qM a) (qE a) (qM b) (qE b) a b dir b1 z1 (by omega) pp.2.1 pp.2.2.1 pp.2.2.2 (by omega) qq.2.1 qq.2.2.1 qq.2.2.2
        rw [v1, ← hg, ← hs, ← e] at d
        exact d.nums (divS_lt dir) (Or.inl rfl)
end Go.Proofs.YtkmgfbhnioojhaaGreat

/- Contracts: roots. -/
namespace Go.Proofs.YtkmgfbhnioojhaaGreat
set_option linter.unusedSimpArgs false
set_option linter.unusedVariables false
open Go.RowKit
open Fl

@[go_sem] theorem build_va0m (c d : Int) (m : Bool) (w : World) : (Instr.build 218 #[(2, .int .u64 c), (3, .int .i64 d), (4, .bool m)]).run Tryz.prog w = .ok (.agg #[.bool false, .int .u64 0, .int .u64 c, .int .i64 d, .bool m]) w := run_build w 218 _ _ (by kernel_rfl)

@[go_sem] theorem run_msqrt (x : Nat) (w : World) : (callFunc 331 #[.float .f64 x]).run Tryz.prog w = .ok (.value (.float .f64 (fsq x w))) (w.drewN (nsq x)) := by
  rw [run_callFunc_extern Tryz.func331 (by kernel_rfl) (by kernel_rfl) (by kernel_rfl) (e := Extern.MathSqrt.sqrt) (by kernel_rfl)]
  have hf : (Question.nanBits .f64 x x).forced = false := rfl
  unfold fsq nsq
  have e : Extern.MathSqrt.sqrt #[.float .f64 x] = (match FloatKind.f64.format.sqrt x with
    | some r => pure (.float .f64 r)
    | none => do pure (.float .f64 (← choose (.nanBits .f64 x x)))) := rfl
  rw [e]
  cases h : FloatKind.f64.format.sqrt x <;> simp [run_choose_drew, hf] <;> rfl

end Go.Proofs.YtkmgfbhnioojhaaGreat

/- Contracts: the sides' order, asked. -/
namespace Go.Proofs.YtkmgfbhnioojhaaGreat
set_option linter.unusedSimpArgs false
set_option linter.unusedVariables false
open Go.RowKit
open Fl

end Go.Proofs.YtkmgfbhnioojhaaGreat
