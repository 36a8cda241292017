/- Contracts: exact sums. -/
import Derived.Test.YtpkgpkabmechkaaGreatW8
namespace Go.Proofs.YtpkgpkabmechkaaGreat
set_option linter.unusedSimpArgs false
set_option linter.unusedVariables false
open Go.RowKit
open Fl

def sub64E : Array Value → Sem Value := fun args => do
  let (x, y, b) ← Extern.MathBitsCarry.three "Sub64" args
  pure (Extern.MathBitsCarry.pair ((x + Extern.MathBitsCarry.m64 - y - b) % Extern.MathBitsCarry.m64) (if x < y + b then 1 else 0))

theorem run_sub64 {P : Program} (x y c : Int) (hx : 0 ≤ x) (hx1 : x ≤ 18446744073709551615) (hy : 0 ≤ y) (hy1 : y ≤ 18446744073709551615) (hc0 : 0 ≤ c) (hc : c ≤ 1) (w : World) :
    (sub64E #[.int .u64 x, .int .u64 y, .int .u64 c]).run P w =
      .ok (.tuple #[.int .u64 ((x - y - c) % 18446744073709551616), .int .u64 (if x < y + c then 1 else 0)]) w := by
  have key : ∀ k : Nat, k ≤ 1 → (sub64E #[.int .u64 x, .int .u64 y, .int .u64 (k : Int)]).run P w =
      .ok (Extern.MathBitsCarry.pair ((x.toNat + Extern.MathBitsCarry.m64 - y.toNat - k) % Extern.MathBitsCarry.m64) (if x.toNat < y.toNat + k then 1 else 0)) w := by
    intro k hk
    have : k = 0 ∨ k = 1 := by omega
    rcases this with rfl | rfl <;> rfl
  obtain ⟨k, rfl⟩ := Int.eq_ofNat_of_zero_le hc0
  rw [key k (by omega)]
  obtain ⟨X, rfl⟩ := Int.eq_ofNat_of_zero_le hx
  obtain ⟨Y, rfl⟩ := Int.eq_ofNat_of_zero_le hy
  simp only [Extern.MathBitsCarry.pair, Extern.MathBitsCarry.m64, Int.toNat_natCast]
  have e1 : (((X + 2 ^ 64 - Y - k) % 2 ^ 64 : Nat) : Int) = ((X : Int) - Y - k) % 18446744073709551616 := by omega
  have e2 : ((if X < Y + k then 1 else 0 : Nat) : Int) = if (X : Int) < Y + k then 1 else 0 := by split <;> split <;> omega
  have e3 : Int.ofNat ((X + 2 ^ 64 - Y - k) % 2 ^ 64) = ((X : Int) - Y - k) % 18446744073709551616 := e1
  have e4 : Int.ofNat (if X < Y + k then 1 else 0) = if (X : Int) < Y + k then 1 else 0 := e2
  rw [e3, e4]

theorem call_add64 (x y c : Int) (hx : 0 ≤ x) (hy : 0 ≤ y) (hc0 : 0 ≤ c) (hc : c ≤ 1) (w : World) :
    (callFunc 233 #[.int .u64 x, .int .u64 y, .int .u64 c]).run Tryz.prog w =
      .ok (.value (.tuple #[.int .u64 ((x + y + c) % 18446744073709551616), .int .u64 ((x + y + c) / 18446744073709551616)])) w := by
  rw [run_callFunc_extern Tryz.func233 (by kernel_rfl) (by kernel_rfl) (by kernel_rfl) (e := add64Entry) (by kernel_rfl), run_add64 x y c hx hy hc0 hc]
  rfl
theorem call_sub64 (x y c : Int) (hx : 0 ≤ x) (hx1 : x ≤ 18446744073709551615) (hy : 0 ≤ y) (hy1 : y ≤ 18446744073709551615) (hc0 : 0 ≤ c) (hc : c ≤ 1) (w : World) :
    (callFunc 234 #[.int .u64 x, .int .u64 y, .int .u64 c]).run Tryz.prog w =
      .ok (.value (.tuple #[.int .u64 ((x - y - c) % 18446744073709551616), .int .u64 (if x < y + c then 1 else 0)])) w := by
  rw [run_callFunc_extern Tryz.func234 (by kernel_rfl) (by kernel_rfl) (by kernel_rfl) (e := sub64E) (by kernel_rfl), run_sub64 x y c hx hx1 hy hy1 hc0 hc]
  rfl

@[go_sem] theorem build_va3 (a : Bool) (b c : Int) (w : World) : (Instr.build 164 #[(0, .bool a), (2, .int .u64 b), (3, .int .i64 c)]).run Tryz.prog w = .ok (.agg #[.bool a, .int .u64 0, .int .u64 b, .int .i64 c, .bool false]) w := run_build w 164 _ _ (by kernel_rfl)
@[go_sem] theorem build_va2 (a : Bool) (c : Int) (w : World) : (Instr.build 164 #[(0, .bool a), (3, .int .i64 c)]).run Tryz.prog w = .ok (.agg #[.bool a, .int .u64 0, .int .u64 0, .int .i64 c, .bool false]) w := run_build w 164 _ _ (by kernel_rfl)

/-- The bits of a sum whose second one isn't shifted out, as the program has them. -/
theorem shl_parts {pm : Int} (p0 : 0 ≤ pm) (p1 : pm ≤ 9007199254740991) {d : Int} (d0 : 0 ≤ d) (d1 : d ≤ 63) :
    ∃ h l : Int, pm / 2 ^ (64 - d).toNat = h ∧ IntKind.u64.wrap (pm * 2 ^ d.toNat) = l ∧ h * 18446744073709551616 + l = pm * 2 ^ d.toNat ∧ 0 ≤ h ∧ h ≤ 9007199254740991 ∧ 0 ≤ l ∧ l ≤ 18446744073709551615 := by
  refine ⟨_, _, rfl, rfl, ?_, ?_, ?_, ?_, ?_⟩
  · rw [wrap64u]
    obtain ⟨P, rfl⟩ := Int.eq_ofNat_of_zero_le p0
    rw [← pow2_cast, ← pow2_cast, ← Int.natCast_mul, ← Int.natCast_ediv]
    have e : (18446744073709551616 : Nat) = 2 ^ (64 - d).toNat * 2 ^ d.toNat := by
      rw [← Nat.pow_add, show (64 - d).toNat + d.toNat = 64 by omega]
    have e2 : P * 2 ^ d.toNat / 18446744073709551616 = P / 2 ^ (64 - d).toNat := by
      rw [e, Nat.mul_div_mul_right _ _ (Nat.two_pow_pos _)]
    rw [← e2]
    omega
  · exact Int.ediv_nonneg p0 (Int.le_of_lt (by rw [← pow2_cast]; have := Nat.two_pow_pos (64 - d).toNat; omega))
  · obtain ⟨P, rfl⟩ := Int.eq_ofNat_of_zero_le p0
    rw [← pow2_cast, ← Int.natCast_ediv]
    have := Nat.div_le_self P (2 ^ (64 - d).toNat)
    generalize P / 2 ^ (64 - d).toNat = x at *
    omega
  · rw [wrap64u]; omega
  · rw [wrap64u]; omega

def SumOk (S : Int) (neg : Bool) (hi lo e : Int) (more : Bool) : Prop :=
  0 ≤ hi ∧ hi ≤ 18446744073709551615 ∧ 0 ≤ lo ∧ lo ≤ 18446744073709551615 ∧ -6000 ≤ e ∧ e ≤ 6000 ∧
    (∃ a b : Nat, Amount (hi * 18446744073709551616 + lo).toNat more a b S.natAbs 1 ∧ e + 1074 = (a : Int) - b) ∧ (more = true → 9007199254740992 ≤ hi * 18446744073709551616 + lo) ∧ (S ≠ 0 → neg = decide (S < 0))

/-- A number's exact value, in units of 2^-1074. -/
def pval (neg : Bool) (m e : Int) : Int := if neg then -(m * 2 ^ (e + 1074).toNat) else m * 2 ^ (e + 1074).toNat

theorem pow_split {e f : Int} (h : -1074 ≤ f) (h2 : f ≤ e) : (2 : Int) ^ (e + 1074).toNat = 2 ^ (e - f).toNat * 2 ^ (f + 1074).toNat := by
  rw [← Int.pow_add]; congr 1; omega

theorem pow_pos (n : Nat) : (0 : Int) < 2 ^ n := by rw [← pow2_cast]; have := Nat.two_pow_pos n; omega

theorem natAbs_mul_pow (V : Int) (n : Nat) : (V * 2 ^ n).natAbs = V.natAbs * 2 ^ n := by
  rw [Int.natAbs_mul, ← pow2_cast, Int.natAbs_natCast]

/-- Exact: the amount is V 2^e. -/
theorem sumOk_exact {S V hi lo e : Int} {neg : Bool} (h0 : 0 ≤ hi) (h1 : hi ≤ 18446744073709551615) (h2 : 0 ≤ lo) (h3 : lo ≤ 18446744073709551615) (e0 : -1074 ≤ e) (e1 : e ≤ 6000)
    (hV : hi * 18446744073709551616 + lo = V) (hS : S = (if neg then -V else V) * 2 ^ (e + 1074).toNat) : SumOk S neg hi lo e false := by
  have hV0 : 0 ≤ V := by omega
  refine ⟨h0, h1, h2, h3, by omega, e1, ⟨(e + 1074).toNat, 0, ?_, by omega⟩, fun h => absurd h (by decide), ?_⟩
  · show S.natAbs * 2 ^ 0 = (hi * 18446744073709551616 + lo).toNat * 2 ^ (e + 1074).toNat * 1
    rw [hS, natAbs_mul_pow, hV, Nat.pow_zero, Nat.mul_one, Nat.mul_one]
    congr 1
    cases neg <;> simp <;> omega
  · intro hne
    have p := pow_pos (e + 1074).toNat
    rw [hS] at hne ⊢
    generalize (2 : Int) ^ (e + 1074).toNat = P at *
    have hVne : V ≠ 0 := by intro h; apply hne; rw [h]; cases neg <;> simp
    cases neg
    · simp only [Bool.false_eq_true, if_false] at *
      have : 0 ≤ V * P := Int.mul_nonneg hV0 (by omega)
      symm; simp; omega
    · simp only [if_true] at *
      have : 0 < V * P := Int.mul_pos (by omega) p
      rw [Int.neg_mul]
      symm; simp; omega

set_option maxRecDepth 100000 in
set_option maxHeartbeats 4000000 in
theorem sum_zero1 (pn qn : Bool) (pm pe qe : Int) (p0 : 0 ≤ pm) (p1 : pm ≤ 9007199254740991) : Gives 204 #[(.agg #[.bool pn, .int .u64 pm, .int .i64 pe]), (.agg #[.bool qn, .int .u64 0, .int .i64 qe])] (.agg #[.bool pn, .int .u64 0, .int .u64 pm, .int .i64 pe, .bool false]) := by
  intro w
  go_enter Tryz.func204, Tryz.ntmps204
  go_wp2
  go_returns
  exact ⟨rfl, by (repeat' (first | (with_reducible exact Below.refl _ _) | (with_reducible assumption) | (with_reducible refine Later.belowOf _ ?_ ?_) | (with_reducible refine Below.alloc ?_ ?_ _) | (with_reducible refine Below.setCell ?_ ?_ _) | (with_reducible refine Below.drewN' _ ?_) | (with_reducible refine Below.drew ?_) | (with_reducible exact Ge.le) | go_size))⟩
set_option maxRecDepth 100000 in
set_option maxHeartbeats 4000000 in
theorem sum_zero2 (pn qn : Bool) (qm pe qe : Int) (q0 : 1 ≤ qm) (q1 : qm ≤ 9007199254740991) : Gives 204 #[(.agg #[.bool pn, .int .u64 0, .int .i64 pe]), (.agg #[.bool qn, .int .u64 qm, .int .i64 qe])] (.agg #[.bool qn, .int .u64 0, .int .u64 qm, .int .i64 qe, .bool false]) := by
  intro w
  have z1 : (qm == 0) = false := by rw [beq_eq_false_iff_ne]; omega
  go_enter Tryz.func204, Tryz.ntmps204
  go_wp2
  go_returns
  exact ⟨rfl, by (repeat' (first | (with_reducible exact Below.refl _ _) | (with_reducible assumption) | (with_reducible refine Later.belowOf _ ?_ ?_) | (with_reducible refine Below.alloc ?_ ?_ _) | (with_reducible refine Below.setCell ?_ ?_ _) | (with_reducible refine Below.drewN' _ ?_) | (with_reducible refine Below.drew ?_) | (with_reducible exact Ge.le) | go_size))⟩

/-- The walk behind the first one's bits. -/
theorem shl_far {pm : Int} (p0 : 0 ≤ pm) (p1 : pm ≤ 9007199254740991) {d : Int} (d0 : 64 ≤ d) (d1 : d ≤ 70) :
    ∃ h : Int, IntKind.u64.wrap (pm * 2 ^ (d - 64).toNat) = h ∧ h * 18446744073709551616 + 0 = pm * 2 ^ d.toNat ∧ 0 ≤ h ∧ h ≤ 576460752303423488 := by
  refine ⟨_, rfl, ?_⟩
  rw [wrap64u]
  obtain ⟨P, rfl⟩ := Int.eq_ofNat_of_zero_le p0
  have e : (2 : Int) ^ d.toNat = 2 ^ (d - 64).toNat * 18446744073709551616 := by
    rw [show (18446744073709551616 : Int) = 2 ^ 64 by decide, ← Int.pow_add]; congr 1; omega
  have hb : (2 : Nat) ^ (d - 64).toNat ≤ 2 ^ 6 := Nat.pow_le_pow_right (by decide) (by omega)
  have hm : P * 2 ^ (d - 64).toNat ≤ 9007199254740991 * 64 := Nat.mul_le_mul (by omega) hb
  rw [e, ← Int.mul_assoc, ← pow2_cast, ← Int.natCast_mul]
  omega

theorem add_parts {l m : Int} (l0 : 0 ≤ l) (l1 : l ≤ 18446744073709551615) (m0 : 0 ≤ m) (m1 : m ≤ 9007199254740992) :
    ∃ s c : Int, (∀ w, (callFunc 233 #[.int .u64 l, .int .u64 m, .int .u64 0]).run Tryz.prog w = .ok (.value (.tuple #[.int .u64 s, .int .u64 c])) w) ∧ s + c * 18446744073709551616 = l + m ∧ 0 ≤ s ∧ s ≤ 18446744073709551615 ∧ 0 ≤ c ∧ c ≤ 1 := by
  refine ⟨_, _, fun w => call_add64 l m 0 l0 m0 (by omega) (by omega) w, ?_, ?_, ?_, ?_, ?_⟩ <;> omega

theorem sub_parts {h l m : Int} (h0 : 0 ≤ h) (h1 : h ≤ 18446744073709551615) (l0 : 0 ≤ l) (l1 : l ≤ 18446744073709551615) (m0 : 0 ≤ m) (m1 : m ≤ 9007199254740992) (hm : m ≤ h * 18446744073709551616 + l) :
    ∃ s c g : Int, (∀ w, (callFunc 234 #[.int .u64 l, .int .u64 m, .int .u64 0]).run Tryz.prog w = .ok (.value (.tuple #[.int .u64 s, .int .u64 c])) w) ∧
      (∀ w, (callFunc 234 #[.int .u64 h, .int .u64 0, .int .u64 c]).run Tryz.prog w = .ok (.value (.tuple #[.int .u64 g, .int .u64 0])) w) ∧
      g * 18446744073709551616 + s = h * 18446744073709551616 + l - m ∧ 0 ≤ s ∧ s ≤ 18446744073709551615 ∧ 0 ≤ g ∧ g ≤ 18446744073709551615 ∧ 0 ≤ c ∧ c ≤ 1 := by
  have k1 := fun w => call_sub64 l m 0 l0 l1 m0 (by omega) (by omega) (by omega) w
  by_cases hc : l < m
  · have e1 : (if l < m + 0 then (1 : Int) else 0) = 1 := by rw [if_pos (by omega)]
    have k2 := fun w => call_sub64 h 0 1 h0 h1 (by omega) (by omega) (by omega) (by omega) w
    have e2 : (if h < 0 + 1 then (1 : Int) else 0) = 0 := by rw [if_neg (by omega)]
    simp only [e1] at k1
    simp only [e2] at k2
    refine ⟨_, _, _, k1, k2, ?_, ?_, ?_, ?_, ?_, ?_, ?_⟩ <;> omega
  · have e1 : (if l < m + 0 then (1 : Int) else 0) = 0 := by rw [if_neg (by omega)]
    have k2 := fun w => call_sub64 h 0 0 h0 h1 (by omega) (by omega) (by omega) (by omega) w
    have e2 : (if h < 0 + 0 then (1 : Int) else 0) = 0 := by rw [if_neg (by omega)]
    simp only [e1] at k1
    simp only [e2] at k2
    refine ⟨_, _, _, k1, k2, ?_, ?_, ?_, ?_, ?_, ?_, ?_⟩ <;> omega

set_option maxRecDepth 100000 in
set_option maxHeartbeats 8000000 in
theorem sum_near (pn qn : Bool) (pm qm pe qe : Int) (p0 : 1 ≤ pm) (p1 : pm ≤ 9007199254740991) (q0 : 1 ≤ qm) (q1 : qm ≤ 9007199254740991) (e0 : -1074 ≤ qe) (e1 : pe ≤ 971) (hd : qe ≤ pe) (hd2 : pe - qe ≤ 70)
    (hle : qm ≤ pm * 2 ^ (pe - qe).toNat) : ∃ neg hi lo, Gives 204 #[(.agg #[.bool pn, .int .u64 pm, .int .i64 pe]), (.agg #[.bool qn, .int .u64 qm, .int .i64 qe])] (.agg #[.bool neg, .int .u64 hi, .int .u64 lo, .int .i64 qe, .bool false]) ∧ SumOk (pval pn pm pe + pval qn qm qe) neg hi lo qe false := by
  have z1 : (qm == 0) = false := by rw [beq_eq_false_iff_ne]; omega
  have z2 : (pm == 0) = false := by rw [beq_eq_false_iff_ne]; omega
  -- the first one's bits
  obtain ⟨d, hdd⟩ : ∃ d, pe - qe = d := ⟨_, rfl⟩
  have mn : min d 70 = d := by omega
  have hpd : pe - d = qe := by omega
  rw [hdd] at hle
  have hS : pval pn pm pe + pval qn qm qe = (if pn then -(if pn = qn then pm * 2 ^ d.toNat + qm else pm * 2 ^ d.toNat - qm) else (if pn = qn then pm * 2 ^ d.toNat + qm else pm * 2 ^ d.toNat - qm)) * 2 ^ (qe + 1074).toNat := by
    unfold pval
    rw [pow_split (e := pe) e0 hd, hdd, ← Int.mul_assoc]
    generalize pm * 2 ^ d.toNat = A
    generalize (2 : Int) ^ (qe + 1074).toNat = P
    cases pn <;> cases qn <;> simp <;> grind
  rw [hS]
  clear hS
  by_cases c63 : d ≤ 63
  · obtain ⟨h, l, k1, k2, k3, h0, h1, l0, l1⟩ := shl_parts (pm := pm) (by omega) p1 (d := d) (by omega) c63
    by_cases hs : pn = qn
    · subst hs
      obtain ⟨s, c, kA, kB, s0, s1, c0, c1⟩ := add_parts l0 l1 (show 0 ≤ qm by omega) (by omega)
      refine ⟨pn, h + c, s, ?_, sumOk_exact (by omega) (by omega) s0 s1 e0 (by omega) (V := pm * 2 ^ d.toNat + qm) (by rw [← k3]; omega) (by simp)⟩
      intro w
      clear k3 kB hle
      go_enter Tryz.func204, Tryz.ntmps204
      go_wp2_with (fail)
      go_region
      go_wp2
      go_returns
      exact ⟨rfl, by (repeat' (first | (with_reducible exact Below.refl _ _) | (with_reducible assumption) | (with_reducible refine Later.belowOf _ ?_ ?_) | (with_reducible refine Below.alloc ?_ ?_ _) | (with_reducible refine Below.setCell ?_ ?_ _) | (with_reducible refine Below.drewN' _ ?_) | (with_reducible refine Below.drew ?_) | (with_reducible exact Ge.le) | go_size))⟩
    · have hb : (pn == qn) = false := by simpa using hs
      obtain ⟨s, c, g, kA, kB, kC, s0, s1, g0, g1, c0, c1⟩ := sub_parts h0 (by omega) l0 l1 (show 0 ≤ qm by omega) (by omega) (by rw [k3]; exact hle)
      refine ⟨pn, g, s, ?_, sumOk_exact g0 g1 s0 s1 e0 (by omega) (V := pm * 2 ^ d.toNat - qm) (by rw [← k3]; omega) (by simp [hs])⟩
      intro w
      clear k3 kC hle hs
      go_enter Tryz.func204, Tryz.ntmps204
      go_wp2_with (fail)
      go_region
      go_wp2
      go_returns
      exact ⟨rfl, by (repeat' (first | (with_reducible exact Below.refl _ _) | (with_reducible assumption) | (with_reducible refine Later.belowOf _ ?_ ?_) | (with_reducible refine Below.alloc ?_ ?_ _) | (with_reducible refine Below.setCell ?_ ?_ _) | (with_reducible refine Below.drewN' _ ?_) | (with_reducible refine Below.drew ?_) | (with_reducible exact Ge.le) | go_size))⟩
  · obtain ⟨h, k1, k3, h0, h1⟩ := shl_far (pm := pm) (by omega) p1 (d := d) (by omega) (by omega)
    by_cases hs : pn = qn
    · subst hs
      obtain ⟨s, c, kA, kB, s0, s1, c0, c1⟩ := add_parts (l := 0) (by omega) (by omega) (show 0 ≤ qm by omega) (by omega)
      refine ⟨pn, h + c, s, ?_, sumOk_exact (by omega) (by omega) s0 s1 e0 (by omega) (V := pm * 2 ^ d.toNat + qm) (by rw [← k3]; omega) (by simp)⟩
      intro w
      clear k3 kB hle
      go_enter Tryz.func204, Tryz.ntmps204
      go_wp2
      go_returns
      exact ⟨rfl, by (repeat' (first | (with_reducible exact Below.refl _ _) | (with_reducible assumption) | (with_reducible refine Later.belowOf _ ?_ ?_) | (with_reducible refine Below.alloc ?_ ?_ _) | (with_reducible refine Below.setCell ?_ ?_ _) | (with_reducible refine Below.drewN' _ ?_) | (with_reducible refine Below.drew ?_) | (with_reducible exact Ge.le) | go_size))⟩
    · have hb : (pn == qn) = false := by simpa using hs
      obtain ⟨s, c, g, kA, kB, kC, s0, s1, g0, g1, c0, c1⟩ := sub_parts h0 (by omega) (l := 0) (by omega) (by omega) (show 0 ≤ qm by omega) (by omega) (by rw [k3]; exact hle)
      refine ⟨pn, g, s, ?_, sumOk_exact g0 g1 s0 s1 e0 (by omega) (V := pm * 2 ^ d.toNat - qm) (by rw [← k3]; omega) (by simp [hs])⟩
      intro w
      clear k3 kC hle hs
      go_enter Tryz.func204, Tryz.ntmps204
      go_wp2
      go_returns
      exact ⟨rfl, by (repeat' (first | (with_reducible exact Below.refl _ _) | (with_reducible assumption) | (with_reducible refine Later.belowOf _ ?_ ?_) | (with_reducible refine Below.alloc ?_ ?_ _) | (with_reducible refine Below.setCell ?_ ?_ _) | (with_reducible refine Below.drewN' _ ?_) | (with_reducible refine Below.drew ?_) | (with_reducible exact Ge.le) | go_size))⟩

/-- Far: more than 70 places apart: the second one is cut to its place. -/
theorem far_parts {qm : Int} (q0 : 1 ≤ qm) (q1 : qm ≤ 9007199254740991) {t : Int} (t0 : 1 ≤ t) :
    ∃ m : Int, qm / 2 ^ (min t 63).toNat = m ∧ 0 ≤ m ∧ m ≤ qm ∧ IntKind.u64.wrap (m * 2 ^ (min t 63).toNat) = m * 2 ^ (min t 63).toNat ∧
      (((qm == m * 2 ^ (min t 63).toNat) = true ∧ t ≤ 63 ∧ qm = m * 2 ^ t.toNat) ∨ (((qm == m * 2 ^ (min t 63).toNat) = false ∨ 63 < t) ∧ m * 2 ^ t.toNat < qm ∧ qm < (m + 1) * 2 ^ t.toNat)) := by
  obtain ⟨Q, rfl⟩ := Int.eq_ofNat_of_zero_le (show 0 ≤ qm by omega)
  generalize hu : (min t 63).toNat = u
  have hu1 : u ≤ 63 := by omega
  refine ⟨((Q / 2 ^ u : Nat) : Int), by rw [← pow2_cast, ← Int.natCast_ediv], Int.natCast_nonneg _, ?_, ?_, ?_⟩
  · have := Nat.div_le_self Q (2 ^ u); omega
  · rw [wrap64u, ← pow2_cast, ← Int.natCast_mul]
    have := Nat.div_mul_le_self Q (2 ^ u)
    omega
  · rw [← pow2_cast, ← pow2_cast, ← Int.natCast_mul, ← Int.natCast_mul]
    have d1 := Nat.div_add_mod Q (2 ^ u)
    have d2 := Nat.mod_lt Q (Nat.two_pow_pos u)
    rw [Nat.mul_comm] at d1
    by_cases ct : t ≤ 63
    · have : t.toNat = u := by omega
      rw [this]
      by_cases c : Q = Q / 2 ^ u * 2 ^ u
      · left
        refine ⟨by rw [beq_iff_eq]; omega, ct, by omega⟩
      · right
        refine ⟨Or.inl (by rw [beq_eq_false_iff_ne]; omega), by omega, ?_⟩
        rw [Int.add_mul, Int.one_mul, ← Int.natCast_mul]
        omega
    · right
      have e63 : u = 63 := by omega
      have hz : Q / 2 ^ u = 0 := by rw [e63]; exact Nat.div_eq_of_lt (by have : (2 : Nat) ^ 63 = 9223372036854775808 := by decide
                                                                         omega)
      rw [hz]
      have hp : (2 : Nat) ^ 64 ≤ 2 ^ t.toNat := Nat.pow_le_pow_right (by decide) (by omega)
      have e64 : (2 : Nat) ^ 64 = 18446744073709551616 := by decide
      refine ⟨Or.inr (by omega), by omega, by omega⟩

end Go.Proofs.YtpkgpkabmechkaaGreat
