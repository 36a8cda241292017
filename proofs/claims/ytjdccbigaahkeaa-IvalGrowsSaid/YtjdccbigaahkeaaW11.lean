/- Contracts: exact sums, the second one far away. -/
import Derived.Test.YtjdccbigaahkeaaW10
namespace Go.Proofs.Ytjdccbigaahkeaa
set_option linter.unusedSimpArgs false
set_option linter.unusedVariables false
open Go.RowKit
open Fl

theorem sumOk_more {S V hi lo e : Int} {neg : Bool} (h0 : 0 ≤ hi) (h1 : hi ≤ 18446744073709551615) (h2 : 0 ≤ lo) (h3 : lo ≤ 18446744073709551615) (e0 : -1074 ≤ e) (e1 : e ≤ 6000)
    (hV : hi * 18446744073709551616 + lo = V) (hV2 : 9007199254740992 ≤ V) (hl : V * 2 ^ (e + 1074).toNat < (if neg then -S else S)) (hg : (if neg then -S else S) < (V + 1) * 2 ^ (e + 1074).toNat) : SumOk S neg hi lo e true := by
  have p := pow_pos (e + 1074).toNat
  have hpos : 0 < (if neg then -S else S) := by
    have : 0 ≤ V * 2 ^ (e + 1074).toNat := Int.mul_nonneg (by omega) (by omega)
    omega
  refine ⟨h0, h1, h2, h3, by omega, e1, ⟨(e + 1074).toNat, 0, ?_, by omega⟩, fun _ => by omega, ?_⟩
  · obtain ⟨v, rfl⟩ := Int.eq_ofNat_of_zero_le (show 0 ≤ V by omega)
    show (hi * 18446744073709551616 + lo).toNat * 2 ^ (e + 1074).toNat * 1 < S.natAbs * 2 ^ 0 ∧ S.natAbs * 2 ^ 0 < ((hi * 18446744073709551616 + lo).toNat + 1) * 2 ^ (e + 1074).toNat * 1
    rw [hV, Int.toNat_natCast, Nat.pow_zero, Nat.mul_one, Nat.mul_one, Nat.mul_one]
    rw [← pow2_cast] at hl hg
    have e1 : (v : Int) * ((2 ^ (e + 1074).toNat : Nat) : Int) = ((v * 2 ^ (e + 1074).toNat : Nat) : Int) := by simp
    have e2 : ((v : Int) + 1) * ((2 ^ (e + 1074).toNat : Nat) : Int) = (((v + 1) * 2 ^ (e + 1074).toNat : Nat) : Int) := by simp
    rw [e1] at hl
    rw [e2] at hg
    have : ((S.natAbs : Nat) : Int) = (if neg then -S else S) := by
      cases neg <;> simp at * <;> omega
    omega
  · intro _
    cases neg
    · simp only [Bool.false_eq_true, if_false] at hpos; symm; simp; omega
    · simp only [if_true] at hpos; symm; simp; omega

set_option maxRecDepth 100000 in
set_option maxHeartbeats 16000000 in
theorem sum_far (pn qn : Bool) (pm qm pe qe : Int) (p0 : 4503599627370496 ≤ pm) (p1 : pm ≤ 9007199254740991) (q0 : 1 ≤ qm) (q1 : qm ≤ 9007199254740991) (e0 : -1074 ≤ qe) (e1 : pe ≤ 971) (hd : 70 < pe - qe) :
    ∃ neg hi lo e more, Gives 111 #[(.agg #[.bool pn, .int .u64 pm, .int .i64 pe]), (.agg #[.bool qn, .int .u64 qm, .int .i64 qe])] (.agg #[.bool neg, .int .u64 hi, .int .u64 lo, .int .i64 e, .bool more]) ∧ SumOk (pval pn pm pe + pval qn qm qe) neg hi lo e more := by
  have z1 : (qm == 0) = false := by rw [beq_eq_false_iff_ne]; omega
  have z2 : (pm == 0) = false := by rw [beq_eq_false_iff_ne]; omega
  -- the scales
  have s1 : (2 : Int) ^ (pe + 1074).toNat = 1180591620717411303424 * 2 ^ (pe - 70 + 1074).toNat := by
    rw [pow_split (e := pe) (f := pe - 70) (by omega) (by omega), show (pe - (pe - 70)).toNat = 70 by omega]; rfl
  have s2 : (2 : Int) ^ (pe - 70 + 1074).toNat = 2 ^ (pe - qe - 70).toNat * 2 ^ (qe + 1074).toNat := by
    rw [pow_split (e := pe - 70) (f := qe) (by omega) (by omega)]; congr 2; omega
  have hpv : pval pn pm pe = (if pn then -(pm * 1180591620717411303424 * 2 ^ (pe - 70 + 1074).toNat) else pm * 1180591620717411303424 * 2 ^ (pe - 70 + 1074).toNat) := by
    unfold pval; rw [s1, ← Int.mul_assoc]
  have hqv : pval qn qm qe = (if qn then -(qm * 2 ^ (qe + 1074).toNat) else qm * 2 ^ (qe + 1074).toNat) := rfl
  have pT := pow_pos (pe - qe - 70).toNat
  have pU := pow_pos (qe + 1074).toNat
  obtain ⟨d, hdd⟩ : ∃ d, pe - qe = d := ⟨_, rfl⟩
  rw [hdd] at s2 pT
  have mn : min d 70 = 70 := by omega
  obtain ⟨m, m1, m2, m3, m4, m5⟩ := far_parts q0 q1 (t := d - 70) (by omega)
  have hw : IntKind.u64.wrap (pm * 64) = pm * 64 := by rw [wrap64u]; omega
  have bne : ∀ b : Bool, (qm == m * 2 ^ (min (d - 70) 63).toNat) = b → (qm != m * 2 ^ (min (d - 70) 63).toNat) = !b := fun b h => by rw [← h]; rfl
  rw [hpv, hqv]
  clear hpv hqv s1
  -- products with the scale
  have kU : ∀ x y : Int, x * 2 ^ (d - 70).toNat < y → x * 2 ^ (pe - 70 + 1074).toNat < y * 2 ^ (qe + 1074).toNat := by
    intro x y h
    rw [s2, ← Int.mul_assoc]
    exact Int.mul_lt_mul_of_pos_right h pU
  have kL : ∀ x y : Int, y < x * 2 ^ (d - 70).toNat → y * 2 ^ (qe + 1074).toNat < x * 2 ^ (pe - 70 + 1074).toNat := by
    intro x y h
    rw [s2, ← Int.mul_assoc]
    exact Int.mul_lt_mul_of_pos_right h pU
  have kE : ∀ x : Int, qm = x * 2 ^ (d - 70).toNat → qm * 2 ^ (qe + 1074).toNat = x * 2 ^ (pe - 70 + 1074).toNat := by
    intro x h
    rw [s2, h, Int.mul_assoc]
  clear s2 pT pU
  rcases m5 with ⟨b1, b2, b3⟩ | ⟨b1, b2, b3⟩
  · have hE := kE m b3
    have b2' : decide (63 < d - 70) = false := by simp; omega
    have b1' := bne _ b1
    clear bne b3 kU kL kE
    by_cases hs : pn = qn
    · subst hs
      obtain ⟨s, c, kA, kB, s0, s1, c0, c1⟩ := add_parts (l := 0) (by omega) (by omega) m2 (by omega)
      refine ⟨pn, pm * 64 + c, s, pe - 70, false, ?_, sumOk_exact (by omega) (by omega) s0 s1 (by omega) (by omega) (V := pm * 1180591620717411303424 + m) (by omega) ?_⟩
      · intro w
        clear kB hE
        go_enter Try.func111, Try.ntmps111
        go_wp2_with (fail)
        go_region
        go_wp2
        go_returns
        exact ⟨by first | rfl | (simp [*]; done), by (repeat' (first | (with_reducible exact Below.refl _ _) | (with_reducible assumption) | (with_reducible refine Later.belowOf _ ?_ ?_) | (with_reducible refine Below.alloc ?_ ?_ _) | (with_reducible refine Below.setCell ?_ ?_ _) | (with_reducible refine Below.drewN' _ ?_) | (with_reducible refine Below.drew ?_) | (with_reducible exact Ge.le) | go_size))⟩
      · rw [hE]
        cases pn <;> simp [Int.add_mul, Int.neg_add, Int.neg_mul]
    · have hb : (pn == qn) = false := by simpa using hs
      obtain ⟨s, c, g, kA, kB, kC, s0, s1, g0, g1, c0, c1⟩ := sub_parts (h := pm * 64) (by omega) (by omega) (l := 0) (by omega) (by omega) m2 (by omega) (by omega)
      refine ⟨pn, g, s, pe - 70, false, ?_, sumOk_exact g0 g1 s0 s1 (by omega) (by omega) (V := pm * 1180591620717411303424 - m) (by omega) ?_⟩
      · intro w
        clear kC hE hs
        go_enter Try.func111, Try.ntmps111
        go_wp2_with (fail)
        go_region
        go_wp2
        go_returns
        exact ⟨by first | rfl | (simp [*]; done), by (repeat' (first | (with_reducible exact Below.refl _ _) | (with_reducible assumption) | (with_reducible refine Later.belowOf _ ?_ ?_) | (with_reducible refine Below.alloc ?_ ?_ _) | (with_reducible refine Below.setCell ?_ ?_ _) | (with_reducible refine Below.drewN' _ ?_) | (with_reducible refine Below.drew ?_) | (with_reducible exact Ge.le) | go_size))⟩
      · rw [hE]
        cases pn <;> cases qn <;> simp at hs ⊢ <;> simp only [Int.sub_mul, Int.neg_sub] <;> omega
  · have hL := kU m qm b2
    have hG := kL (m + 1) qm b3
    have mb : m ≤ 9007199254740990 := by
      have : 2 ≤ (2 : Int) ^ (d - 70).toNat := by
        rw [← pow2_cast]
        have := Nat.pow_le_pow_right (show 0 < 2 by decide) (show 1 ≤ (d - 70).toNat by omega)
        omega
      have h2 : m * 2 ≤ m * 2 ^ (d - 70).toNat := Int.mul_le_mul_of_nonneg_left this m2
      omega
    have cases2 : (qm != m * 2 ^ (min (d - 70) 63).toNat) = true ∨ ((qm != m * 2 ^ (min (d - 70) 63).toNat) = false ∧ decide (63 < d - 70) = true) := by
      cases hq : (qm == m * 2 ^ (min (d - 70) 63).toNat)
      · left; rw [bne _ hq]; rfl
      · right
        rcases b1 with b1 | b1
        · rw [hq] at b1; exact absurd b1 (by decide)
        · exact ⟨by rw [bne _ hq]; rfl, by simpa using b1⟩
    clear bne b1 b2 b3 kU kL kE m3
    by_cases hs : pn = qn
    · subst hs
      obtain ⟨s, c, kA, kB, s0, s1, c0, c1⟩ := add_parts (l := 0) (by omega) (by omega) m2 (by omega)
      refine ⟨pn, pm * 64 + c, s, pe - 70, true, ?_, sumOk_more (by omega) (by omega) s0 s1 (by omega) (by omega) (V := pm * 1180591620717411303424 + m) (by omega) (by omega) ?_ ?_⟩
      · intro w
        clear kB hL hG
        rcases cases2 with b1' | ⟨b1', b2'⟩
        all_goals
          go_enter Try.func111, Try.ntmps111
          go_wp2_with (fail)
          go_region
          go_wp2
          go_returns
          exact ⟨by first | rfl | (simp [*]; done), by (repeat' (first | (with_reducible exact Below.refl _ _) | (with_reducible assumption) | (with_reducible refine Later.belowOf _ ?_ ?_) | (with_reducible refine Below.alloc ?_ ?_ _) | (with_reducible refine Below.setCell ?_ ?_ _) | (with_reducible refine Below.drewN' _ ?_) | (with_reducible refine Below.drew ?_) | (with_reducible exact Ge.le) | go_size))⟩
      · rw [Int.add_mul]; cases pn <;> simp <;> omega
      · rw [Int.add_mul, Int.add_mul] at *; cases pn <;> simp <;> omega
    · have hb : (pn == qn) = false := by simpa using hs
      obtain ⟨s, c, g, kA, kB, kC, s0, s1, g0, g1, c0, c1⟩ := sub_parts (h := pm * 64) (by omega) (by omega) (l := 0) (by omega) (by omega) (m := m + 1) (by omega) (by omega) (by omega)
      refine ⟨pn, g, s, pe - 70, true, ?_, sumOk_more g0 g1 s0 s1 (by omega) (by omega) (V := pm * 1180591620717411303424 - (m + 1)) (by omega) (by omega) ?_ ?_⟩
      · intro w
        clear kC hL hG hs
        rcases cases2 with b1' | ⟨b1', b2'⟩
        all_goals
          go_enter Try.func111, Try.ntmps111
          go_wp2_with (fail)
          go_region
          go_wp2
          go_returns
          exact ⟨by first | rfl | (simp [*]; done), by (repeat' (first | (with_reducible exact Below.refl _ _) | (with_reducible assumption) | (with_reducible refine Later.belowOf _ ?_ ?_) | (with_reducible refine Below.alloc ?_ ?_ _) | (with_reducible refine Below.setCell ?_ ?_ _) | (with_reducible refine Below.drewN' _ ?_) | (with_reducible refine Below.drew ?_) | (with_reducible exact Ge.le) | go_size))⟩
      · rw [Int.sub_mul]; cases pn <;> cases qn <;> simp at hs ⊢ <;> omega
      · rw [show pm * 1180591620717411303424 - (m + 1) + 1 = pm * 1180591620717411303424 - m by omega, Int.sub_mul]; cases pn <;> cases qn <;> simp at hs ⊢ <;> omega
end Go.Proofs.Ytjdccbigaahkeaa
