/- Contracts: exact sums, the second one far away. -/
import Derived.Test.YtkmgfbhnioojhaaGreatPmW5x
namespace Go.Proofs.YtkmgfbhnioojhaaGreat
set_option linter.unusedSimpArgs false
set_option linter.unusedVariables false
open Go.RowKit
open Fl

theorem sumOk_more {S V hi lo e : Int} {neg : Bool} (h0 : 0 ≤ hi) (h1 : hi ≤ 18446744073709551615) (h2 : 0 ≤ lo) (h3 : lo ≤ 18446744073709551615) (e0 : -1074 ≤ e) (e1 : e ≤ 6000)
    (hV : hi * 18446744073709551616 + lo = V) (hV2 : 9007199254740992 ≤ V) (hl : V * 2 ^ (e + 1074).toNat < (if neg then -S else S)) (hg : (if neg then -S else S) < (V + 1) * 2 ^ (e + 1074).toNat) : SumOk S neg hi lo e true := by
  have p := pow_pos (e + 1074).toNat
  have hpos : 0 < (if neg then -S else S) := by
    have : 0 ≤ V * 2 ^ (e + 1074).toNat := Int.mul_nonneg (by omega) (by omega)
    omega
  refine ⟨h0, h1, h2, h3, by omega, e1, ⟨(e + 1074).toNat, 0, ?_, by omega⟩, fun _ => by omega, ?_⟩
  · obtain ⟨v, rfl⟩ := Int.eq_ofNat_of_zero_le (show 0 ≤ V by omega)
    show (hi * 18446744073709551616 + lo).toNat * 2 ^ (e + 1074).toNat * 1 < S.natAbs * 2 ^ 0 ∧ S.natAbs * 2 ^ 0 < ((hi * 18446744073709551616 + lo).toNat + 1) * 2 ^ (e + 1074).toNat * 1
    rw [hV, Int.toNat_natCast, Nat.pow_zero, Nat.mul_one, Nat.mul_one, Nat.mul_one]
    rw [← pow2_cast] at hl hg
    have e1 : (v : Int) * ((2 ^ (e + 1074).toNat : Nat) : Int) = ((v * 2 ^ (e + 1074).toNat : Nat) : Int) := by simp
    have e2 : ((v : Int) + 1) * ((2 ^ (e + 1074).toNat : Nat) : Int) = (((v + 1) * 2 ^ (e + 1074).toNat : Nat) : Int) := by simp
    rw [e1] at hl
    rw [e2] at hg
    have : ((S.natAbs : Nat) : Int) = (if neg then -S else S) := by
      cases neg <;> simp at * <;> omega
    omega
  · intro _
    cases neg
    · simp only [Bool.false_eq_true, if_false] at hpos; symm; simp; omega
    · simp only [if_true] at hpos; symm; simp; omega

set_option maxRecDepth 100000 in
set_option maxHeartbeats 16000000 in
theorem sum_far (pn qn : Bool) (pm qm pe qe : Int) (p0 : 4503599627370496 ≤ pm) (p1 : pm ≤ 9007199254740991) (q0 : 1 ≤ qm) (q1 : qm ≤ 9007199254740991) (e0 : -1074 ≤ qe) (e1 : pe ≤ 971) (hd : 70 < pe - qe) :
    ∃ neg hi lo e more, Gives 261 #[(.agg #[.bool pn, .int .u64 pm, .int .i64 pe]), (.agg #[.bool qn, .int .u64 qm, .int .i64 qe])] (.agg #[.bool neg, .int .u64 hi, .int .u64 lo, .int .i64 e, .bool more]) ∧ SumOk (pval pn pm pe + pval qn qm qe) neg hi lo e more := by
  have z1 : (qm == 0) = false := by rw [beq_eq_false_iff_ne]; omega
  have z2 : (pm == 0) = false := by rw [beq_eq_false_iff_ne]; omega
  -- the scales
  have s1 : (2 : Int) ^ (pe + 1074).toNat = 1180591620717411303424 * 2 ^ (pe - 70 + 1074).toNat := by
    rw [pow_split (e := pe) (f := pe - 70) (by omega) (by omega), show (pe - (pe - 70)).toNat = 70 by omega]; rfl
  have s2 : (2 : Int) ^ (pe - 70 + 1074).toNat = 2 ^ (pe - qe - 70).toNat * 2 ^ (qe + 1074).toNat := by
    rw [pow_split (e := pe - 70) (f := qe) (by omega) (by omega)]; congr 2; omega
  have hpv : pval pn pm pe = (if pn then -(pm * 1180591620717411303424 * 2 ^ (pe - 70 + 1074).toNat) else pm * 1180591620717411303424 * 2 ^ (pe - 70 + 1074).toNat) := by
    unfold pval; rw [s1, ← Int.mul_assoc]
  have hqv : pval qn qm qe = (if qn then -(qm * 2 ^ (qe + 1074).toNat) else qm * 2 ^ (qe + 1074).toNat) := rfl
  have pT := pow_pos (pe - qe - 70).toNat
  have pU := pow_pos (qe + 1074).toNat
  obtain ⟨d, hdd⟩ : ∃ d, pe - qe = d := ⟨_, rfl⟩
  rw [hdd] at s2 pT
  have mn : min d 70 = 70 := by omega
  obtain ⟨m, m1, m2, m3, m4, m5⟩ := far_parts q0 q1 (t := d - 70) (by omega)
  have hw : IntKind.u64.wrap (pm * 64) = pm * 64 := by rw [wrap64u]; omega
  have bne : ∀ b : Bool, (qm == m * 2 ^ (min (d - 70) 63).toNat) = b → (qm != m * 2 ^ (min (d - 70) 63).toNat) = !b := fun b h => by rw [← h]; rfl
  rw [hpv, hqv]
  clear hpv hqv s1
  -- products with the scale
  have kU : ∀ x y : Int, x * 2 ^ (d - 70).toNat < y → x * 2 ^ (pe - 70 + 1074).toNat < y * 2 ^ (qe + 1074).toNat := by
    intro x y h
    rw [s2, ← Int.mul_assoc]
    exact Int.mul_lt_mul_of_pos_right h pU
  have kL : ∀ x y : Int, y < x * 2 ^ (d - 70).toNat → y * 2 ^ (qe + 1074).toNat < x * 2 ^ (pe - 70 + 1074).toNat := by
    intro x y h
    rw [s2, ← Int.mul_assoc]
    exact Int.mul_lt_mul_of_pos_right h pU
  have kE : ∀ x : Int, qm = x * 2 ^ (d - 70).toNat → qm * 2 ^ (qe + 1074).toNat = x * 2 ^ (pe - 70 + 1074).toNat := by
    intro x h
    rw [s2, h, Int.mul_assoc]
  clear s2 pT pU
  rcases m5 with ⟨b1, b2, b3⟩ | ⟨b1, b2, b3⟩
  · have hE := kE m b3
    have b2' : decide (63 < d - 70) = false := by simp; omega
    have b1' := bne _ b1
    clear bne b3 kU kL kE
    by_cases hs : pn = qn
    · subst hs
      obtain ⟨s, c, kA, kB, s0, s1, c0, c1⟩ := add_parts (l := 0) (by omega) (by omega) m2 (by omega)
      refine ⟨pn, pm * 64 + c, s, pe - 70, false, ?_, sumOk_exact (by omega) (by omega) s0 s1 (by omega) (by omega) (V := pm * 1180591620717411303424 + m) (by omega) ?_⟩
      · intro w
        clear kB hE
        go_enter Tryz.func261, Tryz.ntmps261
        go_wp2_with (fail)
        go_region
        go_wp2
        go_returns
        exact ⟨by first | rfl | (simp [*]; done), by (repeat' first | (with_reducible first | exact Below.refl _ _ | assumption | refine Later.belowOf _ ?_ ?_ | refine Below.alloc ?_ ?_ _ | refine Below.setCell ?_ ?_ _ | refine Below.drewN' _ ?_ | refine Below.drew ?_ | exact Ge.le) | go_size)⟩
      · rw [hE]
        cases pn <;> simp [Int.add_mul, Int.neg_add, Int.neg_mul]
    · have hb : (pn == qn) = false := by simpa using hs
      obtain ⟨s, c, g, kA, kB, kC, s0, s1, g0, g1, c0, c1⟩ := sub_parts (h := pm * 64) (by omega) (by omega) (l := 0) (by omega) (by omega) m2 (by omega) (by omega)
      refine ⟨pn, g, s, pe - 70, false, ?_, sumOk_exact g0 g1 s0 s1 (by omega) (by omega) (V := pm * 1180591620717411303424 - m) (by omega) ?_⟩
      · intro w
        clear kC hE hs
        go_enter Tryz.func261, Tryz.ntmps261
        go_wp2_with (fail)
        go_region
        go_wp2
        go_returns
        exact ⟨by first | rfl | (simp [*]; done), by (repeat' first | (with_reducible first | exact Below.refl _ _ | assumption | refine Later.belowOf _ ?_ ?_ | refine Below.alloc ?_ ?_ _ | refine Below.setCell ?_ ?_ _ | refine Below.drewN' _ ?_ | refine Below.drew ?_ | exact Ge.le) | go_size)⟩
      · rw [hE]
        cases pn <;> cases qn <;> simp at hs ⊢ <;> simp only [Int.sub_mul, Int.neg_sub] <;> omega
  · have hL := kU m qm b2
    have hG := kL (m + 1) qm b3
    have mb : m ≤ 9007199254740990 := by
      have : 2 ≤ (2 : Int) ^ (d - 70).toNat := by
        rw [← pow2_cast]
        have := Nat.pow_le_pow_right (show 0 < 2 by decide) (show 1 ≤ (d - 70).toNat by omega)
        omega
      have h2 : m * 2 ≤ m * 2 ^ (d - 70).toNat := Int.mul_le_mul_of_nonneg_left this m2
      omega
    have cases2 : (qm != m * 2 ^ (min (d - 70) 63).toNat) = true ∨ ((qm != m * 2 ^ (min (d - 70) 63).toNat) = false ∧ decide (63 < d - 70) = true) := by
      cases hq : (qm == m * 2 ^ (min (d - 70) 63).toNat)
      · left; rw [bne _ hq]; rfl
      · right
        rcases b1 with b1 | b1
        · rw [hq] at b1; exact absurd b1 (by decide)
        · exact ⟨by rw [bne _ hq]; rfl, by simpa using b1⟩
    clear bne b1 b2 b3 kU kL kE m3
    by_cases hs : pn = qn
    · subst hs
      obtain ⟨s, c, kA, kB, s0, s1, c0, c1⟩ := add_parts (l := 0) (by omega) (by omega) m2 (by omega)
      refine ⟨pn, pm * 64 + c, s, pe - 70, true, ?_, sumOk_more (by omega) (by omega) s0 s1 (by omega) (by omega) (V := pm * 1180591620717411303424 + m) (by omega) (by omega) ?_ ?_⟩
      · intro w
        clear kB hL hG
        rcases cases2 with b1' | ⟨b1', b2'⟩
        all_goals
          go_enter Tryz.func261, Tryz.ntmps261
          go_wp2_with (fail)
          go_region
          go_wp2
          go_returns
          exact ⟨by first | rfl | (simp [*]; done), by (repeat' first | (with_reducible first | exact Below.refl _ _ | assumption | refine Later.belowOf _ ?_ ?_ | refine Below.alloc ?_ ?_ _ | refine Below.setCell ?_ ?_ _ | refine Below.drewN' _ ?_ | refine Below.drew ?_ | exact Ge.le) | go_size)⟩
      · rw [Int.add_mul]; cases pn <;> simp <;> omega
      · rw [Int.add_mul, Int.add_mul] at *; cases pn <;> simp <;> omega
    · have hb : (pn == qn) = false := by simpa using hs
      obtain ⟨s, c, g, kA, kB, kC, s0, s1, g0, g1, c0, c1⟩ := sub_parts (h := pm * 64) (by omega) (by omega) (l := 0) (by omega) (by omega) (m := m + 1) (by omega) (by omega) (by omega)
      refine ⟨pn, g, s, pe - 70, true, ?_, sumOk_more g0 g1 s0 s1 (by omega) (by omega) (V := pm * 1180591620717411303424 - (m + 1)) (by omega) (by omega) ?_ ?_⟩
      · intro w
        clear kC hL hG hs
        rcases cases2 with b1' | ⟨b1', b2'⟩
        all_goals
          go_enter Tryz.func261, Tryz.ntmps261
          go_wp2_with (fail)
          go_region
          go_wp2
          go_returns
          exact ⟨by first | rfl | (simp [*]; done), by (repeat' first | (with_reducible first | exact Below.refl _ _ | assumption | refine Later.belowOf _ ?_ ?_ | refine Below.alloc ?_ ?_ _ | refine Below.setCell ?_ ?_ _ | refine Below.drewN' _ ?_ | refine Below.drew ?_ | exact Ge.le) | go_size)⟩
      · rw [Int.sub_mul]; cases pn <;> cases qn <;> simp at hs ⊢ <;> omega
      · rw [show pm * 1180591620717411303424 - (m + 1) + 1 = pm * 1180591620717411303424 - m by omega, Int.sub_mul]; cases pn <;> cases qn <;> simp at hs ⊢ <;> omega
end Go.Proofs.YtkmgfbhnioojhaaGreat

/- Contracts: sums. -/
namespace Go.Proofs.YtkmgfbhnioojhaaGreat
set_option linter.unusedSimpArgs false
set_option linter.unusedVariables false
open Go.RowKit
open Fl

theorem round_sum {S hi lo e : Int} {neg more : Bool} (h : SumOk S neg hi lo e more) (dir : Int) : Gives 259 #[(.agg #[.bool neg, .int .u64 hi, .int .u64 lo, .int .i64 e, .bool more]), .int .i64 dir] (.float .f64 (rnd S 1 dir)) := by
  obtain ⟨h0, h1, h2, h3, h4, h5, ⟨a, b, h6, h7⟩, h8, h9⟩ := h
  have := round_any neg more hi lo e dir S.natAbs 1 a b h0 h1 h2 h3 h4 h5 h6 h7 h8 (by decide)
  have e : signP neg (rungOf S.natAbs 1 (if neg then -dir else dir)) = rnd S 1 dir := by
    show _ = signP (decide (S < 0)) (rungOf S.natAbs 1 (if S < 0 then -dir else dir))
    by_cases hz : S = 0
    · subst hz
      rw [show (0 : Int).natAbs = 0 from rfl, rungOf_zero 1 (by decide), rungOf_zero 1 (by decide), signP_zero, signP_zero]
    · rw [h9 hz]
      by_cases hn : S < 0 <;> simp [hn]
  rw [← e]; exact this

def PartsOk (m e : Int) : Prop := (m = 0 ∧ e = 0) ∨ (1 ≤ m ∧ m ≤ 9007199254740991 ∧ -1074 ≤ e ∧ e ≤ 971 ∧ (e = -1074 ∨ 4503599627370496 ≤ m))

theorem sum_any (pn qn : Bool) (pm qm pe qe : Int) (hp : PartsOk pm pe) (hq : PartsOk qm qe) (ho : qe < pe ∨ (qe = pe ∧ qm ≤ pm)) :
    ∃ neg hi lo e more, Gives 261 #[(.agg #[.bool pn, .int .u64 pm, .int .i64 pe]), (.agg #[.bool qn, .int .u64 qm, .int .i64 qe])] (.agg #[.bool neg, .int .u64 hi, .int .u64 lo, .int .i64 e, .bool more]) ∧ SumOk (pval pn pm pe + pval qn qm qe) neg hi lo e more := by
  have z : ∀ b e, pval b 0 e = 0 := by intro b e; unfold pval; rw [Int.zero_mul]; cases b <;> rfl
  have pr : PartsOk pm pe → 0 ≤ pm ∧ pm ≤ 9007199254740991 ∧ -1074 ≤ pe ∧ pe ≤ 971 := by unfold PartsOk; omega
  have qr : PartsOk qm qe → 0 ≤ qm ∧ qm ≤ 9007199254740991 ∧ -1074 ≤ qe ∧ qe ≤ 971 := by unfold PartsOk; omega
  obtain ⟨p0, p1, p2, p3⟩ := pr hp
  obtain ⟨q0, q1, q2, q3⟩ := qr hq
  clear pr qr
  by_cases cq : qm = 0
  · subst cq
    exact ⟨pn, 0, pm, pe, false, sum_zero1 pn qn pm pe qe p0 p1, sumOk_exact (by omega) (by omega) p0 (by omega) p2 (by omega) (V := pm) (by omega) (by rw [z]; unfold pval; cases pn <;> simp [Int.neg_mul])⟩
  · by_cases cp : pm = 0
    · subst cp
      exact ⟨qn, 0, qm, qe, false, sum_zero2 pn qn qm pe qe (by omega) q1, sumOk_exact (by omega) (by omega) q0 (by omega) q2 (by omega) (V := qm) (by omega) (by rw [z]; unfold pval; cases qn <;> simp [Int.neg_mul])⟩
    · by_cases cd : pe - qe ≤ 70
      · have hle : qm ≤ pm * 2 ^ (pe - qe).toNat := by
          rcases ho with ho | ⟨ho, ho2⟩
          · have hpm : 4503599627370496 ≤ pm := by unfold PartsOk at hp; omega
            have : (2 : Int) ^ 1 ≤ 2 ^ (pe - qe).toNat := by
              rw [← pow2_cast, ← pow2_cast]
              have := Nat.pow_le_pow_right (show 0 < 2 by decide) (show 1 ≤ (pe - qe).toNat by omega)
              omega
            have h2 : pm * 2 ^ 1 ≤ pm * 2 ^ (pe - qe).toNat := Int.mul_le_mul_of_nonneg_left this p0
            omega
          · rw [ho, show (pe - pe).toNat = 0 by omega]; omega
        obtain ⟨neg, hi, lo, h1, h2⟩ := sum_near pn qn pm qm pe qe (by omega) p1 (by omega) q1 q2 p3 (by omega) cd hle
        exact ⟨neg, hi, lo, qe, false, h1, h2⟩
      · exact sum_far pn qn pm qm pe qe (by unfold PartsOk at hp; omega) p1 (by omega) q1 q2 p3 (by omega)

theorem mag_small {r : Nat} (h : r < INFR) : mag r ≤ 9007199254740991 := by unfold mag BIN; split <;> omega

theorem partsOk_q (x : Nat) (hf : finB x = true) : PartsOk (qM x) (qE x) := by
  have h := finB_rung.1 hf
  have hm := mag_small h
  unfold qM qE
  rw [hf]
  unfold pM pE PartsOk
  simp only [if_true]
  by_cases c : rung x = 0
  · left; rw [c]; simp; decide
  · right
    rw [if_neg c]
    have : rung x / BIN ≤ 2046 := by unfold INFR at h; unfold BIN; omega
    refine ⟨?_, by omega, ?_, ?_, ?_⟩
    · unfold mag BIN; split <;> omega
    · omega
    · unfold exn; omega
    · unfold exn mag
      by_cases c2 : rung x < BIN
      · left; have := Nat.div_eq_of_lt c2; omega
      · right; rw [if_neg c2]; unfold BIN; omega

theorem pval_q (x : Nat) (hf : finB x = true) : pval (qNeg x) (qM x) (qE x) = val x := by
  unfold qNeg qM qE val
  rw [hf]
  unfold pNeg pM pE pval
  simp only [if_true]
  by_cases c : rung x = 0
  · rw [c]
    generalize (1074 : Int) = t
    cases sgn x <;> simp [mag, BIN, G_zero]
  · rw [if_neg c, G_eq, show (-1074 + (exn (rung x) : Int) + 1074).toNat = exn (rung x) by omega]
    have e : ((mag (rung x) * 2 ^ exn (rung x) : Nat) : Int) = (mag (rung x) : Int) * 2 ^ exn (rung x) := by rw [← pow2_cast]; simp
    rw [e]
    cases sgn x <;> simp [c]

set_option maxHeartbeats 4000000 in
theorem add_fin (a b : Nat) (dir : Int) (ha : a < 18446744073709551616) (hb : b < 18446744073709551616) (fa : finB a = true) (fb : finB b = true) : Gives 196 #[(.float .f64 a), (.float .f64 b), .int .i64 dir] (.float .f64 (rnd (val a + val b) 1 dir)) := by
  intro w
  have b1 := both_any a b ha hb
  rw [fa, fb] at b1
  have p1 := partsOk_q a fa
  have p2 := partsOk_q b fb
  rw [← pval_q a fa, ← pval_q b fb]
  generalize qNeg a = pn at *
  generalize qM a = pm at *
  generalize qE a = pe at *
  generalize qNeg b = qn at *
  generalize qM b = qm at *
  generalize qE b = qe at *
  clear ha hb fa fb
  by_cases c1 : pe < qe
  · obtain ⟨neg, hi, lo, e, more, s1, s2⟩ := sum_any qn pn qm pm qe pe p2 p1 (Or.inl c1)
    have s3 := round_sum s2 dir
    rw [Int.add_comm]
    clear p1 p2 s2
    go_enter Tryz.func196, Tryz.ntmps196
    go_wp2_with (first | (go_at_call 256; refine (b1.go _).mono ?_; rintro _ _ ⟨k, rfl, rfl⟩) | (go_at_call 261; refine (s1.go _).mono ?_; rintro _ _ ⟨k1, rfl, rfl⟩) | (go_at_call 259; refine (s3.go _).mono ?_; rintro _ _ ⟨k2, rfl, rfl⟩))
    go_ret
    exact ⟨rfl, by (repeat' first | (with_reducible first | exact Below.refl _ _ | assumption | refine Later.belowOf _ ?_ ?_ | refine Below.alloc ?_ ?_ _ | refine Below.setCell ?_ ?_ _ | refine Below.drewN' _ ?_ | refine Below.drew ?_ | exact Ge.le) | go_size)⟩
  · by_cases c2 : qe < pe
    · obtain ⟨neg, hi, lo, e, more, s1, s2⟩ := sum_any pn qn pm qm pe qe p1 p2 (Or.inl c2)
      have s3 := round_sum s2 dir
      have c3 : (pe == qe) = false := by rw [beq_eq_false_iff_ne]; omega
      clear p1 p2 s2
      go_enter Tryz.func196, Tryz.ntmps196
      go_wp2_with (first | (go_at_call 256; refine (b1.go _).mono ?_; rintro _ _ ⟨k, rfl, rfl⟩) | (go_at_call 261; refine (s1.go _).mono ?_; rintro _ _ ⟨k1, rfl, rfl⟩) | (go_at_call 259; refine (s3.go _).mono ?_; rintro _ _ ⟨k2, rfl, rfl⟩))
      go_ret
      exact ⟨rfl, by (repeat' first | (with_reducible first | exact Below.refl _ _ | assumption | refine Later.belowOf _ ?_ ?_ | refine Below.alloc ?_ ?_ _ | refine Below.setCell ?_ ?_ _ | refine Below.drewN' _ ?_ | refine Below.drew ?_ | exact Ge.le) | go_size)⟩
    · obtain rfl : pe = qe := by omega
      by_cases c4 : pm < qm
      · obtain ⟨neg, hi, lo, e, more, s1, s2⟩ := sum_any qn pn qm pm pe pe p2 p1 (Or.inr ⟨rfl, by omega⟩)
        have s3 := round_sum s2 dir
        rw [Int.add_comm]
        clear p1 p2 s2
        go_enter Tryz.func196, Tryz.ntmps196
        go_wp2_with (first | (go_at_call 256; refine (b1.go _).mono ?_; rintro _ _ ⟨k, rfl, rfl⟩) | (go_at_call 261; refine (s1.go _).mono ?_; rintro _ _ ⟨k1, rfl, rfl⟩) | (go_at_call 259; refine (s3.go _).mono ?_; rintro _ _ ⟨k2, rfl, rfl⟩))
        go_ret
        exact ⟨rfl, by (repeat' first | (with_reducible first | exact Below.refl _ _ | assumption | refine Later.belowOf _ ?_ ?_ | refine Below.alloc ?_ ?_ _ | refine Below.setCell ?_ ?_ _ | refine Below.drewN' _ ?_ | refine Below.drew ?_ | exact Ge.le) | go_size)⟩
      · obtain ⟨neg, hi, lo, e, more, s1, s2⟩ := sum_any pn qn pm qm pe pe p1 p2 (Or.inr ⟨rfl, by omega⟩)
        have s3 := round_sum s2 dir
        clear p1 p2 s2
        go_enter Tryz.func196, Tryz.ntmps196
        go_wp2_with (first | (go_at_call 256; refine (b1.go _).mono ?_; rintro _ _ ⟨k, rfl, rfl⟩) | (go_at_call 261; refine (s1.go _).mono ?_; rintro _ _ ⟨k1, rfl, rfl⟩) | (go_at_call 259; refine (s3.go _).mono ?_; rintro _ _ ⟨k2, rfl, rfl⟩))
        go_ret
        exact ⟨rfl, by (repeat' first | (with_reducible first | exact Below.refl _ _ | assumption | refine Later.belowOf _ ?_ ?_ | refine Below.alloc ?_ ?_ _ | refine Below.setCell ?_ ?_ _ | refine Below.drewN' _ ?_ | refine Below.drew ?_ | exact Ge.le) | go_size)⟩

/-- A call that gives a value, but for which no number it is. -/
def GivesF (f : FuncId) (args : Array Value) (s : Nat) : Prop := ∀ w : World, Calls Tryz.prog f args w fun e w' => (∃ r, r < 18446744073709551616 ∧ Eqv r s ∧ e = .returned (.float .f64 r)) ∧ Below w.heap.size w w'

theorem GivesF.go {f : FuncId} {args : Array Value} {s : Nat} (h : GivesF f args s) (w : World) : Calls Tryz.prog f args w fun e w' => ∃ (r : Nat) (n : Later w), r < 18446744073709551616 ∧ Eqv r s ∧ e = .returned (.float .f64 r) ∧ w' = n.val :=
  (h w).mono fun _ w' ⟨⟨r, h1, h2, h3⟩, hb⟩ => ⟨r, ⟨w', hb⟩, h1, h2, h3, rfl⟩
theorem GivesF.num {f : FuncId} {args : Array Value} {s : Nat} (h : GivesF f args s) (hs : nan s = false) : Gives f args (.float .f64 s) := by
  intro w
  refine (h w).mono ?_
  rintro _ w' ⟨⟨r, h1, h2, rfl⟩, hb⟩
  rw [h2.num hs]; exact ⟨rfl, hb⟩
theorem Gives.nums {f : FuncId} {args : Array Value} {r s : Nat} (h : Gives f args (.float .f64 r)) (hr : r < 18446744073709551616) (hs : Eqv r s) : GivesF f args s := by
  intro w
  refine (h w).mono ?_
  rintro _ w' ⟨rfl, hb⟩
  exact ⟨⟨r, hr, hs, rfl⟩, hb⟩

theorem rungOf_lt {N D : Nat} {dir : Int} : rungOf N D dir < SW := Nat.lt_of_le_of_lt (rungOf_le N D dir) (by decide)
theorem bitsOf_lt {i : Int} (h1 : -9223372036854775808 < i) (h2 : i < 9223372036854775808) : bitsOf i < 18446744073709551616 := by
  unfold bitsOf SW; split <;> omega
theorem rnd_lt (S : Int) (D : Nat) (dir : Int) : rnd S D dir < 18446744073709551616 := by
  have h := rungOf_lt (N := S.natAbs) (D := D) (dir := if S < 0 then -dir else dir)
  unfold SW at h
  unfold rnd
  apply bitsOf_lt <;> split <;> omega

set_option maxHeartbeats 1000000 in
theorem add_non (a b : Nat) (dir : Int) (ha : a < 18446744073709551616) (hb : b < 18446744073709551616) (hf : (finB a && finB b) = false) : GivesF 196 #[(.float .f64 a), (.float .f64 b), .int .i64 dir] (addS a b dir) := by
  intro w
  have b1 := both_any a b ha hb
  have b2 := fun w => fop_add_non (a := a) (b := b) w ha hb hf dir
  rw [hf] at b1
  have H := Lib.hid b2
  clear ha hb b2 hf
  go_enter Tryz.func196, Tryz.ntmps196
  go_wp2_with (go_at_call 256; refine (b1.go _).mono ?_; rintro _ _ ⟨k, rfl, rfl⟩)
  go_ret
  exact ⟨⟨_, (H.out _).2, (H.out _).1, rfl⟩, by (repeat' first | (with_reducible first | exact Below.refl _ _ | assumption | refine Later.belowOf _ ?_ ?_ | refine Below.alloc ?_ ?_ _ | refine Below.setCell ?_ ?_ _ | refine Below.drewN' _ ?_ | refine Below.drew ?_ | exact Ge.le) | go_size)⟩

theorem add_any (a b : Nat) (dir : Int) (ha : a < 18446744073709551616) (hb : b < 18446744073709551616) : GivesF 196 #[(.float .f64 a), (.float .f64 b), .int .i64 dir] (addS a b dir) := by
  cases h : finB a && finB b
  · exact add_non a b dir ha hb h
  · have h' := h
    rw [Bool.and_eq_true] at h'
    have := add_fin a b dir ha hb h'.1 h'.2
    refine this.nums (rnd_lt _ _ _) (Or.inl ?_)
    unfold addS; rw [if_pos h]

end Go.Proofs.YtkmgfbhnioojhaaGreat

/- Contracts: rounding of parts; products. -/
namespace Go.Proofs.YtkmgfbhnioojhaaGreat
set_option linter.unusedSimpArgs false
set_option linter.unusedVariables false
open Go.RowKit
open Fl

@[go_sem] theorem build_va4 (a : Bool) (b c d : Int) (w : World) : (Instr.build 218 #[(0, .bool a), (1, .int .u64 b), (2, .int .u64 c), (3, .int .i64 d)]).run Tryz.prog w = .ok (.agg #[.bool a, .int .u64 b, .int .u64 c, .int .i64 d, .bool false]) w := run_build w 218 _ _ (by kernel_rfl)
@[go_sem] theorem build_va4m (a : Bool) (c d : Int) (m : Bool) (w : World) : (Instr.build 218 #[(0, .bool a), (2, .int .u64 c), (3, .int .i64 d), (4, .bool m)]).run Tryz.prog w = .ok (.agg #[.bool a, .int .u64 0, .int .u64 c, .int .i64 d, .bool m]) w := run_build w 218 _ _ (by kernel_rfl)

/-- An amount, rounded with its sign. -/
theorem round_signed (S : Int) (neg more : Bool) (hi lo e dir : Int) (D a b : Nat) (h0 : 0 ≤ hi) (h1 : hi ≤ 18446744073709551615) (h2 : 0 ≤ lo) (h3 : lo ≤ 18446744073709551615) (he0 : -6000 ≤ e) (he1 : e ≤ 6000)
    (hA : Amount (hi * 18446744073709551616 + lo).toNat more a b S.natAbs D) (hab : e + 1074 = (a : Int) - b) (hm : more = true → 9007199254740992 ≤ hi * 18446744073709551616 + lo) (hD : 0 < D) (hS : S ≠ 0 → neg = decide (S < 0)) :
    Gives 259 #[(.agg #[.bool neg, .int .u64 hi, .int .u64 lo, .int .i64 e, .bool more]), .int .i64 dir] (.float .f64 (rnd S D dir)) := by
  have := round_any neg more hi lo e dir S.natAbs D a b h0 h1 h2 h3 he0 he1 hA hab hm hD
  have e : signP neg (rungOf S.natAbs D (if neg then -dir else dir)) = rnd S D dir := by
    show _ = signP (decide (S < 0)) (rungOf S.natAbs D (if S < 0 then -dir else dir))
    by_cases hz : S = 0
    · subst hz
      rw [show (0 : Int).natAbs = 0 from rfl, rungOf_zero D hD, rungOf_zero D hD, signP_zero, signP_zero]
    · rw [hS hz]
      by_cases hn : S < 0 <;> simp [hn]
  rw [← e]; exact this

set_option maxHeartbeats 1000000 in
theorem math_NaN : Gives 186 #[] (.float .f64 QN) := by
  intro w
  go_enter Tryz.func186, Tryz.ntmps186
  go_wp2
  go_ret
  exact ⟨rfl, by (repeat' first | (with_reducible first | exact Below.refl _ _ | assumption | refine Later.belowOf _ ?_ ?_ | refine Below.alloc ?_ ?_ _ | refine Below.setCell ?_ ?_ _ | refine Below.drewN' _ ?_ | refine Below.drew ?_ | exact Ge.le) | go_size)⟩

theorem gives_mul64 (x y : Int) (h0 : 0 ≤ x) (h1 : x ≤ 18446744073709551615) (h2 : 0 ≤ y) (h3 : y ≤ 18446744073709551615) :
    ∃ hi lo : Int, Gives 299 #[.int .u64 x, .int .u64 y] (.tuple #[.int .u64 hi, .int .u64 lo]) ∧ hi * 18446744073709551616 + lo = x * y ∧ 0 ≤ hi ∧ hi ≤ 18446744073709551615 ∧ 0 ≤ lo ∧ lo ≤ 18446744073709551615 := by
  obtain ⟨X, rfl⟩ := Int.eq_ofNat_of_zero_le h0
  obtain ⟨Y, rfl⟩ := Int.eq_ofNat_of_zero_le h2
  have hm : X * Y ≤ 18446744073709551615 * 18446744073709551615 := Nat.mul_le_mul (by omega) (by omega)
  refine ⟨_, _, fun w => (Tryz.bits_Mul64 X Y (by omega) (by omega) w).mono fun _ _ ⟨h, hw⟩ => ⟨h, hw ▸ Below.refl _ _⟩, ?_, ?_, ?_, ?_, ?_⟩
  · rw [← Int.natCast_mul]; generalize X * Y = Z at *; omega
  all_goals (generalize X * Y = Z at *; omega)

theorem feq_zero {x : Nat} (h : nan x = false) : feq x 0 = decide (rung x = 0) := by
  unfold feq
  rw [h, show nan 0 = false by decide, show idx 0 = 0 by decide]
  have := idx_zero_iff x
  rw [Bool.eq_iff_iff]
  simp [this]

theorem feq_nan {x y : Nat} (h : nan x = true) : feq x y = false := by unfold feq; rw [h]; rfl

theorem qM_zero {x : Nat} (h : finB x = true) : qM x = 0 ↔ rung x = 0 := by
  unfold qM pM
  rw [h]; simp only [if_true]
  rw [← mag_zero]; omega

set_option maxHeartbeats 4000000 in
theorem mul_any (a b : Nat) (dir : Int) (ha : a < 18446744073709551616) (hb : b < 18446744073709551616) : Gives 246 #[(.float .f64 a), (.float .f64 b), .int .i64 dir] (.float .f64 (mulS a b dir)) := by
  intro w
  have b1 := both_any a b ha hb
  have n1 := math_NaN
  have f1 : feq a a = !nan a := feq_self a
  have f2 : feq b b = !nan b := feq_self b
  cases na : nan a
  · cases nb : nan b
    · have z1 := feq_zero na
      have z2 := feq_zero nb
      by_cases za : rung a = 0
      · have hs : mulS a b dir = 0 := by unfold mulS; rw [na, nb, if_neg (by decide), if_pos (Or.inl za)]
        rw [hs]
        rw [za] at z1
        simp only [decide_true] at z1
        clear hs ha hb za
        go_enter Tryz.func246, Tryz.ntmps246
        go_wp2_with (first | (go_at_call 256; refine (b1.go _).mono ?_; rintro _ _ ⟨k, rfl, rfl⟩) | (go_at_call 221; refine ((isNaN_any _).go _).mono ?_; rintro _ _ ⟨k, rfl, rfl⟩))
        go_ret
        exact ⟨rfl, by (repeat' first | (with_reducible first | exact Below.refl _ _ | assumption | refine Later.belowOf _ ?_ ?_ | refine Below.alloc ?_ ?_ _ | refine Below.setCell ?_ ?_ _ | refine Below.drewN' _ ?_ | refine Below.drew ?_ | exact Ge.le) | go_size)⟩
      · rw [decide_eq_false za] at z1
        by_cases zb : rung b = 0
        · have hs : mulS a b dir = 0 := by unfold mulS; rw [na, nb, if_neg (by decide), if_pos (Or.inr zb)]
          rw [hs]
          rw [zb] at z2
          simp only [decide_true] at z2
          clear hs ha hb za zb
          go_enter Tryz.func246, Tryz.ntmps246
          go_wp2_with (first | (go_at_call 256; refine (b1.go _).mono ?_; rintro _ _ ⟨k, rfl, rfl⟩) | (go_at_call 221; refine ((isNaN_any _).go _).mono ?_; rintro _ _ ⟨k, rfl, rfl⟩))
          go_ret
          exact ⟨rfl, by (repeat' first | (with_reducible first | exact Below.refl _ _ | assumption | refine Later.belowOf _ ?_ ?_ | refine Below.alloc ?_ ?_ _ | refine Below.setCell ?_ ?_ _ | refine Below.drewN' _ ?_ | refine Below.drew ?_ | exact Ge.le) | go_size)⟩
        · rw [decide_eq_false zb] at z2
          cases hf : finB a && finB b
          · have m1 := fun w => fop_mul_non (a := a) (b := b) w ha hb hf na nb za zb dir
            rw [hf] at b1
            have H := Lib.hid m1
            clear m1 ha hb za zb hf
            go_enter Tryz.func246, Tryz.ntmps246
            go_wp2_with (first | (go_at_call 256; refine (b1.go _).mono ?_; rintro _ _ ⟨k, rfl, rfl⟩) | (go_at_call 221; refine ((isNaN_any _).go _).mono ?_; rintro _ _ ⟨k, rfl, rfl⟩))
            go_ret
            exact ⟨ret_float (H.out _).1, by (repeat' first | (with_reducible first | exact Below.refl _ _ | assumption | refine Later.belowOf _ ?_ ?_ | refine Below.alloc ?_ ?_ _ | refine Below.setCell ?_ ?_ _ | refine Below.drewN' _ ?_ | refine Below.drew ?_ | exact Ge.le) | go_size)⟩
          · have hf' := hf
            rw [Bool.and_eq_true] at hf'
            obtain ⟨fa, fb⟩ := hf'
            rw [hf] at b1
            have p1 := partsOk_q a fa
            have p2 := partsOk_q b fb
            have v1 := pval_q a fa
            have v2 := pval_q b fb
            have g1 := mt (qM_zero fa).1 za
            have g2 := mt (qM_zero fb).1 zb
            have hs : mulS a b dir = rnd (val a * val b) (pw 1074) dir := by
              unfold mulS; rw [na, nb, hf, if_neg (by decide), if_neg (by omega), if_pos rfl]
            rw [hs, ← v1, ← v2]
            clear v1 v2 hs ha hb za zb hf fa fb
            generalize qNeg a = pn at *
            generalize qM a = pm at *
            generalize qE a = pe at *
            generalize qNeg b = qn at *
            generalize qM b = qm at *
            generalize qE b = qe at *
            have pr : PartsOk pm pe → 0 ≤ pm ∧ pm ≤ 9007199254740991 ∧ -1074 ≤ pe ∧ pe ≤ 971 := by unfold PartsOk; omega
            have qr : PartsOk qm qe → 0 ≤ qm ∧ qm ≤ 9007199254740991 ∧ -1074 ≤ qe ∧ qe ≤ 971 := by unfold PartsOk; omega
            obtain ⟨p0, p1', p2', p3⟩ := pr p1
            obtain ⟨q0, q1, q2, q3⟩ := qr p2
            obtain ⟨hi, lo, m1, hv, h0, h1, l0, l1⟩ := gives_mul64 pm qm p0 (by omega) q0 (by omega)
            have r1 : Gives 259 #[(.agg #[.bool (pn != qn), .int .u64 hi, .int .u64 lo, .int .i64 (pe + qe), .bool false]), .int .i64 dir] (.float .f64 (rnd (pval pn pm pe * pval qn qm qe) (pw 1074) dir)) := by
              have P1 := pow_pos (pe + 1074).toNat
              have P2 := pow_pos (qe + 1074).toNat
              refine round_signed _ _ false hi lo _ dir _ ((pe + 1074).toNat + (qe + 1074).toNat) 1074 h0 h1 l0 l1 (by omega) (by omega) ?_ (by omega) (fun h => absurd h (by decide)) (pw_pos _) ?_
              · show _ * 2 ^ 1074 = _
                rw [← pw_eq 1074]
                congr 1
                rw [hv, Int.natAbs_mul, Nat.pow_add]
                have hp : ∀ (n : Bool) (m e : Int), (pval n m e).natAbs = m.natAbs * 2 ^ (e + 1074).toNat := by
                  intro n m e; unfold pval
                  cases n
                  · simp only [Bool.false_eq_true, if_false]; exact natAbs_mul_pow _ _
                  · simp only [if_true]; rw [Int.natAbs_neg]; exact natAbs_mul_pow _ _
                rw [hp, hp]
                have : (pm * qm).toNat = pm.natAbs * qm.natAbs := by
                  rw [← Int.natAbs_mul]
                  have := Int.mul_nonneg p0 q0
                  omega
                rw [this]
                simp only [Nat.mul_assoc, Nat.mul_comm, Nat.mul_left_comm]
              · intro _
                unfold pval
                have k1 : 0 < pm * 2 ^ (pe + 1074).toNat := Int.mul_pos (by omega) P1
                have k2 : 0 < qm * 2 ^ (qe + 1074).toNat := Int.mul_pos (by omega) P2
                generalize pm * 2 ^ (pe + 1074).toNat = A at *
                generalize qm * 2 ^ (qe + 1074).toNat = B at *
                have k3 := Int.mul_pos k1 k2
                cases pn <;> cases qn <;> symm <;> simp [Int.mul_neg, Int.neg_mul] <;> omega
            clear hv p1 p2 g1 g2 pr qr
            generalize rnd (pval pn pm pe * pval qn qm qe) (pw 1074) dir = s at *
            go_enter Tryz.func246, Tryz.ntmps246
            go_wp2_with (first | (go_at_call 256; refine (b1.go _).mono ?_; rintro _ _ ⟨k, rfl, rfl⟩) | (go_at_call 221; refine ((isNaN_any _).go _).mono ?_; rintro _ _ ⟨k, rfl, rfl⟩) | (go_at_call 299; refine (m1.go _).mono ?_; rintro _ _ ⟨k, rfl, rfl⟩) | (go_at_call 259; refine (r1.go _).mono ?_; rintro _ _ ⟨k, rfl, rfl⟩))
            go_ret
            exact ⟨rfl, by (repeat' first | (with_reducible first | exact Below.refl _ _ | assumption | refine Later.belowOf _ ?_ ?_ | refine Below.alloc ?_ ?_ _ | refine Below.setCell ?_ ?_ _ | refine Below.drewN' _ ?_ | refine Below.drew ?_ | exact Ge.le) | go_size)⟩
    · have hs : mulS a b dir = QN := by unfold mulS; rw [na, nb]; rfl
      rw [hs]
      clear hs ha hb
      go_enter Tryz.func246, Tryz.ntmps246
      go_wp2_with (first | (go_at_call 256; refine (b1.go _).mono ?_; rintro _ _ ⟨k, rfl, rfl⟩) | (go_at_call 221; refine ((isNaN_any _).go _).mono ?_; rintro _ _ ⟨k, rfl, rfl⟩) | (go_at_call 186; refine (n1.go _).mono ?_; rintro _ _ ⟨k, rfl, rfl⟩))
      go_ret
      exact ⟨rfl, by (repeat' first | (with_reducible first | exact Below.refl _ _ | assumption | refine Later.belowOf _ ?_ ?_ | refine Below.alloc ?_ ?_ _ | refine Below.setCell ?_ ?_ _ | refine Below.drewN' _ ?_ | refine Below.drew ?_ | exact Ge.le) | go_size)⟩
  · have hs : mulS a b dir = QN := by unfold mulS; rw [na]; rfl
    rw [hs]
    clear hs ha hb
    go_enter Tryz.func246, Tryz.ntmps246
    go_wp2_with (first | (go_at_call 256; refine (b1.go _).mono ?_; rintro _ _ ⟨k, rfl, rfl⟩) | (go_at_call 221; refine ((isNaN_any _).go _).mono ?_; rintro _ _ ⟨k, rfl, rfl⟩) | (go_at_call 186; refine (n1.go _).mono ?_; rintro _ _ ⟨k, rfl, rfl⟩))
    go_ret
    exact ⟨rfl, by (repeat' first | (with_reducible first | exact Below.refl _ _ | assumption | refine Later.belowOf _ ?_ ?_ | refine Below.alloc ?_ ?_ _ | refine Below.setCell ?_ ?_ _ | refine Below.drewN' _ ?_ | refine Below.drew ?_ | exact Ge.le) | go_size)⟩
end Go.Proofs.YtkmgfbhnioojhaaGreat
