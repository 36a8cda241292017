/- Contracts: sums. -/
import Derived.Test.YtjdccbigaahkeaaW11
namespace Go.Proofs.Ytjdccbigaahkeaa
set_option linter.unusedSimpArgs false
set_option linter.unusedVariables false
open Go.RowKit
open Fl

theorem round_sum {S hi lo e : Int} {neg more : Bool} (h : SumOk S neg hi lo e more) (dir : Int) : Gives 101 #[(.agg #[.bool neg, .int .u64 hi, .int .u64 lo, .int .i64 e, .bool more]), .int .i64 dir] (.float .f64 (rnd S 1 dir)) := by
  obtain ⟨h0, h1, h2, h3, h4, h5, ⟨a, b, h6, h7⟩, h8, h9⟩ := h
  have := round_any neg more hi lo e dir S.natAbs 1 a b h0 h1 h2 h3 h4 h5 h6 h7 h8 (by decide)
  have e : signP neg (rungOf S.natAbs 1 (if neg then -dir else dir)) = rnd S 1 dir := by
    show _ = signP (decide (S < 0)) (rungOf S.natAbs 1 (if S < 0 then -dir else dir))
    by_cases hz : S = 0
    · subst hz
      rw [show (0 : Int).natAbs = 0 from rfl, rungOf_zero 1 (by decide), rungOf_zero 1 (by decide), signP_zero, signP_zero]
    · rw [h9 hz]
      by_cases hn : S < 0 <;> simp [hn]
  rw [← e]; exact this

def PartsOk (m e : Int) : Prop := (m = 0 ∧ e = 0) ∨ (1 ≤ m ∧ m ≤ 9007199254740991 ∧ -1074 ≤ e ∧ e ≤ 971 ∧ (e = -1074 ∨ 4503599627370496 ≤ m))

theorem sum_any (pn qn : Bool) (pm qm pe qe : Int) (hp : PartsOk pm pe) (hq : PartsOk qm qe) (ho : qe < pe ∨ (qe = pe ∧ qm ≤ pm)) :
    ∃ neg hi lo e more, Gives 111 #[(.agg #[.bool pn, .int .u64 pm, .int .i64 pe]), (.agg #[.bool qn, .int .u64 qm, .int .i64 qe])] (.agg #[.bool neg, .int .u64 hi, .int .u64 lo, .int .i64 e, .bool more]) ∧ SumOk (pval pn pm pe + pval qn qm qe) neg hi lo e more := by
  have z : ∀ b e, pval b 0 e = 0 := by intro b e; unfold pval; rw [Int.zero_mul]; cases b <;> rfl
  have pr : PartsOk pm pe → 0 ≤ pm ∧ pm ≤ 9007199254740991 ∧ -1074 ≤ pe ∧ pe ≤ 971 := by unfold PartsOk; omega
  have qr : PartsOk qm qe → 0 ≤ qm ∧ qm ≤ 9007199254740991 ∧ -1074 ≤ qe ∧ qe ≤ 971 := by unfold PartsOk; omega
  obtain ⟨p0, p1, p2, p3⟩ := pr hp
  obtain ⟨q0, q1, q2, q3⟩ := qr hq
  clear pr qr
  by_cases cq : qm = 0
  · subst cq
    exact ⟨pn, 0, pm, pe, false, sum_zero1 pn qn pm pe qe p0 p1, sumOk_exact (by omega) (by omega) p0 (by omega) p2 (by omega) (V := pm) (by omega) (by rw [z]; unfold pval; cases pn <;> simp [Int.neg_mul])⟩
  · by_cases cp : pm = 0
    · subst cp
      exact ⟨qn, 0, qm, qe, false, sum_zero2 pn qn qm pe qe (by omega) q1, sumOk_exact (by omega) (by omega) q0 (by omega) q2 (by omega) (V := qm) (by omega) (by rw [z]; unfold pval; cases qn <;> simp [Int.neg_mul])⟩
    · by_cases cd : pe - qe ≤ 70
      · have hle : qm ≤ pm * 2 ^ (pe - qe).toNat := by
          rcases ho with ho | ⟨ho, ho2⟩
          · have hpm : 4503599627370496 ≤ pm := by unfold PartsOk at hp; omega
            have : (2 : Int) ^ 1 ≤ 2 ^ (pe - qe).toNat := by
              rw [← pow2_cast, ← pow2_cast]
              have := Nat.pow_le_pow_right (show 0 < 2 by decide) (show 1 ≤ (pe - qe).toNat by omega)
              omega
            have h2 : pm * 2 ^ 1 ≤ pm * 2 ^ (pe - qe).toNat := Int.mul_le_mul_of_nonneg_left this p0
            omega
          · rw [ho, show (pe - pe).toNat = 0 by omega]; omega
        obtain ⟨neg, hi, lo, h1, h2⟩ := sum_near pn qn pm qm pe qe (by omega) p1 (by omega) q1 q2 p3 (by omega) cd hle
        exact ⟨neg, hi, lo, qe, false, h1, h2⟩
      · exact sum_far pn qn pm qm pe qe (by unfold PartsOk at hp; omega) p1 (by omega) q1 q2 p3 (by omega)

theorem mag_small {r : Nat} (h : r < INFR) : mag r ≤ 9007199254740991 := by unfold mag BIN; split <;> omega

theorem partsOk_q (x : Nat) (hf : finB x = true) : PartsOk (qM x) (qE x) := by
  have h := finB_rung.1 hf
  have hm := mag_small h
  unfold qM qE
  rw [hf]
  unfold pM pE PartsOk
  simp only [if_true]
  by_cases c : rung x = 0
  · left; rw [c]; simp; decide
  · right
    rw [if_neg c]
    have : rung x / BIN ≤ 2046 := by unfold INFR at h; unfold BIN; omega
    refine ⟨?_, by omega, ?_, ?_, ?_⟩
    · unfold mag BIN; split <;> omega
    · omega
    · unfold exn; omega
    · unfold exn mag
      by_cases c2 : rung x < BIN
      · left; have := Nat.div_eq_of_lt c2; omega
      · right; rw [if_neg c2]; unfold BIN; omega

theorem pval_q (x : Nat) (hf : finB x = true) : pval (qNeg x) (qM x) (qE x) = val x := by
  unfold qNeg qM qE val
  rw [hf]
  unfold pNeg pM pE pval
  simp only [if_true]
  by_cases c : rung x = 0
  · rw [c]
    generalize (1074 : Int) = t
    cases sgn x <;> simp [mag, BIN, G_zero]
  · rw [if_neg c, G_eq, show (-1074 + (exn (rung x) : Int) + 1074).toNat = exn (rung x) by omega]
    have e : ((mag (rung x) * 2 ^ exn (rung x) : Nat) : Int) = (mag (rung x) : Int) * 2 ^ exn (rung x) := by rw [← pow2_cast]; simp
    rw [e]
    cases sgn x <;> simp [c]

set_option maxHeartbeats 4000000 in
theorem add_fin (a b : Nat) (dir : Int) (ha : a < 18446744073709551616) (hb : b < 18446744073709551616) (fa : finB a = true) (fb : finB b = true) : Gives 48 #[(.float .f64 a), (.float .f64 b), .int .i64 dir] (.float .f64 (rnd (val a + val b) 1 dir)) := by
  intro w
  have b1 := both_any a b ha hb
  rw [fa, fb] at b1
  have p1 := partsOk_q a fa
  have p2 := partsOk_q b fb
  rw [← pval_q a fa, ← pval_q b fb]
  generalize qNeg a = pn at *
  generalize qM a = pm at *
  generalize qE a = pe at *
  generalize qNeg b = qn at *
  generalize qM b = qm at *
  generalize qE b = qe at *
  clear ha hb fa fb
  by_cases c1 : pe < qe
  · obtain ⟨neg, hi, lo, e, more, s1, s2⟩ := sum_any qn pn qm pm qe pe p2 p1 (Or.inl c1)
    have s3 := round_sum s2 dir
    rw [Int.add_comm]
    clear p1 p2 s2
    go_enter Try.func48, Try.ntmps48
    go_wp2_with (first | (go_at_call 104; refine (b1.go _).mono ?_; rintro _ _ ⟨k, rfl, rfl⟩) | (go_at_call 111; refine (s1.go _).mono ?_; rintro _ _ ⟨k1, rfl, rfl⟩) | (go_at_call 101; refine (s3.go _).mono ?_; rintro _ _ ⟨k2, rfl, rfl⟩))
    go_ret
    exact ⟨rfl, by (repeat' (first | (with_reducible exact Below.refl _ _) | (with_reducible assumption) | (with_reducible refine Later.belowOf _ ?_ ?_) | (with_reducible refine Below.alloc ?_ ?_ _) | (with_reducible refine Below.setCell ?_ ?_ _) | (with_reducible refine Below.drewN' _ ?_) | (with_reducible refine Below.drew ?_) | (with_reducible exact Ge.le) | go_size))⟩
  · by_cases c2 : qe < pe
    · obtain ⟨neg, hi, lo, e, more, s1, s2⟩ := sum_any pn qn pm qm pe qe p1 p2 (Or.inl c2)
      have s3 := round_sum s2 dir
      have c3 : (pe == qe) = false := by rw [beq_eq_false_iff_ne]; omega
      clear p1 p2 s2
      go_enter Try.func48, Try.ntmps48
      go_wp2_with (first | (go_at_call 104; refine (b1.go _).mono ?_; rintro _ _ ⟨k, rfl, rfl⟩) | (go_at_call 111; refine (s1.go _).mono ?_; rintro _ _ ⟨k1, rfl, rfl⟩) | (go_at_call 101; refine (s3.go _).mono ?_; rintro _ _ ⟨k2, rfl, rfl⟩))
      go_ret
      exact ⟨rfl, by (repeat' (first | (with_reducible exact Below.refl _ _) | (with_reducible assumption) | (with_reducible refine Later.belowOf _ ?_ ?_) | (with_reducible refine Below.alloc ?_ ?_ _) | (with_reducible refine Below.setCell ?_ ?_ _) | (with_reducible refine Below.drewN' _ ?_) | (with_reducible refine Below.drew ?_) | (with_reducible exact Ge.le) | go_size))⟩
    · obtain rfl : pe = qe := by omega
      by_cases c4 : pm < qm
      · obtain ⟨neg, hi, lo, e, more, s1, s2⟩ := sum_any qn pn qm pm pe pe p2 p1 (Or.inr ⟨rfl, by omega⟩)
        have s3 := round_sum s2 dir
        rw [Int.add_comm]
        clear p1 p2 s2
        go_enter Try.func48, Try.ntmps48
        go_wp2_with (first | (go_at_call 104; refine (b1.go _).mono ?_; rintro _ _ ⟨k, rfl, rfl⟩) | (go_at_call 111; refine (s1.go _).mono ?_; rintro _ _ ⟨k1, rfl, rfl⟩) | (go_at_call 101; refine (s3.go _).mono ?_; rintro _ _ ⟨k2, rfl, rfl⟩))
        go_ret
        exact ⟨rfl, by (repeat' (first | (with_reducible exact Below.refl _ _) | (with_reducible assumption) | (with_reducible refine Later.belowOf _ ?_ ?_) | (with_reducible refine Below.alloc ?_ ?_ _) | (with_reducible refine Below.setCell ?_ ?_ _) | (with_reducible refine Below.drewN' _ ?_) | (with_reducible refine Below.drew ?_) | (with_reducible exact Ge.le) | go_size))⟩
      · obtain ⟨neg, hi, lo, e, more, s1, s2⟩ := sum_any pn qn pm qm pe pe p1 p2 (Or.inr ⟨rfl, by omega⟩)
        have s3 := round_sum s2 dir
        clear p1 p2 s2
        go_enter Try.func48, Try.ntmps48
        go_wp2_with (first | (go_at_call 104; refine (b1.go _).mono ?_; rintro _ _ ⟨k, rfl, rfl⟩) | (go_at_call 111; refine (s1.go _).mono ?_; rintro _ _ ⟨k1, rfl, rfl⟩) | (go_at_call 101; refine (s3.go _).mono ?_; rintro _ _ ⟨k2, rfl, rfl⟩))
        go_ret
        exact ⟨rfl, by (repeat' (first | (with_reducible exact Below.refl _ _) | (with_reducible assumption) | (with_reducible refine Later.belowOf _ ?_ ?_) | (with_reducible refine Below.alloc ?_ ?_ _) | (with_reducible refine Below.setCell ?_ ?_ _) | (with_reducible refine Below.drewN' _ ?_) | (with_reducible refine Below.drew ?_) | (with_reducible exact Ge.le) | go_size))⟩

/-- A call that gives a value, but for which no number it is. -/
def GivesF (f : FuncId) (args : Array Value) (s : Nat) : Prop := ∀ w : World, Calls Try.prog f args w fun e w' => (∃ r, r < 18446744073709551616 ∧ Eqv r s ∧ e = .returned (.float .f64 r)) ∧ Below w.heap.size w w'

theorem GivesF.go {f : FuncId} {args : Array Value} {s : Nat} (h : GivesF f args s) (w : World) : Calls Try.prog f args w fun e w' => ∃ (r : Nat) (n : Later w), r < 18446744073709551616 ∧ Eqv r s ∧ e = .returned (.float .f64 r) ∧ w' = n.val :=
  (h w).mono fun _ w' ⟨⟨r, h1, h2, h3⟩, hb⟩ => ⟨r, ⟨w', hb⟩, h1, h2, h3, rfl⟩
theorem GivesF.num {f : FuncId} {args : Array Value} {s : Nat} (h : GivesF f args s) (hs : nan s = false) : Gives f args (.float .f64 s) := by
  intro w
  refine (h w).mono ?_
  rintro _ w' ⟨⟨r, h1, h2, rfl⟩, hb⟩
  rw [h2.num hs]; exact ⟨rfl, hb⟩
theorem Gives.nums {f : FuncId} {args : Array Value} {r s : Nat} (h : Gives f args (.float .f64 r)) (hr : r < 18446744073709551616) (hs : Eqv r s) : GivesF f args s := by
  intro w
  refine (h w).mono ?_
  rintro _ w' ⟨rfl, hb⟩
  exact ⟨⟨r, hr, hs, rfl⟩, hb⟩

theorem rungOf_lt {N D : Nat} {dir : Int} : rungOf N D dir < SW := Nat.lt_of_le_of_lt (rungOf_le N D dir) (by decide)
theorem bitsOf_lt {i : Int} (h1 : -9223372036854775808 < i) (h2 : i < 9223372036854775808) : bitsOf i < 18446744073709551616 := by
  unfold bitsOf SW; split <;> omega
theorem rnd_lt (S : Int) (D : Nat) (dir : Int) : rnd S D dir < 18446744073709551616 := by
  have h := rungOf_lt (N := S.natAbs) (D := D) (dir := if S < 0 then -dir else dir)
  unfold SW at h
  unfold rnd
  apply bitsOf_lt <;> split <;> omega

set_option maxHeartbeats 1000000 in
theorem add_non (a b : Nat) (dir : Int) (ha : a < 18446744073709551616) (hb : b < 18446744073709551616) (hf : (finB a && finB b) = false) : GivesF 48 #[(.float .f64 a), (.float .f64 b), .int .i64 dir] (addS a b dir) := by
  intro w
  have b1 := both_any a b ha hb
  have b2 := fun w => fop_add_non (a := a) (b := b) w ha hb hf dir
  rw [hf] at b1
  have H := Lib.hid b2
  clear ha hb b2 hf
  go_enter Try.func48, Try.ntmps48
  go_wp2_with (go_at_call 104; refine (b1.go _).mono ?_; rintro _ _ ⟨k, rfl, rfl⟩)
  go_ret
  exact ⟨⟨_, (H.out _).2, (H.out _).1, rfl⟩, by (repeat' (first | (with_reducible exact Below.refl _ _) | (with_reducible assumption) | (with_reducible refine Later.belowOf _ ?_ ?_) | (with_reducible refine Below.alloc ?_ ?_ _) | (with_reducible refine Below.setCell ?_ ?_ _) | (with_reducible refine Below.drewN' _ ?_) | (with_reducible refine Below.drew ?_) | (with_reducible exact Ge.le) | go_size))⟩

theorem add_any (a b : Nat) (dir : Int) (ha : a < 18446744073709551616) (hb : b < 18446744073709551616) : GivesF 48 #[(.float .f64 a), (.float .f64 b), .int .i64 dir] (addS a b dir) := by
  cases h : finB a && finB b
  · exact add_non a b dir ha hb h
  · have h' := h
    rw [Bool.and_eq_true] at h'
    have := add_fin a b dir ha hb h'.1 h'.2
    refine this.nums (rnd_lt _ _ _) (Or.inl ?_)
    unfold addS; rw [if_pos h]

/-- A difference. -/
def subS (a b : Nat) (dir : Int) : Nat := addS a (fneg b) dir

theorem sub_any (a b : Nat) (dir : Int) (ha : a < 18446744073709551616) (hb : b < 18446744073709551616) : GivesF 50 #[(.float .f64 a), (.float .f64 b), .int .i64 dir] (subS a b dir) := by
  intro w
  have a1 := add_any a (fneg b) dir ha (fneg_lt b)
  have e1 := fneg_eq hb
  clear ha hb
  unfold subS
  generalize addS a (fneg b) dir = s at *
  go_enter Try.func50, Try.ntmps50
  go_wp2_with (go_at_call 48; refine (a1.go _).mono ?_; rintro _ _ ⟨r, k, r1, r2, rfl, rfl⟩)
  go_ret
  exact ⟨⟨r, r1, r2, rfl⟩, by (repeat' (first | (with_reducible exact Below.refl _ _) | (with_reducible assumption) | (with_reducible refine Later.belowOf _ ?_ ?_) | (with_reducible refine Below.alloc ?_ ?_ _) | (with_reducible refine Below.setCell ?_ ?_ _) | (with_reducible refine Below.drewN' _ ?_) | (with_reducible refine Below.drew ?_) | (with_reducible exact Ge.le) | go_size))⟩
end Go.Proofs.Ytjdccbigaahkeaa
