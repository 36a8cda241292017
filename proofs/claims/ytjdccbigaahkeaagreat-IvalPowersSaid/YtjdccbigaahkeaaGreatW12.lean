/- Contracts: sums. -/
import Derived.Test.YtjdccbigaahkeaaGreatW11
namespace Go.Proofs.YtjdccbigaahkeaaGreat
set_option linter.unusedSimpArgs false
set_option linter.unusedVariables false
open Go.RowKit
open Fl

theorem round_sum {S hi lo e : Int} {neg more : Bool} (h : SumOk S neg hi lo e more) (dir : Int) : Gives 43 #[(.agg #[.bool neg, .int .u64 hi, .int .u64 lo, .int .i64 e, .bool more]), .int .i64 dir] (.float .f64 (rnd S 1 dir)) := by
  obtain ⟨h0, h1, h2, h3, h4, h5, ⟨a, b, h6, h7⟩, h8, h9⟩ := h
  have := round_any neg more hi lo e dir S.natAbs 1 a b h0 h1 h2 h3 h4 h5 h6 h7 h8 (by decide)
  have e : signP neg (rungOf S.natAbs 1 (if neg then -dir else dir)) = rnd S 1 dir := by
    show _ = signP (decide (S < 0)) (rungOf S.natAbs 1 (if S < 0 then -dir else dir))
    by_cases hz : S = 0
    · subst hz
      rw [show (0 : Int).natAbs = 0 from rfl, rungOf_zero 1 (by decide), rungOf_zero 1 (by decide), signP_zero, signP_zero]
    · rw [h9 hz]
      by_cases hn : S < 0 <;> simp [hn]
  rw [← e]; exact this

def PartsOk (m e : Int) : Prop := (m = 0 ∧ e = 0) ∨ (1 ≤ m ∧ m ≤ 9007199254740991 ∧ -1074 ≤ e ∧ e ≤ 971 ∧ (e = -1074 ∨ 4503599627370496 ≤ m))

theorem mag_small {r : Nat} (h : r < INFR) : mag r ≤ 9007199254740991 := by unfold mag BIN; split <;> omega

theorem partsOk_q (x : Nat) (hf : finB x = true) : PartsOk (qM x) (qE x) := by
  have h := finB_rung.1 hf
  have hm := mag_small h
  unfold qM qE
  rw [hf]
  unfold pM pE PartsOk
  simp only [if_true]
  by_cases c : rung x = 0
  · left; rw [c]; simp; decide
  · right
    rw [if_neg c]
    have : rung x / BIN ≤ 2046 := by unfold INFR at h; unfold BIN; omega
    refine ⟨?_, by omega, ?_, ?_, ?_⟩
    · unfold mag BIN; split <;> omega
    · omega
    · unfold exn; omega
    · unfold exn mag
      by_cases c2 : rung x < BIN
      · left; have := Nat.div_eq_of_lt c2; omega
      · right; rw [if_neg c2]; unfold BIN; omega

theorem pval_q (x : Nat) (hf : finB x = true) : pval (qNeg x) (qM x) (qE x) = val x := by
  unfold qNeg qM qE val
  rw [hf]
  unfold pNeg pM pE pval
  simp only [if_true]
  by_cases c : rung x = 0
  · rw [c]
    generalize (1074 : Int) = t
    cases sgn x <;> simp [mag, BIN, G_zero]
  · rw [if_neg c, G_eq, show (-1074 + (exn (rung x) : Int) + 1074).toNat = exn (rung x) by omega]
    have e : ((mag (rung x) * 2 ^ exn (rung x) : Nat) : Int) = (mag (rung x) : Int) * 2 ^ exn (rung x) := by rw [← pow2_cast]; simp
    rw [e]
    cases sgn x <;> simp [c]

/-- A call that gives a value, but for which no number it is. -/
def GivesF (f : FuncId) (args : Array Value) (s : Nat) : Prop := ∀ w : World, Calls Tryz.prog f args w fun e w' => (∃ r, r < 18446744073709551616 ∧ Eqv r s ∧ e = .returned (.float .f64 r)) ∧ Below w.heap.size w w'

theorem GivesF.go {f : FuncId} {args : Array Value} {s : Nat} (h : GivesF f args s) (w : World) : Calls Tryz.prog f args w fun e w' => ∃ (r : Nat) (n : Later w), r < 18446744073709551616 ∧ Eqv r s ∧ e = .returned (.float .f64 r) ∧ w' = n.val :=
  (h w).mono fun _ w' ⟨⟨r, h1, h2, h3⟩, hb⟩ => ⟨r, ⟨w', hb⟩, h1, h2, h3, rfl⟩
theorem GivesF.num {f : FuncId} {args : Array Value} {s : Nat} (h : GivesF f args s) (hs : nan s = false) : Gives f args (.float .f64 s) := by
  intro w
  refine (h w).mono ?_
  rintro _ w' ⟨⟨r, h1, h2, rfl⟩, hb⟩
  rw [h2.num hs]; exact ⟨rfl, hb⟩
theorem Gives.nums {f : FuncId} {args : Array Value} {r s : Nat} (h : Gives f args (.float .f64 r)) (hr : r < 18446744073709551616) (hs : Eqv r s) : GivesF f args s := by
  intro w
  refine (h w).mono ?_
  rintro _ w' ⟨rfl, hb⟩
  exact ⟨⟨r, hr, hs, rfl⟩, hb⟩

theorem rungOf_lt {N D : Nat} {dir : Int} : rungOf N D dir < SW := Nat.lt_of_le_of_lt (rungOf_le N D dir) (by decide)
theorem bitsOf_lt {i : Int} (h1 : -9223372036854775808 < i) (h2 : i < 9223372036854775808) : bitsOf i < 18446744073709551616 := by
  unfold bitsOf SW; split <;> omega
theorem rnd_lt (S : Int) (D : Nat) (dir : Int) : rnd S D dir < 18446744073709551616 := by
  have h := rungOf_lt (N := S.natAbs) (D := D) (dir := if S < 0 then -dir else dir)
  unfold SW at h
  unfold rnd
  apply bitsOf_lt <;> split <;> omega

/-- A difference. -/
def subS (a b : Nat) (dir : Int) : Nat := addS a (fneg b) dir

end Go.Proofs.YtjdccbigaahkeaaGreat
