/- Contracts: exact sums, the second one far away. -/
import Derived.Test.YtjdccbigaahkeaaGreatW10
namespace Go.Proofs.YtjdccbigaahkeaaGreat
set_option linter.unusedSimpArgs false
set_option linter.unusedVariables false
open Go.RowKit
open Fl

theorem sumOk_more {S V hi lo e : Int} {neg : Bool} (h0 : 0 ≤ hi) (h1 : hi ≤ 18446744073709551615) (h2 : 0 ≤ lo) (h3 : lo ≤ 18446744073709551615) (e0 : -1074 ≤ e) (e1 : e ≤ 6000)
    (hV : hi * 18446744073709551616 + lo = V) (hV2 : 9007199254740992 ≤ V) (hl : V * 2 ^ (e + 1074).toNat < (if neg then -S else S)) (hg : (if neg then -S else S) < (V + 1) * 2 ^ (e + 1074).toNat) : SumOk S neg hi lo e true := by
  have p := pow_pos (e + 1074).toNat
  have hpos : 0 < (if neg then -S else S) := by
    have : 0 ≤ V * 2 ^ (e + 1074).toNat := Int.mul_nonneg (by omega) (by omega)
    omega
  refine ⟨h0, h1, h2, h3, by omega, e1, ⟨(e + 1074).toNat, 0, ?_, by omega⟩, fun _ => by omega, ?_⟩
  · obtain ⟨v, rfl⟩ := Int.eq_ofNat_of_zero_le (show 0 ≤ V by omega)
    show (hi * 18446744073709551616 + lo).toNat * 2 ^ (e + 1074).toNat * 1 < S.natAbs * 2 ^ 0 ∧ S.natAbs * 2 ^ 0 < ((hi * 18446744073709551616 + lo).toNat + 1) * 2 ^ (e + 1074).toNat * 1
    rw [hV, Int.toNat_natCast, Nat.pow_zero, Nat.mul_one, Nat.mul_one, Nat.mul_one]
    rw [← pow2_cast] at hl hg
    have e1 : (v : Int) * ((2 ^ (e + 1074).toNat : Nat) : Int) = ((v * 2 ^ (e + 1074).toNat : Nat) : Int) := by simp
    have e2 : ((v : Int) + 1) * ((2 ^ (e + 1074).toNat : Nat) : Int) = (((v + 1) * 2 ^ (e + 1074).toNat : Nat) : Int) := by simp
    rw [e1] at hl
    rw [e2] at hg
    have : ((S.natAbs : Nat) : Int) = (if neg then -S else S) := by
      cases neg <;> simp at * <;> omega
    omega
  · intro _
    cases neg
    · simp only [Bool.false_eq_true, if_false] at hpos; symm; simp; omega
    · simp only [if_true] at hpos; symm; simp; omega

end Go.Proofs.YtjdccbigaahkeaaGreat
