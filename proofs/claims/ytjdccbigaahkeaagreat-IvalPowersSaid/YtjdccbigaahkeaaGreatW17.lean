/- Contracts: the sides' order, asked. -/
import Derived.Test.YtjdccbigaahkeaaGreatW16
import Derived.Test.YtjdccbigaahkeaaGreatFlC
namespace Go.Proofs.YtjdccbigaahkeaaGreat
set_option linter.unusedSimpArgs false
set_option linter.unusedVariables false
open Go.RowKit
open Fl

theorem mul_f (a b : Nat) (dir : Int) (ha : a < 18446744073709551616) (hb : b < 18446744073709551616) : GivesF 52 #[(.float .f64 a), (.float .f64 b), .int .i64 dir] (mulS a b dir) := by
  refine (mul_any a b dir ha hb).nums ?_ (Or.inl rfl)
  unfold mulS
  repeat' split
  all_goals first | exact rnd_lt _ _ _ | decide | exact infW_lt _

theorem zero_or {i : Int} (h1 : -9218868437227405312 ≤ i) (h2 : i ≤ 9218868437227405312) : bitsOf i = 0 ∨ feq (bitsOf i) 0 = false := by
  by_cases h : i = 0
  · left; rw [h]; rfl
  · right
    obtain ⟨e1, e2, e3⟩ := nan_bits h1 h2
    unfold feq
    rw [e2, show idx 0 = 0 by decide]
    simp [h]

end Go.Proofs.YtjdccbigaahkeaaGreat
