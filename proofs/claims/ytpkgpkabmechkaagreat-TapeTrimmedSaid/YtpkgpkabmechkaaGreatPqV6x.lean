/- Contracts: tape.Eval. -/
import Derived.Test.YtpkgpkabmechkaaGreatPqV3
namespace Go.Proofs.YtpkgpkabmechkaaGreat
set_option linter.unusedSimpArgs false
set_option linter.unusedVariables false
open Go.RowKit
open Fl

def outF (ops : Nat → OpT) (outs : Nat → Int) (xs : Nat → Nat × Nat) (j : Nat) : Nat × Nat := evF ops xs (outs j).toNat

theorem start_zero {V : Int} {nO nN nx : Nat} {ops : Nat → OpT} {outs : Nat → Int} {xs : Nat → Nat × Nat} (h : startE V nO ops nN outs xs nx = 0) : TapeR V nO ops nN outs ∧ (nx : Int) = V ∧ ∀ j, j < nx → noneB (xs j).1 (xs j).2 = false := by
  unfold startE at h
  by_cases hT : TapeR V nO ops nN outs
  · rw [if_pos hT] at h
    by_cases hl : (nx : Int) = V ∧ anyB xs nx (fun x => noneB x.1 x.2) = false
    · refine ⟨hT, hl.1, fun j hj => ?_⟩
      rcases fot (noneB (xs j).1 (xs j).2) with h2 | h2
      · exact h2
      · have := anyB_iff (xs := xs) (n := nx) (bad := fun x => noneB x.1 x.2) |>.2 ⟨j, hj, h2⟩
        rw [hl.2] at this; cases this
    · rw [if_neg hl] at h; cases h
  · rw [if_neg hT] at h; cases h

theorem cellB {W wr : World} {B b o : Nat} {v : Value} (hb : Below B W wr) (h : W.cell? ⟨b, o, none⟩ = some v) (hB : b < B) : wr.cell? ⟨b, o, none⟩ = some v := (hb.cell (p := ⟨b, o, none⟩) hB).trans h

end Go.Proofs.YtpkgpkabmechkaaGreat

/- Contracts: the reference's values of a tape's operations up to roots (printed by wip/genlaw.py). -/
namespace Go.Proofs.YtpkgpkabmechkaaGreat
set_option linter.unusedSimpArgs false
set_option linter.unusedVariables false
open Go.RowKit
open Fl

end Go.Proofs.YtpkgpkabmechkaaGreat
