/- Contracts: the logarithm, of an interval. -/
import Derived.Test.YtkmgfbhnioojhaaGreatPmE4
namespace Go.Proofs.YtkmgfbhnioojhaaGreat
set_option linter.unusedSimpArgs false
set_option linter.unusedVariables false
open Go.RowKit
open Fl

theorem cut_box {W wc : World} {B : Nat} {x : Nat × Nat} (hb : Below W.heap.size W wc) (hx : Box wc B x) :
    ∃ (B' : Nat) (q : Later W), Value.pointer (some ⟨B, 0, none⟩) = .pointer (some ⟨B', 0, none⟩) ∧ wc = q.val ∧ Box wc B' x := ⟨B, ⟨wc, hb⟩, rfl, rfl, hx⟩

end Go.Proofs.YtkmgfbhnioojhaaGreat

/- Contracts: Log of an interval; the arc of the tangent. -/
namespace Go.Proofs.YtkmgfbhnioojhaaGreat
set_option linter.unusedSimpArgs false
set_option linter.unusedVariables false
open Go.RowKit
open Fl

end Go.Proofs.YtkmgfbhnioojhaaGreat

/- Contracts: the arc of the tangent. -/
namespace Go.Proofs.YtkmgfbhnioojhaaGreat
set_option linter.unusedSimpArgs false
set_option linter.unusedVariables false
open Go.RowKit
open Fl

theorem lt_turnQ : Lt turnQ := lt_mul lt_pi (lt_pt (by decide))
end Go.Proofs.YtkmgfbhnioojhaaGreat
