/- Contracts: roots and powers of intervals. -/
import Derived.Test.YtkmgfbhnioojhaaGreatPmW42
import Derived.Test.YtkmgfbhnioojhaaGreatPmW45
import Derived.IntWalk
namespace Go.Proofs.YtkmgfbhnioojhaaGreat
set_option linter.unusedSimpArgs false
set_option linter.unusedVariables false
open Go.RowKit
open Fl

/-! ### Roots -/
end Go.Proofs.YtkmgfbhnioojhaaGreat

/- Contracts: powers of intervals. -/
namespace Go.Proofs.YtkmgfbhnioojhaaGreat
set_option linter.unusedSimpArgs false
set_option linter.unusedVariables false
open Go.RowKit
open Fl

end Go.Proofs.YtkmgfbhnioojhaaGreat

/- Contracts: powers of intervals, of whatever exponent. -/
namespace Go.Proofs.YtkmgfbhnioojhaaGreat
set_option linter.unusedSimpArgs false
set_option linter.unusedVariables false
open Go.RowKit
open Fl

theorem endsI_lt {p q : Nat} (hp : p < 18446744073709551616) (hq : q < 18446744073709551616) : (endsI p q).1 < 18446744073709551616 ∧ (endsI p q).2 < 18446744073709551616 :=
  makeI_lt (minF_lt hp (by decide)) (maxF_lt hq (by decide))
end Go.Proofs.YtkmgfbhnioojhaaGreat
