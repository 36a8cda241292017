/- Contracts: the reference's numbers: sums. -/
import Derived.Test.YtpkgpkabmechkaaGreatPqW22
namespace Go.Proofs.YtpkgpkabmechkaaGreat
set_option linter.unusedSimpArgs false
set_option linter.unusedVariables false
open Go.RowKit
open Fl

end Go.Proofs.YtpkgpkabmechkaaGreat

/- Contracts: the reference's numbers: which one is the greater. -/
namespace Go.Proofs.YtpkgpkabmechkaaGreat
set_option linter.unusedSimpArgs false
set_option linter.unusedVariables false
open Go.RowKit
open Fl

end Go.Proofs.YtpkgpkabmechkaaGreat
