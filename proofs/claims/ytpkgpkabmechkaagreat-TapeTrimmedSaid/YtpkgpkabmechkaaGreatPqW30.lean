/- Contracts: the reference's rounding, whole. -/
import Derived.Test.YtpkgpkabmechkaaGreatPqW27
import Derived.Test.YtpkgpkabmechkaaGreatPqFlC
namespace Go.Proofs.YtpkgpkabmechkaaGreat
set_option linter.unusedSimpArgs false
set_option linter.unusedVariables false
open Go.RowKit
open Fl

end Go.Proofs.YtpkgpkabmechkaaGreat
