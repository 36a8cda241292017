/- Contracts: the reference's quotients by both parts, walked. -/
import Derived.Test.YtpkgpkabmechkaaGreatPqW53x
namespace Go.Proofs.YtpkgpkabmechkaaGreat
set_option linter.unusedSimpArgs false
set_option linter.unusedVariables false
open Go.RowKit
open Fl

end Go.Proofs.YtpkgpkabmechkaaGreat
