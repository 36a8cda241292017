/- Contracts: the law's values of a tape's operation, kind by kind (printed by wip/genlaw.py). -/
import Derived.Test.YtpkgpkabmechkaaGreatPqV6x
namespace Go.Proofs.YtpkgpkabmechkaaGreat
set_option linter.unusedSimpArgs false
set_option linter.unusedVariables false
open Go.RowKit
open Fl

end Go.Proofs.YtpkgpkabmechkaaGreat
