/- Contracts: the law's slope, kind by kind (printed by wip/genslope.py). -/
import Derived.Test.YtpkgpkabmechkaaGreatPqG1
namespace Go.Proofs.YtpkgpkabmechkaaGreat
set_option linter.unusedSimpArgs false
set_option linter.unusedVariables false
open Go.RowKit
open Fl

end Go.Proofs.YtpkgpkabmechkaaGreat
