/- Contracts: the reference's quotients are the same. -/
import Derived.Test.YtpkgpkabmechkaaGreatPqW45
import Derived.Test.YtpkgpkabmechkaaGreatPqW53x
import Derived.Test.YtpkgpkabmechkaaGreatPqW54
import Derived.Test.YtpkgpkabmechkaaGreatPqW51
namespace Go.Proofs.YtpkgpkabmechkaaGreat
set_option linter.unusedSimpArgs false
set_option linter.unusedVariables false
open Go.RowKit
open Fl

theorem hullI_lt {a b c d : Nat} (ha : a < 18446744073709551616) (hb : b < 18446744073709551616) (hc : c < 18446744073709551616) (hd : d < 18446744073709551616) : (hullI a b c d).1 < 18446744073709551616 ∧ (hullI a b c d).2 < 18446744073709551616 := by
  unfold hullI
  split
  · exact ⟨by decide, by decide⟩
  · split
    · exact ⟨hc, hd⟩
    · split
      · exact ⟨ha, hb⟩
      · exact ⟨minF_lt ha hc, maxF_lt hb hd⟩

section
variable {a b c d : Nat}
end

end Go.Proofs.YtpkgpkabmechkaaGreat

/- Contracts: the reference's powers of intervals, of whatever exponent. -/
namespace Go.Proofs.YtpkgpkabmechkaaGreat
set_option linter.unusedSimpArgs false
set_option linter.unusedVariables false
open Go.RowKit
open Fl

end Go.Proofs.YtpkgpkabmechkaaGreat
