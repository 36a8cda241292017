/- Contracts: the reference's whole numbers of any length: read, trimmed, made of 64 bits. -/
import Derived.Test.YtpkgpkabmechkaaGreatPqW1
import Derived.Test.YtpkgpkabmechkaaGreatPqFlC
import Derived.OwnWalk
import Derived.Deep.LoopGhost
import Derived.LoopTactic
import Derived.Lib.SmallJoins
import Derived.IntWalk
namespace Go.Proofs.YtpkgpkabmechkaaGreat
set_option linter.unusedSimpArgs false
set_option linter.unusedVariables false
open Go.RowKit
open Fl

end Go.Proofs.YtpkgpkabmechkaaGreat

/- Contracts: the reference's sums and differences of whole numbers of any length. -/
namespace Go.Proofs.YtpkgpkabmechkaaGreat
set_option linter.unusedSimpArgs false
set_option linter.unusedVariables false
open Go.RowKit
open Fl

end Go.Proofs.YtpkgpkabmechkaaGreat

/- Contracts: the reference's differences of whole numbers of any length; which one is the greater. -/
namespace Go.Proofs.YtpkgpkabmechkaaGreat
set_option linter.unusedSimpArgs false
set_option linter.unusedVariables false
open Go.RowKit
open Fl

end Go.Proofs.YtpkgpkabmechkaaGreat

/- Contracts: the reference's products of whole numbers of any length. -/
namespace Go.Proofs.YtpkgpkabmechkaaGreat
set_option linter.unusedSimpArgs false
set_option linter.unusedVariables false
open Go.RowKit
open Fl

theorem getD_set_ne {l : List Nat} {i j d : Nat} (h : i ≠ j) : (l.set i d).getD j 0 = l.getD j 0 := by
  simp only [List.getD_eq_getElem?_getD, List.getElem?_set]
  rw [if_neg h]

end Go.Proofs.YtpkgpkabmechkaaGreat
