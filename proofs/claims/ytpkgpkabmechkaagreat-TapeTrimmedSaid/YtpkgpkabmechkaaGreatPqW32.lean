/- Contracts: the reference's sums, differences, products. -/
import Derived.Test.YtpkgpkabmechkaaGreatPqW31
import Derived.Test.YtpkgpkabmechkaaGreatPqEnd
namespace Go.Proofs.YtpkgpkabmechkaaGreat
set_option linter.unusedSimpArgs false
set_option linter.unusedVariables false
open Go.RowKit
open Fl

end Go.Proofs.YtpkgpkabmechkaaGreat

/- Contracts: the reference's differences, products, quotients, roots. -/
namespace Go.Proofs.YtpkgpkabmechkaaGreat
set_option linter.unusedSimpArgs false
set_option linter.unusedVariables false
open Go.RowKit
open Fl

end Go.Proofs.YtpkgpkabmechkaaGreat

/- Contracts: the reference's quotients, roots. -/
namespace Go.Proofs.YtpkgpkabmechkaaGreat
set_option linter.unusedSimpArgs false
set_option linter.unusedVariables false
open Go.RowKit
open Fl

end Go.Proofs.YtpkgpkabmechkaaGreat

/- Words for the laws of ulp: the same value, or no numbers both. -/
namespace Go.Proofs.YtpkgpkabmechkaaGreat
set_option linter.unusedSimpArgs false
set_option linter.unusedVariables false
open Go.ChangeShapes Go.WideShapes Go.ChangeAt Go.RowKit Go.Joins
open Fl

/-! ### Parts -/

def eqP (a : Bool) (b c : Int) (d : Bool) (e f : Int) : Bool := (a == d) && ((b == e) && (c == f))
@[go_sem high] theorem eq_pa (a : Bool) (b c : Int) (d : Bool) (e f : Int) (w : World) : (Op.equalIn 10000 155 (.agg #[.bool a, .int .u64 b, .int .i64 c]) (.agg #[.bool d, .int .u64 e, .int .i64 f])).run Tryz.prog w = .ok (eqP a b c d e f) w := by
  have u1 := Tryz.underlying4
  have u2 := Tryz.underlying127
  have u3 := Tryz.underlying3
  have a1 := Tryz.isAgg4
  have a2 := Tryz.isAgg127
  have a3 := Tryz.isAgg3
  have z1 := Tryz.sizeOf4
  have z2 := Tryz.sizeOf127
  have z3 := Tryz.sizeOf3
  have hS : Tryz.prog.underlying 155 = some (.struct (Tryz.prog.fieldsOf 155)) := by kernel_rfl
  have hp : Tryz.prog.stoodInHeld 155 = false := by kernel_rfl
  rw [show (10000 : Nat) = 9999 + 1 from rfl, run_equalIn_agg w 9999 155 _ _ hS hp]
  simp only [Program.fieldsOf, Tryz.underlying155]
  unfold eqP
  go_simp
  by_cases h1 : a = d <;> by_cases h2 : b = e <;> by_cases h3 : c = f <;> simp [h1, h2, h3]

section
variable {H : Type} {enc : TypeId × Value → H} {W : World} {base : Nat} {sp : Nat → Bool} {held : Bool} {v : Value} {d : DataW H} {ps : List MemPlace}
end
end Go.Proofs.YtpkgpkabmechkaaGreat
