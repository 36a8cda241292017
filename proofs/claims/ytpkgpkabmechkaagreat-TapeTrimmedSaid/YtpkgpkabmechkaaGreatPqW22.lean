/- Contracts: the reference's whole numbers of any length to the left; their bits. -/
import Derived.Test.YtpkgpkabmechkaaGreatPqW18
import Derived.Test.YtpkgpkabmechkaaGreatPqFlC
namespace Go.Proofs.YtpkgpkabmechkaaGreat
set_option linter.unusedSimpArgs false
set_option linter.unusedVariables false
open Go.RowKit
open Fl

end Go.Proofs.YtpkgpkabmechkaaGreat

/- Contracts: the reference's numbers M 2^E: their sign; brought to one exponent; products. -/
namespace Go.Proofs.YtpkgpkabmechkaaGreat
set_option linter.unusedSimpArgs false
set_option linter.unusedVariables false
open Go.RowKit
open Fl

/-! ### Numbers -/

@[go_sem] theorem build_nm (s : Bool) (A : Option Addr) (k c : Nat) (e : Int) (w : World) : (Instr.build 29 #[(0, .bool s), (1, .slice A k c), (2, .int .i64 e)]).run Tryz.prog w = .ok (.agg #[.bool s, (.slice A k c), .int .i64 e]) w := run_build w 29 _ _ (by kernel_rfl)
@[go_sem] theorem build_nm0 (w : World) : (Instr.build 29 #[]).run Tryz.prog w = .ok (.agg #[.bool false, (.slice none 0 0), .int .i64 0]) w := run_build w 29 _ _ (by kernel_rfl)

/-! ### What a store into a cell that is no digit leaves -/

def notU32 (c : Option Value) : Bool := match c with | some (.int .u32 _) => false | _ => true
@[go_sem] theorem notU32_bool (b : Bool) : notU32 (some (.bool b)) = true := rfl
@[go_sem] theorem notU32_slice (A : Option Addr) (k c : Nat) : notU32 (some (.slice A k c)) = true := rfl
@[go_sem] theorem notU32_i64 (e : Int) : notU32 (some (.int .i64 e)) = true := rfl
@[go_sem] theorem notU32_u64 (e : Int) : notU32 (some (.int .u64 e)) = true := rfl
@[go_sem] theorem notU32_float (e : Nat) : notU32 (some (.float .f64 e)) = true := rfl
end Go.Proofs.YtpkgpkabmechkaaGreat

/- Contracts: the reference's numbers: products, sums. -/
namespace Go.Proofs.YtpkgpkabmechkaaGreat
set_option linter.unusedSimpArgs false
set_option linter.unusedVariables false
open Go.RowKit
open Fl

end Go.Proofs.YtpkgpkabmechkaaGreat
