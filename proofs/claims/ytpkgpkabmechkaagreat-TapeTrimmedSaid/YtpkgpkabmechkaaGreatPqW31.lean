/- Contracts: the reference's operations: rounded parts; what is finite. -/
import Derived.Test.YtpkgpkabmechkaaGreatPqW30
import Derived.Test.YtpkgpkabmechkaaGreatPqW15
import Derived.Test.YtpkgpkabmechkaaGreatPqFlC
namespace Go.Proofs.YtpkgpkabmechkaaGreat
set_option linter.unusedSimpArgs false
set_option linter.unusedVariables false
open Go.RowKit
open Fl

@[go_sem] theorem build_ex (sa sb : Bool) (A B : Option Addr) (ak ac bk bc : Nat) (ea eb : Int) (w : World) : (Instr.build 167 #[(0, (.agg #[.bool sa, (.slice A ak ac), .int .i64 ea])), (1, (.agg #[.bool sb, (.slice B bk bc), .int .i64 eb]))]).run Tryz.prog w = .ok (.agg #[.bool sa, (.slice A ak ac), .int .i64 ea, .bool sb, (.slice B bk bc), .int .i64 eb, .bool false]) w := run_build w 167 _ _ (by kernel_rfl)
@[go_sem] theorem build_ex_root (sa : Bool) (A : Option Addr) (ak ac : Nat) (ea : Int) (w : World) : (Instr.build 167 #[(0, (.agg #[.bool sa, (.slice A ak ac), .int .i64 ea])), (2, .bool true)]).run Tryz.prog w = .ok (.agg #[.bool sa, (.slice A ak ac), .int .i64 ea, .bool false, (.slice none 0 0), .int .i64 0, .bool true]) w := run_build w 167 _ _ (by kernel_rfl)

end Go.Proofs.YtpkgpkabmechkaaGreat
