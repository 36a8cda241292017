/- Contracts: the reference's quotients by what is below nought, walked. -/
import Derived.Test.YtpkgpkabmechkaaGreatW47
namespace Go.Proofs.YtpkgpkabmechkaaGreat
set_option linter.unusedSimpArgs false
set_option linter.unusedVariables false
open Go.RowKit
open Fl

set_option maxHeartbeats 8000000 in
theorem divref_down (a b c d a' b' c' d' p1 p2 o1 o2 : Nat) (nx : Gives 68 #[(.agg #[.float .f64 a, .float .f64 b])] (.bool false)) (ny : Gives 68 #[(.agg #[.float .f64 c, .float .f64 d])] (.bool false)) (h1 : flt 0 d = false) (h2 : flt c 0 = true)
    (N1 : Gives 20 #[(.agg #[.float .f64 a, .float .f64 b])] (.agg #[.float .f64 a', .float .f64 b'])) (N2 : Gives 20 #[(.agg #[.float .f64 c, .float .f64 d])] (.agg #[.float .f64 c', .float .f64 d']))
    (V1 : Gives 72 #[(.agg #[.float .f64 a', .float .f64 b']), (.agg #[.float .f64 c', .float .f64 d'])] (.agg #[.float .f64 p1, .float .f64 p2])) (U1 : Gives 71 #[(.agg #[.float .f64 9218868437227405312, .float .f64 18442240474082181120]), (.agg #[.float .f64 p1, .float .f64 p2])] (.agg #[.float .f64 o1, .float .f64 o2])) :
    Gives 23 #[(.agg #[.float .f64 a, .float .f64 b]), (.agg #[.float .f64 c, .float .f64 d])] (.agg #[.float .f64 o1, .float .f64 o2]) := by
  intro w
  go_enter Tryz.func23, Tryz.ntmps23
  go_wp2_with (go_at_call 68; first | ((with_reducible refine (nx.go _).mono ?_); rintro _ _ ⟨n, rfl, rfl⟩) | ((with_reducible refine (ny.go _).mono ?_); rintro _ _ ⟨n, rfl, rfl⟩))
  go_at_call 65
  refine (empty2_any.go _).mono ?_
  rintro _ _ ⟨nE, rfl, rfl⟩
  go_wp2_with (fail)
  go_region_with (first | (go_at_call 20; first | ((with_reducible refine (N1.go _).mono ?_); rintro _ _ ⟨n, rfl, rfl⟩) | ((with_reducible refine (N2.go _).mono ?_); rintro _ _ ⟨n, rfl, rfl⟩)) | (go_at_call 72; (with_reducible refine (V1.go _).mono ?_); rintro _ _ ⟨n, rfl, rfl⟩) | (go_at_call 71; (with_reducible refine (U1.go _).mono ?_); rintro _ _ ⟨n, rfl, rfl⟩))
  all_goals
    go_wp2
    go_returns
    exact ⟨rfl, by (repeat' (first | (with_reducible exact Below.refl _ _) | (with_reducible assumption) | (with_reducible refine Later.belowOf _ ?_ ?_) | (with_reducible refine Below.alloc ?_ ?_ _) | (with_reducible refine Below.setCell ?_ ?_ _) | (with_reducible refine Below.drewN' _ ?_) | (with_reducible refine Below.drew ?_) | (with_reducible exact Ge.le) | go_size))⟩

end Go.Proofs.YtpkgpkabmechkaaGreat
