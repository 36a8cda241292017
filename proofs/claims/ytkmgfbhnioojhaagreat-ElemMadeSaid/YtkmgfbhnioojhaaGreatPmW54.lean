/- Contracts: the reference's quotients by both parts, walked. -/
import Derived.Test.YtkmgfbhnioojhaaGreatPmW53x
namespace Go.Proofs.YtkmgfbhnioojhaaGreat
set_option linter.unusedSimpArgs false
set_option linter.unusedVariables false
open Go.RowKit
open Fl

set_option maxHeartbeats 8000000 in
theorem divref_both (a b c d a' b' c' d' p1 p2 o1 o2 s1 s2 t1 t2 : Nat) (nx : Gives 15 #[(.agg #[.float .f64 a, .float .f64 b])] (.bool false)) (ny : Gives 15 #[(.agg #[.float .f64 c, .float .f64 d])] (.bool false)) (h1 : flt 0 d = true) (h2 : flt c 0 = true)
    (V1 : Gives 115 #[(.agg #[.float .f64 a, .float .f64 b]), (.agg #[.float .f64 c, .float .f64 d])] (.agg #[.float .f64 p1, .float .f64 p2])) (U1 : Gives 114 #[(.agg #[.float .f64 9218868437227405312, .float .f64 18442240474082181120]), (.agg #[.float .f64 p1, .float .f64 p2])] (.agg #[.float .f64 o1, .float .f64 o2]))
    (N1 : Gives 43 #[(.agg #[.float .f64 a, .float .f64 b])] (.agg #[.float .f64 a', .float .f64 b'])) (N2 : Gives 43 #[(.agg #[.float .f64 c, .float .f64 d])] (.agg #[.float .f64 c', .float .f64 d']))
    (V2 : Gives 115 #[(.agg #[.float .f64 a', .float .f64 b']), (.agg #[.float .f64 c', .float .f64 d'])] (.agg #[.float .f64 s1, .float .f64 s2])) (U2 : Gives 114 #[(.agg #[.float .f64 o1, .float .f64 o2]), (.agg #[.float .f64 s1, .float .f64 s2])] (.agg #[.float .f64 t1, .float .f64 t2])) :
    Gives 45 #[(.agg #[.float .f64 a, .float .f64 b]), (.agg #[.float .f64 c, .float .f64 d])] (.agg #[.float .f64 t1, .float .f64 t2]) := by
  intro w
  go_enter Tryz.func45, Tryz.ntmps45
  go_wp2_with (go_at_call 15; first | ((with_reducible refine (nx.go _).mono ?_); rintro _ _ ⟨n, rfl, rfl⟩) | ((with_reducible refine (ny.go _).mono ?_); rintro _ _ ⟨n, rfl, rfl⟩))
  go_at_call 17
  refine (empty2_any.go _).mono ?_
  rintro _ _ ⟨nE, rfl, rfl⟩
  go_upto_if 16 with (fail)
  go_cut [21] (fun v wc => ∃ n : Later (nE.val.alloc (Obj.cells #[(.float .f64 o1), (.float .f64 o2)] 24)), wc = n.val)
  case first =>
    go_wp2_with (fail)
    go_region_with (first | (go_at_call 115; (with_reducible refine (V1.go _).mono ?_); rintro _ _ ⟨n, rfl, rfl⟩) | (go_at_call 114; (with_reducible refine (U1.go _).mono ?_); rintro _ _ ⟨n, rfl, rfl⟩))
    all_goals
      generalize hw : (n.val.setCell ⟨nE.val.heap.size, 0, none⟩ (.float .f64 o1)).setCell ⟨nE.val.heap.size, 1, none⟩ (.float .f64 o2) = wz
      go_wp2
      go_meet
      case rel => exact hw ▸ two_cells0 (V := nE.val) (l := 9218868437227405312) (q := 18442240474082181120) o1 o2 (by (repeat' first | (with_reducible first | exact Below.refl _ _ | assumption | refine Later.belowOf _ ?_ ?_ | refine Below.alloc ?_ ?_ _ | refine Below.setCell ?_ ?_ _ | refine Below.drewN' _ ?_ | refine Below.drew ?_ | exact Ge.le) | go_size))
  obtain ⟨m, rfl⟩ := hcut
  clear V1 U1
  go_wp2_with (fail)
  go_region_with (first | (go_at_call 43; first | ((with_reducible refine (N1.go _).mono ?_); rintro _ _ ⟨n, rfl, rfl⟩) | ((with_reducible refine (N2.go _).mono ?_); rintro _ _ ⟨n, rfl, rfl⟩)) | (go_at_call 115; (with_reducible refine (V2.go _).mono ?_); rintro _ _ ⟨n, rfl, rfl⟩) | (go_at_call 114; (with_reducible refine (U2.go _).mono ?_); rintro _ _ ⟨n, rfl, rfl⟩))
  all_goals
    go_wp2
    go_returns
    exact ⟨rfl, by (repeat' first | (with_reducible first | exact Below.refl _ _ | assumption | refine Later.belowOf _ ?_ ?_ | refine Below.alloc ?_ ?_ _ | refine Below.setCell ?_ ?_ _ | refine Below.drewN' _ ?_ | refine Below.drew ?_ | exact Ge.le) | go_size)⟩
end Go.Proofs.YtkmgfbhnioojhaaGreat
