/- IvalLattice's walk where an interval holds something: where v is in it. -/
import Derived.Test.YtjdccbigaahkeaaW57
namespace Go.Proofs.Ytjdccbigaahkeaa
set_option linter.unusedSimpArgs false
set_option linter.unusedVariables false
open Go.RowKit
open Fl

set_option maxHeartbeats 8000000 in
set_option maxRecDepth 100000 in
theorem lattice_true_00 (a b c d v h1 h2 m1' m2' z1 z2 y1 y2 u1 u2 r1 r2 : Nat) (x3 : Bool) (H : Gives 64 #[(.agg #[.float .f64 a, .float .f64 b]), (.agg #[.float .f64 c, .float .f64 d])] (.agg #[.float .f64 h1, .float .f64 h2])) (M : Gives 66 #[(.agg #[.float .f64 a, .float .f64 b]), (.agg #[.float .f64 c, .float .f64 d])] (.agg #[.float .f64 m1', .float .f64 m2']))
    (i1 : Gives 37 #[(.agg #[.float .f64 a, .float .f64 b]), (.agg #[.float .f64 h1, .float .f64 h2])] (.bool true)) (i2 : Gives 37 #[(.agg #[.float .f64 c, .float .f64 d]), (.agg #[.float .f64 h1, .float .f64 h2])] (.bool true)) (i3 : Gives 37 #[(.agg #[.float .f64 m1', .float .f64 m2']), (.agg #[.float .f64 a, .float .f64 b])] (.bool true)) (i4 : Gives 37 #[(.agg #[.float .f64 m1', .float .f64 m2']), (.agg #[.float .f64 c, .float .f64 d])] (.bool true))
    (e1 : Gives 35 #[(.agg #[.float .f64 m1', .float .f64 m2']), (.float .f64 v)] (.bool x3)) (e2 : Gives 35 #[(.agg #[.float .f64 a, .float .f64 b]), (.float .f64 v)] (.bool true)) (e3 : Gives 35 #[(.agg #[.float .f64 c, .float .f64 d]), (.float .f64 v)] (.bool x3))
    (n1 : Gives 83 #[(.agg #[.float .f64 a, .float .f64 b])] (.bool false)) (k1 : Gives 74 #[(.agg #[.float .f64 a, .float .f64 b]), (.agg #[.float .f64 a, .float .f64 b])] (.agg #[.float .f64 z1, .float .f64 z2])) (k2 : Gives 72 #[(.agg #[.float .f64 a, .float .f64 b]), (.agg #[.float .f64 a, .float .f64 b])] (.agg #[.float .f64 y1, .float .f64 y2])) (k3 : Gives 35 #[(.agg #[.float .f64 y1, .float .f64 y2]), (.float .f64 0)] (.bool true))
    (N1 : Gives 68 #[(.agg #[.float .f64 a, .float .f64 b])] (.agg #[.float .f64 u1, .float .f64 u2])) (N2 : Gives 68 #[(.agg #[.float .f64 u1, .float .f64 u2])] (.agg #[.float .f64 a, .float .f64 b])) (i5 : Gives 37 #[(.agg #[.float .f64 a, .float .f64 b]), (.agg #[.float .f64 a, .float .f64 b])] (.bool true)) (m1 : Gives 62 #[(.agg #[.float .f64 a, .float .f64 b])] (.float .f64 r1)) (m2 : Gives 60 #[(.agg #[.float .f64 a, .float .f64 b])] (.float .f64 r2)) (m3 : fle r1 r2 = true)
    (q1 : feq a 0 = true) (q2 : feq b 0 = true) : Gives 17 #[(.agg #[.float .f64 a, .float .f64 b]), (.agg #[.float .f64 c, .float .f64 d]), (.float .f64 v)] (.bool true) := by
  intro w
  go_enter Try.func17, Try.ntmps17
  go_wp2_with (fail)
  go_region_held3 (fun w' => w'.cell? ⟨w.heap.size, 0, none⟩ = some (.float .f64 a) ∧ w'.cell? ⟨w.heap.size, 1, none⟩ = some (.float .f64 b) ∧ w'.cell? ⟨w.heap.size + 1, 0, none⟩ = some (.float .f64 c) ∧ w'.cell? ⟨w.heap.size + 1, 1, none⟩ = some (.float .f64 d))
    (first | (go_simp; done) | go_keep)
    ((first | (go_at_call 64; (with_reducible refine (H.go _).mono ?_); rintro _ _ ⟨n, rfl, rfl⟩) | (go_at_call 66; (with_reducible refine (M.go _).mono ?_); rintro _ _ ⟨n, rfl, rfl⟩)))
  all_goals
    rename_i hHeld
    clear hHeld
    go_wp2_with (fail)
    refine wp_region_later (by kernel_rfl) (by kernel_rfl) ?_
    repeat (go_big_quiet_step (first | (go_at_call 37; first | (with_reducible exact i1.later _) | (with_reducible exact i2.later _) | (with_reducible exact i3.later _) | (with_reducible exact i4.later _)) | (go_at_call 35; first | (with_reducible exact e1.later _) | (with_reducible exact e2.later _) | (with_reducible exact e3.later _))))
    (refine wpQuiet_nil ?_; rintro _ ⟨nq, rfl⟩)
    go_wp2_with (first | (go_at_call 83; (with_reducible refine (n1.go _).mono ?_); rintro _ _ ⟨n, rfl, rfl⟩) | (go_at_call 74; (with_reducible refine (k1.go _).mono ?_); rintro _ _ ⟨n, rfl, rfl⟩))
    refine wp_region_later (by kernel_rfl) (by kernel_rfl) ?_
    repeat (go_big_quiet_step (first | (go_at_call 72; (with_reducible exact k2.later _)) | (go_at_call 35; first | (with_reducible exact k3.later _)) | (go_at_call 68; first | (with_reducible exact N1.later _) | (with_reducible exact N2.later _)) | (go_at_call 37; (with_reducible exact i5.later _)) | (go_at_call 62; (with_reducible exact m1.later _)) | (go_at_call 60; (with_reducible exact m2.later _))))
    (refine wpQuiet_nil ?_; rintro _ ⟨nq, rfl⟩)
    go_wp2
    go_ret
    exact ⟨rfl, by ((repeat' (first | (with_reducible exact Below.refl _ _) | (with_reducible assumption) | (with_reducible refine Later.belowOf _ ?_ ?_) | (with_reducible refine Below.alloc ?_ ?_ _) | (with_reducible refine Below.setCell ?_ ?_ _) | (with_reducible refine Below.drewN' _ ?_) | (with_reducible refine Below.drew ?_) | (with_reducible exact Ge.le) | go_size))); all_goals (exact Nat.le_succ_of_le Ge.le)⟩

set_option maxHeartbeats 8000000 in
set_option maxRecDepth 100000 in
theorem lattice_true_1 (a b c d v h1 h2 m1' m2' z1 z2 y1 y2 u1 u2 r1 r2 : Nat) (x3 : Bool) (H : Gives 64 #[(.agg #[.float .f64 a, .float .f64 b]), (.agg #[.float .f64 c, .float .f64 d])] (.agg #[.float .f64 h1, .float .f64 h2])) (M : Gives 66 #[(.agg #[.float .f64 a, .float .f64 b]), (.agg #[.float .f64 c, .float .f64 d])] (.agg #[.float .f64 m1', .float .f64 m2']))
    (i1 : Gives 37 #[(.agg #[.float .f64 a, .float .f64 b]), (.agg #[.float .f64 h1, .float .f64 h2])] (.bool true)) (i2 : Gives 37 #[(.agg #[.float .f64 c, .float .f64 d]), (.agg #[.float .f64 h1, .float .f64 h2])] (.bool true)) (i3 : Gives 37 #[(.agg #[.float .f64 m1', .float .f64 m2']), (.agg #[.float .f64 a, .float .f64 b])] (.bool true)) (i4 : Gives 37 #[(.agg #[.float .f64 m1', .float .f64 m2']), (.agg #[.float .f64 c, .float .f64 d])] (.bool true))
    (e1 : Gives 35 #[(.agg #[.float .f64 m1', .float .f64 m2']), (.float .f64 v)] (.bool x3)) (e2 : Gives 35 #[(.agg #[.float .f64 a, .float .f64 b]), (.float .f64 v)] (.bool true)) (e3 : Gives 35 #[(.agg #[.float .f64 c, .float .f64 d]), (.float .f64 v)] (.bool x3))
    (n1 : Gives 83 #[(.agg #[.float .f64 a, .float .f64 b])] (.bool false)) (k1 : Gives 74 #[(.agg #[.float .f64 a, .float .f64 b]), (.agg #[.float .f64 a, .float .f64 b])] (.agg #[.float .f64 z1, .float .f64 z2])) (k2 : Gives 72 #[(.agg #[.float .f64 a, .float .f64 b]), (.agg #[.float .f64 a, .float .f64 b])] (.agg #[.float .f64 y1, .float .f64 y2])) (k3 : Gives 35 #[(.agg #[.float .f64 y1, .float .f64 y2]), (.float .f64 0)] (.bool true))
    (N1 : Gives 68 #[(.agg #[.float .f64 a, .float .f64 b])] (.agg #[.float .f64 u1, .float .f64 u2])) (N2 : Gives 68 #[(.agg #[.float .f64 u1, .float .f64 u2])] (.agg #[.float .f64 a, .float .f64 b])) (i5 : Gives 37 #[(.agg #[.float .f64 a, .float .f64 b]), (.agg #[.float .f64 a, .float .f64 b])] (.bool true)) (m1 : Gives 62 #[(.agg #[.float .f64 a, .float .f64 b])] (.float .f64 r1)) (m2 : Gives 60 #[(.agg #[.float .f64 a, .float .f64 b])] (.float .f64 r2)) (m3 : fle r1 r2 = true)
    (q1 : feq a 0 = false) (k4 : Gives 35 #[(.agg #[.float .f64 z1, .float .f64 z2]), (.float .f64 4607182418800017408)] (.bool true)) : Gives 17 #[(.agg #[.float .f64 a, .float .f64 b]), (.agg #[.float .f64 c, .float .f64 d]), (.float .f64 v)] (.bool true) := by
  intro w
  go_enter Try.func17, Try.ntmps17
  go_wp2_with (fail)
  go_region_held3 (fun w' => w'.cell? ⟨w.heap.size, 0, none⟩ = some (.float .f64 a) ∧ w'.cell? ⟨w.heap.size, 1, none⟩ = some (.float .f64 b) ∧ w'.cell? ⟨w.heap.size + 1, 0, none⟩ = some (.float .f64 c) ∧ w'.cell? ⟨w.heap.size + 1, 1, none⟩ = some (.float .f64 d))
    (first | (go_simp; done) | go_keep)
    ((first | (go_at_call 64; (with_reducible refine (H.go _).mono ?_); rintro _ _ ⟨n, rfl, rfl⟩) | (go_at_call 66; (with_reducible refine (M.go _).mono ?_); rintro _ _ ⟨n, rfl, rfl⟩)))
  all_goals
    rename_i hHeld
    clear hHeld
    go_wp2_with (fail)
    refine wp_region_later (by kernel_rfl) (by kernel_rfl) ?_
    repeat (go_big_quiet_step (first | (go_at_call 37; first | (with_reducible exact i1.later _) | (with_reducible exact i2.later _) | (with_reducible exact i3.later _) | (with_reducible exact i4.later _)) | (go_at_call 35; first | (with_reducible exact e1.later _) | (with_reducible exact e2.later _) | (with_reducible exact e3.later _))))
    (refine wpQuiet_nil ?_; rintro _ ⟨nq, rfl⟩)
    go_wp2_with (first | (go_at_call 83; (with_reducible refine (n1.go _).mono ?_); rintro _ _ ⟨n, rfl, rfl⟩) | (go_at_call 74; (with_reducible refine (k1.go _).mono ?_); rintro _ _ ⟨n, rfl, rfl⟩))
    refine wp_region_later (by kernel_rfl) (by kernel_rfl) ?_
    repeat (go_big_quiet_step (first | (go_at_call 72; (with_reducible exact k2.later _)) | (go_at_call 35; first | (with_reducible exact k3.later _) | (with_reducible exact k4.later _)) | (go_at_call 68; first | (with_reducible exact N1.later _) | (with_reducible exact N2.later _)) | (go_at_call 37; (with_reducible exact i5.later _)) | (go_at_call 62; (with_reducible exact m1.later _)) | (go_at_call 60; (with_reducible exact m2.later _))))
    (refine wpQuiet_nil ?_; rintro _ ⟨nq, rfl⟩)
    go_wp2
    go_ret
    exact ⟨rfl, by ((repeat' (first | (with_reducible exact Below.refl _ _) | (with_reducible assumption) | (with_reducible refine Later.belowOf _ ?_ ?_) | (with_reducible refine Below.alloc ?_ ?_ _) | (with_reducible refine Below.setCell ?_ ?_ _) | (with_reducible refine Below.drewN' _ ?_) | (with_reducible refine Below.drew ?_) | (with_reducible exact Ge.le) | go_size))); all_goals (exact Nat.le_succ_of_le Ge.le)⟩

set_option maxHeartbeats 8000000 in
set_option maxRecDepth 100000 in
theorem lattice_true_01 (a b c d v h1 h2 m1' m2' z1 z2 y1 y2 u1 u2 r1 r2 : Nat) (x3 : Bool) (H : Gives 64 #[(.agg #[.float .f64 a, .float .f64 b]), (.agg #[.float .f64 c, .float .f64 d])] (.agg #[.float .f64 h1, .float .f64 h2])) (M : Gives 66 #[(.agg #[.float .f64 a, .float .f64 b]), (.agg #[.float .f64 c, .float .f64 d])] (.agg #[.float .f64 m1', .float .f64 m2']))
    (i1 : Gives 37 #[(.agg #[.float .f64 a, .float .f64 b]), (.agg #[.float .f64 h1, .float .f64 h2])] (.bool true)) (i2 : Gives 37 #[(.agg #[.float .f64 c, .float .f64 d]), (.agg #[.float .f64 h1, .float .f64 h2])] (.bool true)) (i3 : Gives 37 #[(.agg #[.float .f64 m1', .float .f64 m2']), (.agg #[.float .f64 a, .float .f64 b])] (.bool true)) (i4 : Gives 37 #[(.agg #[.float .f64 m1', .float .f64 m2']), (.agg #[.float .f64 c, .float .f64 d])] (.bool true))
    (e1 : Gives 35 #[(.agg #[.float .f64 m1', .float .f64 m2']), (.float .f64 v)] (.bool x3)) (e2 : Gives 35 #[(.agg #[.float .f64 a, .float .f64 b]), (.float .f64 v)] (.bool true)) (e3 : Gives 35 #[(.agg #[.float .f64 c, .float .f64 d]), (.float .f64 v)] (.bool x3))
    (n1 : Gives 83 #[(.agg #[.float .f64 a, .float .f64 b])] (.bool false)) (k1 : Gives 74 #[(.agg #[.float .f64 a, .float .f64 b]), (.agg #[.float .f64 a, .float .f64 b])] (.agg #[.float .f64 z1, .float .f64 z2])) (k2 : Gives 72 #[(.agg #[.float .f64 a, .float .f64 b]), (.agg #[.float .f64 a, .float .f64 b])] (.agg #[.float .f64 y1, .float .f64 y2])) (k3 : Gives 35 #[(.agg #[.float .f64 y1, .float .f64 y2]), (.float .f64 0)] (.bool true))
    (N1 : Gives 68 #[(.agg #[.float .f64 a, .float .f64 b])] (.agg #[.float .f64 u1, .float .f64 u2])) (N2 : Gives 68 #[(.agg #[.float .f64 u1, .float .f64 u2])] (.agg #[.float .f64 a, .float .f64 b])) (i5 : Gives 37 #[(.agg #[.float .f64 a, .float .f64 b]), (.agg #[.float .f64 a, .float .f64 b])] (.bool true)) (m1 : Gives 62 #[(.agg #[.float .f64 a, .float .f64 b])] (.float .f64 r1)) (m2 : Gives 60 #[(.agg #[.float .f64 a, .float .f64 b])] (.float .f64 r2)) (m3 : fle r1 r2 = true)
    (q1 : feq a 0 = true) (q2 : feq b 0 = false) (k4 : Gives 35 #[(.agg #[.float .f64 z1, .float .f64 z2]), (.float .f64 4607182418800017408)] (.bool true)) : Gives 17 #[(.agg #[.float .f64 a, .float .f64 b]), (.agg #[.float .f64 c, .float .f64 d]), (.float .f64 v)] (.bool true) := by
  intro w
  go_enter Try.func17, Try.ntmps17
  go_wp2_with (fail)
  go_region_held3 (fun w' => w'.cell? ⟨w.heap.size, 0, none⟩ = some (.float .f64 a) ∧ w'.cell? ⟨w.heap.size, 1, none⟩ = some (.float .f64 b) ∧ w'.cell? ⟨w.heap.size + 1, 0, none⟩ = some (.float .f64 c) ∧ w'.cell? ⟨w.heap.size + 1, 1, none⟩ = some (.float .f64 d))
    (first | (go_simp; done) | go_keep)
    ((first | (go_at_call 64; (with_reducible refine (H.go _).mono ?_); rintro _ _ ⟨n, rfl, rfl⟩) | (go_at_call 66; (with_reducible refine (M.go _).mono ?_); rintro _ _ ⟨n, rfl, rfl⟩)))
  all_goals
    rename_i hHeld
    clear hHeld
    go_wp2_with (fail)
    refine wp_region_later (by kernel_rfl) (by kernel_rfl) ?_
    repeat (go_big_quiet_step (first | (go_at_call 37; first | (with_reducible exact i1.later _) | (with_reducible exact i2.later _) | (with_reducible exact i3.later _) | (with_reducible exact i4.later _)) | (go_at_call 35; first | (with_reducible exact e1.later _) | (with_reducible exact e2.later _) | (with_reducible exact e3.later _))))
    (refine wpQuiet_nil ?_; rintro _ ⟨nq, rfl⟩)
    go_wp2_with (first | (go_at_call 83; (with_reducible refine (n1.go _).mono ?_); rintro _ _ ⟨n, rfl, rfl⟩) | (go_at_call 74; (with_reducible refine (k1.go _).mono ?_); rintro _ _ ⟨n, rfl, rfl⟩))
    refine wp_region_later (by kernel_rfl) (by kernel_rfl) ?_
    repeat (go_big_quiet_step (first | (go_at_call 72; (with_reducible exact k2.later _)) | (go_at_call 35; first | (with_reducible exact k3.later _) | (with_reducible exact k4.later _)) | (go_at_call 68; first | (with_reducible exact N1.later _) | (with_reducible exact N2.later _)) | (go_at_call 37; (with_reducible exact i5.later _)) | (go_at_call 62; (with_reducible exact m1.later _)) | (go_at_call 60; (with_reducible exact m2.later _))))
    (refine wpQuiet_nil ?_; rintro _ ⟨nq, rfl⟩)
    go_wp2
    go_ret
    exact ⟨rfl, by ((repeat' (first | (with_reducible exact Below.refl _ _) | (with_reducible assumption) | (with_reducible refine Later.belowOf _ ?_ ?_) | (with_reducible refine Below.alloc ?_ ?_ _) | (with_reducible refine Below.setCell ?_ ?_ _) | (with_reducible refine Below.drewN' _ ?_) | (with_reducible refine Below.drew ?_) | (with_reducible exact Ge.le) | go_size))); all_goals (exact Nat.le_succ_of_le Ge.le)⟩

end Go.Proofs.Ytjdccbigaahkeaa
