/- Contracts: tape.Eval. -/
import Derived.Test.YtpkgpkabmechkaaGreatPgV3
namespace Go.Proofs.YtpkgpkabmechkaaGreat
set_option linter.unusedSimpArgs false
set_option linter.unusedVariables false
open Go.RowKit
open Fl

def outF (ops : Nat → OpT) (outs : Nat → Int) (xs : Nat → Nat × Nat) (j : Nat) : Nat × Nat := evF ops xs (outs j).toNat

theorem start_zero {V : Int} {nO nN nx : Nat} {ops : Nat → OpT} {outs : Nat → Int} {xs : Nat → Nat × Nat} (h : startE V nO ops nN outs xs nx = 0) : TapeR V nO ops nN outs ∧ (nx : Int) = V ∧ ∀ j, j < nx → noneB (xs j).1 (xs j).2 = false := by
  unfold startE at h
  by_cases hT : TapeR V nO ops nN outs
  · rw [if_pos hT] at h
    by_cases hl : (nx : Int) = V ∧ anyB xs nx (fun x => noneB x.1 x.2) = false
    · refine ⟨hT, hl.1, fun j hj => ?_⟩
      rcases fot (noneB (xs j).1 (xs j).2) with h2 | h2
      · exact h2
      · have := anyB_iff (xs := xs) (n := nx) (bad := fun x => noneB x.1 x.2) |>.2 ⟨j, hj, h2⟩
        rw [hl.2] at this; cases this
    · rw [if_neg hl] at h; cases h
  · rw [if_neg hT] at h; cases h

theorem cellB {W wr : World} {B b o : Nat} {v : Value} (hb : Below B W wr) (h : W.cell? ⟨b, o, none⟩ = some v) (hB : b < B) : wr.cell? ⟨b, o, none⟩ = some v := (hb.cell (p := ⟨b, o, none⟩) hB).trans h

end Go.Proofs.YtpkgpkabmechkaaGreat

/- Contracts: the reference's values of a tape's operations up to roots (printed by wip/genlaw.py). -/
namespace Go.Proofs.YtpkgpkabmechkaaGreat
set_option linter.unusedSimpArgs false
set_option linter.unusedVariables false
open Go.RowKit
open Fl

set_option maxHeartbeats 4000000 in
set_option maxRecDepth 100000 in
theorem basic_1 (w : World) (A B N : Int) (lo hi : Nat) (vx : Value) (a1 a2 b1 b2 : Nat) : Calls Tryz.prog 168 #[(.agg #[.int .i64 1, .int .i64 A, .int .i64 B, .int .i64 N, .float .f64 lo, .float .f64 hi]), (.agg #[.float .f64 a1, .float .f64 a2]), (.agg #[.float .f64 b1, .float .f64 b2]), vx] w (Val2 w (lo, hi) true) := by
  go_enter Tryz.func168, Tryz.ntmps168
  go_wp2
  exact bodyPost_ret (v := .tuple #[(.agg #[.float .f64 lo, .float .f64 hi]), .bool true]) (by simp [results, Tryz.results168, go_sem]) rfl (val2_mk rfl (by (repeat' first | (with_reducible first | exact Below.refl _ _ | assumption | refine Later.belowOf _ ?_ ?_ | refine Below.alloc ?_ ?_ _ | refine Below.setCell ?_ ?_ _ | refine Below.drewN' _ ?_ | refine Below.drew ?_ | exact Ge.le) | go_size)))

set_option maxHeartbeats 4000000 in
set_option maxRecDepth 100000 in
theorem basic_2 (w : World) (A B : Int) (lo hi : Nat) (i bx ox cx nx x1 x2 a1 a2 b1 b2 : Nat) (hi2 : i < nx) (c0 : w.cell? ⟨bx, ox + i * 2, none⟩ = some (.float .f64 x1)) (c1 : w.cell? ⟨bx, ox + i * 2 + 1, none⟩ = some (.float .f64 x2)) : Calls Tryz.prog 168 #[(.agg #[.int .i64 2, .int .i64 A, .int .i64 B, .int .i64 i, .float .f64 lo, .float .f64 hi]), (.agg #[.float .f64 a1, .float .f64 a2]), (.agg #[.float .f64 b1, .float .f64 b2]), .slice (some ⟨bx, ox, none⟩) nx cx] w (Val2 w (x1, x2) true) := by
  haveI gx : Ge w (bx + 1) := ⟨World.block_lt_of_cell? w _ c0⟩
  have i0 : (0 : Int) ≤ (i : Int) := by omega
  have i1 : (i : Int) < (nx : Int) := by omega
  go_enter Tryz.func168, Tryz.ntmps168
  go_wp2
  exact bodyPost_ret (v := .tuple #[(.agg #[.float .f64 x1, .float .f64 x2]), .bool true]) (by simp [results, Tryz.results168, go_sem]) rfl (val2_mk rfl (by (repeat' first | (with_reducible first | exact Below.refl _ _ | assumption | refine Later.belowOf _ ?_ ?_ | refine Below.alloc ?_ ?_ _ | refine Below.setCell ?_ ?_ _ | refine Below.drewN' _ ?_ | refine Below.drew ?_ | exact Ge.le) | go_size)))

set_option maxHeartbeats 4000000 in
set_option maxRecDepth 100000 in
theorem basic_3 (w : World) (A B N : Int) (lo hi : Nat) (vx : Value) (a1 a2 b1 b2 : Nat) (r1 r2 : Nat) (C : Gives 30 #[(.agg #[.float .f64 a1, .float .f64 a2]), (.agg #[.float .f64 b1, .float .f64 b2])] (.agg #[.float .f64 r1, .float .f64 r2])) : Calls Tryz.prog 168 #[(.agg #[.int .i64 3, .int .i64 A, .int .i64 B, .int .i64 N, .float .f64 lo, .float .f64 hi]), (.agg #[.float .f64 a1, .float .f64 a2]), (.agg #[.float .f64 b1, .float .f64 b2]), vx] w (Val2 w (r1, r2) true) := by
  go_enter Tryz.func168, Tryz.ntmps168
  go_wp2_with (first | (go_at_call 30; (with_reducible refine (C.go _).mono ?_); rintro _ _ ⟨nn, rfl, rfl⟩))
  exact bodyPost_ret (v := .tuple #[(.agg #[.float .f64 r1, .float .f64 r2]), .bool true]) (by simp [results, Tryz.results168, go_sem]) rfl (val2_mk rfl (by (repeat' first | (with_reducible first | exact Below.refl _ _ | assumption | refine Later.belowOf _ ?_ ?_ | refine Below.alloc ?_ ?_ _ | refine Below.setCell ?_ ?_ _ | refine Below.drewN' _ ?_ | refine Below.drew ?_ | exact Ge.le) | go_size)))

set_option maxHeartbeats 4000000 in
set_option maxRecDepth 100000 in
theorem basic_4 (w : World) (A B N : Int) (lo hi : Nat) (vx : Value) (a1 a2 b1 b2 : Nat) (r1 r2 : Nat) (C : Gives 28 #[(.agg #[.float .f64 a1, .float .f64 a2]), (.agg #[.float .f64 b1, .float .f64 b2])] (.agg #[.float .f64 r1, .float .f64 r2])) : Calls Tryz.prog 168 #[(.agg #[.int .i64 4, .int .i64 A, .int .i64 B, .int .i64 N, .float .f64 lo, .float .f64 hi]), (.agg #[.float .f64 a1, .float .f64 a2]), (.agg #[.float .f64 b1, .float .f64 b2]), vx] w (Val2 w (r1, r2) true) := by
  go_enter Tryz.func168, Tryz.ntmps168
  go_wp2_with (first | (go_at_call 28; (with_reducible refine (C.go _).mono ?_); rintro _ _ ⟨nn, rfl, rfl⟩))
  exact bodyPost_ret (v := .tuple #[(.agg #[.float .f64 r1, .float .f64 r2]), .bool true]) (by simp [results, Tryz.results168, go_sem]) rfl (val2_mk rfl (by (repeat' first | (with_reducible first | exact Below.refl _ _ | assumption | refine Later.belowOf _ ?_ ?_ | refine Below.alloc ?_ ?_ _ | refine Below.setCell ?_ ?_ _ | refine Below.drewN' _ ?_ | refine Below.drew ?_ | exact Ge.le) | go_size)))

set_option maxHeartbeats 4000000 in
set_option maxRecDepth 100000 in
theorem basic_5 (w : World) (A B N : Int) (lo hi : Nat) (vx : Value) (a1 a2 b1 b2 : Nat) (r1 r2 : Nat) (C : Gives 27 #[(.agg #[.float .f64 a1, .float .f64 a2]), (.agg #[.float .f64 b1, .float .f64 b2])] (.agg #[.float .f64 r1, .float .f64 r2])) : Calls Tryz.prog 168 #[(.agg #[.int .i64 5, .int .i64 A, .int .i64 B, .int .i64 N, .float .f64 lo, .float .f64 hi]), (.agg #[.float .f64 a1, .float .f64 a2]), (.agg #[.float .f64 b1, .float .f64 b2]), vx] w (Val2 w (r1, r2) true) := by
  go_enter Tryz.func168, Tryz.ntmps168
  go_wp2_with (first | (go_at_call 27; (with_reducible refine (C.go _).mono ?_); rintro _ _ ⟨nn, rfl, rfl⟩))
  exact bodyPost_ret (v := .tuple #[(.agg #[.float .f64 r1, .float .f64 r2]), .bool true]) (by simp [results, Tryz.results168, go_sem]) rfl (val2_mk rfl (by (repeat' first | (with_reducible first | exact Below.refl _ _ | assumption | refine Later.belowOf _ ?_ ?_ | refine Below.alloc ?_ ?_ _ | refine Below.setCell ?_ ?_ _ | refine Below.drewN' _ ?_ | refine Below.drew ?_ | exact Ge.le) | go_size)))

set_option maxHeartbeats 4000000 in
set_option maxRecDepth 100000 in
theorem basic_6 (w : World) (A B N : Int) (lo hi : Nat) (vx : Value) (a1 a2 b1 b2 : Nat) (r1 r2 : Nat) (hz : Bool) (HZ : Gives 89 #[(.agg #[.float .f64 b1, .float .f64 b2]), (.float .f64 0)] (.bool hz)) (C : Gives 23 #[(.agg #[.float .f64 a1, .float .f64 a2]), (.agg #[.float .f64 b1, .float .f64 b2])] (.agg #[.float .f64 r1, .float .f64 r2])) : Calls Tryz.prog 168 #[(.agg #[.int .i64 6, .int .i64 A, .int .i64 B, .int .i64 N, .float .f64 lo, .float .f64 hi]), (.agg #[.float .f64 a1, .float .f64 a2]), (.agg #[.float .f64 b1, .float .f64 b2]), vx] w (Val2 w (r1, r2) (!hz)) := by
  go_enter Tryz.func168, Tryz.ntmps168
  go_wp2_with (fail)
  first | (go_region_held3 (fun w' => w'.cell? ⟨w.heap.size + 1, 0, none⟩ = some (.float .f64 a1) ∧ w'.cell? ⟨w.heap.size + 1, 1, none⟩ = some (.float .f64 a2) ∧ w'.cell? ⟨w.heap.size + 2, 0, none⟩ = some (.float .f64 b1) ∧ w'.cell? ⟨w.heap.size + 2, 1, none⟩ = some (.float .f64 b2))
    (first | (go_simp; done) | go_keep)
    ((first | (go_at_call 89; (with_reducible refine (HZ.go _).mono ?_); rintro _ _ ⟨nn, rfl, rfl⟩) | (go_at_call 23; (with_reducible refine (C.go _).mono ?_); rintro _ _ ⟨nn, rfl, rfl⟩)))) | fail "region"
  all_goals
    rename_i hHeld
    clear hHeld
    go_wp2
    exact bodyPost_ret (v := .tuple #[(.agg #[.float .f64 r1, .float .f64 r2]), .bool (!hz)]) (by simp [results, Tryz.results168, go_sem]) rfl (val2_mk rfl (by (repeat' first | (with_reducible first | exact Below.refl _ _ | assumption | refine Later.belowOf _ ?_ ?_ | refine Below.alloc ?_ ?_ _ | refine Below.setCell ?_ ?_ _ | refine Below.drewN' _ ?_ | refine Below.drew ?_ | exact Ge.le) | go_size)))

set_option maxHeartbeats 4000000 in
set_option maxRecDepth 100000 in
theorem basic_7 (w : World) (A B N : Int) (lo hi : Nat) (vx : Value) (a1 a2 b1 b2 : Nat) (r1 r2 : Nat) (C : Gives 20 #[(.agg #[.float .f64 a1, .float .f64 a2])] (.agg #[.float .f64 r1, .float .f64 r2])) : Calls Tryz.prog 168 #[(.agg #[.int .i64 7, .int .i64 A, .int .i64 B, .int .i64 N, .float .f64 lo, .float .f64 hi]), (.agg #[.float .f64 a1, .float .f64 a2]), (.agg #[.float .f64 b1, .float .f64 b2]), vx] w (Val2 w (r1, r2) true) := by
  go_enter Tryz.func168, Tryz.ntmps168
  go_wp2_with (first | (go_at_call 20; (with_reducible refine (C.go _).mono ?_); rintro _ _ ⟨nn, rfl, rfl⟩))
  exact bodyPost_ret (v := .tuple #[(.agg #[.float .f64 r1, .float .f64 r2]), .bool true]) (by simp [results, Tryz.results168, go_sem]) rfl (val2_mk rfl (by (repeat' first | (with_reducible first | exact Below.refl _ _ | assumption | refine Later.belowOf _ ?_ ?_ | refine Below.alloc ?_ ?_ _ | refine Below.setCell ?_ ?_ _ | refine Below.drewN' _ ?_ | refine Below.drew ?_ | exact Ge.le) | go_size)))

set_option maxHeartbeats 4000000 in
set_option maxRecDepth 100000 in
theorem basic_8p (w : World) (A B N : Int) (lo hi : Nat) (vx : Value) (a1 a2 b1 b2 : Nat) (r1 r2 : Nat) (h0 : 0 ≤ N) (C : Gives 170 #[(.agg #[.float .f64 a1, .float .f64 a2]), .int .i64 N] (.agg #[.float .f64 r1, .float .f64 r2])) : Calls Tryz.prog 168 #[(.agg #[.int .i64 8, .int .i64 A, .int .i64 B, .int .i64 N, .float .f64 lo, .float .f64 hi]), (.agg #[.float .f64 a1, .float .f64 a2]), (.agg #[.float .f64 b1, .float .f64 b2]), vx] w (Val2 w (r1, r2) true) := by
  have hd : decide (0 ≤ N) = true := by simpa using h0
  go_enter Tryz.func168, Tryz.ntmps168
  go_wp2_with (fail)
  first | (go_region_with ((first | (go_at_call 170; (with_reducible refine (C.go _).mono ?_); rintro _ _ ⟨nn, rfl, rfl⟩)))) | fail "region"
  all_goals
    go_wp2
    exact bodyPost_ret (v := .tuple #[(.agg #[.float .f64 r1, .float .f64 r2]), .bool true]) (by simp [results, Tryz.results168, go_sem]) rfl (val2_mk rfl (by (repeat' first | (with_reducible first | exact Below.refl _ _ | assumption | refine Later.belowOf _ ?_ ?_ | refine Below.alloc ?_ ?_ _ | refine Below.setCell ?_ ?_ _ | refine Below.drewN' _ ?_ | refine Below.drew ?_ | exact Ge.le) | go_size)))

set_option maxHeartbeats 4000000 in
set_option maxRecDepth 100000 in
theorem basic_8m (w : World) (A B N : Int) (lo hi : Nat) (vx : Value) (a1 a2 b1 b2 : Nat) (r1 r2 : Nat) (h0 : N < 0) (hz : Bool) (HZ : Gives 89 #[(.agg #[.float .f64 a1, .float .f64 a2]), (.float .f64 0)] (.bool hz)) (C : Gives 170 #[(.agg #[.float .f64 a1, .float .f64 a2]), .int .i64 N] (.agg #[.float .f64 r1, .float .f64 r2])) : Calls Tryz.prog 168 #[(.agg #[.int .i64 8, .int .i64 A, .int .i64 B, .int .i64 N, .float .f64 lo, .float .f64 hi]), (.agg #[.float .f64 a1, .float .f64 a2]), (.agg #[.float .f64 b1, .float .f64 b2]), vx] w (Val2 w (r1, r2) (!hz)) := by
  have hd : decide (0 ≤ N) = false := by simp; omega
  go_enter Tryz.func168, Tryz.ntmps168
  go_wp2_with (fail)
  first | (go_region_held3 (fun w' => w'.cell? ⟨w.heap.size + 1, 0, none⟩ = some (.float .f64 a1) ∧ w'.cell? ⟨w.heap.size + 1, 1, none⟩ = some (.float .f64 a2) ∧ w'.cell? ⟨w.heap.size, 3, none⟩ = some (.int .i64 N))
    (first | (go_simp; done) | go_keep)
    ((first | (go_at_call 89; (with_reducible refine (HZ.go _).mono ?_); rintro _ _ ⟨nn, rfl, rfl⟩) | (go_at_call 170; (with_reducible refine (C.go _).mono ?_); rintro _ _ ⟨nn, rfl, rfl⟩)))) | fail "region"
  all_goals
    rename_i hHeld
    clear hHeld
    go_wp2
    exact bodyPost_ret (v := .tuple #[(.agg #[.float .f64 r1, .float .f64 r2]), .bool (!hz)]) (by simp [results, Tryz.results168, go_sem]) rfl (val2_mk rfl (by (repeat' first | (with_reducible first | exact Below.refl _ _ | assumption | refine Later.belowOf _ ?_ ?_ | refine Below.alloc ?_ ?_ _ | refine Below.setCell ?_ ?_ _ | refine Below.drewN' _ ?_ | refine Below.drew ?_ | exact Ge.le) | go_size)))

set_option maxHeartbeats 4000000 in
set_option maxRecDepth 100000 in
theorem basic_9 (w : World) (A B N : Int) (lo hi : Nat) (vx : Value) (a1 a2 b1 b2 : Nat) (r1 r2 : Nat) (C : Gives 212 #[(.agg #[.float .f64 a1, .float .f64 a2])] (.agg #[.float .f64 r1, .float .f64 r2])) : Calls Tryz.prog 168 #[(.agg #[.int .i64 9, .int .i64 A, .int .i64 B, .int .i64 N, .float .f64 lo, .float .f64 hi]), (.agg #[.float .f64 a1, .float .f64 a2]), (.agg #[.float .f64 b1, .float .f64 b2]), vx] w (Val2 w (r1, r2) (fle 0 a1)) := by
  go_enter Tryz.func168, Tryz.ntmps168
  go_wp2_with (fail)
  first | (go_region_held3 (fun w' => w'.cell? ⟨w.heap.size + 1, 0, none⟩ = some (.float .f64 a1) ∧ w'.cell? ⟨w.heap.size + 1, 1, none⟩ = some (.float .f64 a2))
    (first | (go_simp; done) | go_keep)
    ((first | (go_at_call 212; (with_reducible refine (C.go _).mono ?_); rintro _ _ ⟨nn, rfl, rfl⟩)))) | fail "region"
  all_goals
    rename_i hHeld
    clear hHeld
    go_wp2
    exact bodyPost_ret (v := .tuple #[(.agg #[.float .f64 r1, .float .f64 r2]), .bool (fle 0 a1)]) (by simp [results, Tryz.results168, go_sem]) rfl (val2_mk rfl (by (repeat' first | (with_reducible first | exact Below.refl _ _ | assumption | refine Later.belowOf _ ?_ ?_ | refine Below.alloc ?_ ?_ _ | refine Below.setCell ?_ ?_ _ | refine Below.drewN' _ ?_ | refine Below.drew ?_ | exact Ge.le) | go_size)))

end Go.Proofs.YtpkgpkabmechkaaGreat
