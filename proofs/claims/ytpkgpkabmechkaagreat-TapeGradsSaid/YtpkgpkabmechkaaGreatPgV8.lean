/- Contracts: the law's values of a tape's operation, kind by kind (printed by wip/genlaw.py). -/
import Derived.Test.YtpkgpkabmechkaaGreatPgV6x
namespace Go.Proofs.YtpkgpkabmechkaaGreat
set_option linter.unusedSimpArgs false
set_option linter.unusedVariables false
open Go.RowKit
open Fl

set_option maxHeartbeats 4000000 in
set_option maxRecDepth 100000 in
theorem lvalue_1 (w : World) (A B N : Int) (lo hi : Nat) (vv vx : Value) (r1 r2 : Nat) (ok : Bool) (BC : ∀ W, Below w.heap.size w W → Calls Tryz.prog 168 #[(.agg #[.int .i64 1, .int .i64 A, .int .i64 B, .int .i64 N, .float .f64 lo, .float .f64 hi]), (.agg #[.float .f64 0, .float .f64 0]), (.agg #[.float .f64 0, .float .f64 0]), vx] W (Val2 W (r1, r2) ok)) : Calls Tryz.prog 87 #[(.agg #[.int .i64 1, .int .i64 A, .int .i64 B, .int .i64 N, .float .f64 lo, .float .f64 hi]), vv, vx] w (Val2 w (r1, r2) ok) := by
  have hn := args_any 1
  rw [show needI 1 = 0 by decide] at hn
  go_enter Tryz.func87, Tryz.ntmps87
  go_upto_region 4 with (go_at_call 103; (with_reducible refine (hn.go _).mono ?_); rintro _ _ ⟨n, rfl, rfl⟩)
  have h0 := (vw_start w 1 (A) (B) (N) lo hi).later n
  refine cut_world (fun W hW => ?_)
  have h := h0
  rw [hW] at h
  clear hW h0
  haveI g0 : Ge W (w.heap.size + 1) := ⟨h.o.lt⟩
  haveI g1 : Ge W (w.heap.size + 1 + 1) := ⟨h.r.lt⟩
  haveI g2 : Ge W (w.heap.size + 2 + 1) := ⟨h.a.lt⟩
  haveI g3 : Ge W (w.heap.size + 3 + 1) := ⟨h.b.lt⟩
  haveI g4 : Ge W w.heap.size := ⟨h.bel.size⟩
  have k0 := h.o.c0
  have k1 := h.o.c1
  have k2 := h.o.c2
  have k3 := h.o.c3
  have k4 := h.o.c4
  have k5 := h.o.c5
  go_upto_region 6 with (go_at_call 103; (with_reducible refine (hn.go _).mono ?_); rintro _ _ ⟨n, rfl, rfl⟩)
  have h0 := h.later n
  clear g0 g1 g2 g3 g4 k0 k1 k2 k3 k4 k5 h
  refine cut_world (fun W2 hW => ?_)
  have h := h0
  rw [hW] at h
  clear hW h0 hn
  haveI g0 : Ge W2 (w.heap.size + 1) := ⟨h.o.lt⟩
  haveI g1 : Ge W2 (w.heap.size + 1 + 1) := ⟨h.r.lt⟩
  haveI g2 : Ge W2 (w.heap.size + 2 + 1) := ⟨h.a.lt⟩
  haveI g3 : Ge W2 (w.heap.size + 3 + 1) := ⟨h.b.lt⟩
  haveI g4 : Ge W2 w.heap.size := ⟨h.bel.size⟩
  have k0 := h.o.c0
  have k1 := h.o.c1
  have k2 := h.o.c2
  have k3 := h.o.c3
  have k4 := h.o.c4
  have k5 := h.o.c5
  have xa0 := h.a.c0
  have xa1 := h.a.c1
  have xb0 := h.b.c0
  have xb1 := h.b.c1
  have xr0 := h.r.c0
  have xr1 := h.r.c1
  have fr0 := h.r.f0
  have fr1 := h.r.f1
  go_wp2_with (go_at_call 168; (with_reducible refine (BC _ h.bel).mono ?_); rintro _ _ ⟨nn, rfl, rfl⟩)
  have bz := h.r.below (w' := nn.val) (by (repeat' first | (with_reducible first | exact Below.refl _ _ | assumption | refine Later.belowOf _ ?_ ?_ | refine Below.alloc ?_ ?_ _ | refine Below.setCell ?_ ?_ _ | refine Below.drewN' _ ?_ | refine Below.drew ?_ | exact Ge.le) | go_size))
  have hb := h.bel
  exact bodyPost_ret (v := .tuple #[(.agg #[.float .f64 r1, .float .f64 r2]), .bool ok]) (by simp [results, Tryz.results87, go_sem, bz.set0, bz.set1]) rfl (val2_mk rfl (by (repeat' first | (with_reducible first | exact Below.refl _ _ | assumption | refine Later.belowOf _ ?_ ?_ | refine Below.alloc ?_ ?_ _ | refine Below.setCell ?_ ?_ _ | refine Below.drewN' _ ?_ | refine Below.drew ?_ | exact Ge.le) | go_size)))

set_option maxHeartbeats 4000000 in
set_option maxRecDepth 100000 in
theorem lvalue_2 (w : World) (A B N : Int) (lo hi : Nat) (vv vx : Value) (r1 r2 : Nat) (ok : Bool) (BC : ∀ W, Below w.heap.size w W → Calls Tryz.prog 168 #[(.agg #[.int .i64 2, .int .i64 A, .int .i64 B, .int .i64 N, .float .f64 lo, .float .f64 hi]), (.agg #[.float .f64 0, .float .f64 0]), (.agg #[.float .f64 0, .float .f64 0]), vx] W (Val2 W (r1, r2) ok)) : Calls Tryz.prog 87 #[(.agg #[.int .i64 2, .int .i64 A, .int .i64 B, .int .i64 N, .float .f64 lo, .float .f64 hi]), vv, vx] w (Val2 w (r1, r2) ok) := by
  have hn := args_any 2
  rw [show needI 2 = 0 by decide] at hn
  go_enter Tryz.func87, Tryz.ntmps87
  go_upto_region 4 with (go_at_call 103; (with_reducible refine (hn.go _).mono ?_); rintro _ _ ⟨n, rfl, rfl⟩)
  have h0 := (vw_start w 2 (A) (B) (N) lo hi).later n
  refine cut_world (fun W hW => ?_)
  have h := h0
  rw [hW] at h
  clear hW h0
  haveI g0 : Ge W (w.heap.size + 1) := ⟨h.o.lt⟩
  haveI g1 : Ge W (w.heap.size + 1 + 1) := ⟨h.r.lt⟩
  haveI g2 : Ge W (w.heap.size + 2 + 1) := ⟨h.a.lt⟩
  haveI g3 : Ge W (w.heap.size + 3 + 1) := ⟨h.b.lt⟩
  haveI g4 : Ge W w.heap.size := ⟨h.bel.size⟩
  have k0 := h.o.c0
  have k1 := h.o.c1
  have k2 := h.o.c2
  have k3 := h.o.c3
  have k4 := h.o.c4
  have k5 := h.o.c5
  go_upto_region 6 with (go_at_call 103; (with_reducible refine (hn.go _).mono ?_); rintro _ _ ⟨n, rfl, rfl⟩)
  have h0 := h.later n
  clear g0 g1 g2 g3 g4 k0 k1 k2 k3 k4 k5 h
  refine cut_world (fun W2 hW => ?_)
  have h := h0
  rw [hW] at h
  clear hW h0 hn
  haveI g0 : Ge W2 (w.heap.size + 1) := ⟨h.o.lt⟩
  haveI g1 : Ge W2 (w.heap.size + 1 + 1) := ⟨h.r.lt⟩
  haveI g2 : Ge W2 (w.heap.size + 2 + 1) := ⟨h.a.lt⟩
  haveI g3 : Ge W2 (w.heap.size + 3 + 1) := ⟨h.b.lt⟩
  haveI g4 : Ge W2 w.heap.size := ⟨h.bel.size⟩
  have k0 := h.o.c0
  have k1 := h.o.c1
  have k2 := h.o.c2
  have k3 := h.o.c3
  have k4 := h.o.c4
  have k5 := h.o.c5
  have xa0 := h.a.c0
  have xa1 := h.a.c1
  have xb0 := h.b.c0
  have xb1 := h.b.c1
  have xr0 := h.r.c0
  have xr1 := h.r.c1
  have fr0 := h.r.f0
  have fr1 := h.r.f1
  go_wp2_with (go_at_call 168; (with_reducible refine (BC _ h.bel).mono ?_); rintro _ _ ⟨nn, rfl, rfl⟩)
  have bz := h.r.below (w' := nn.val) (by (repeat' first | (with_reducible first | exact Below.refl _ _ | assumption | refine Later.belowOf _ ?_ ?_ | refine Below.alloc ?_ ?_ _ | refine Below.setCell ?_ ?_ _ | refine Below.drewN' _ ?_ | refine Below.drew ?_ | exact Ge.le) | go_size))
  have hb := h.bel
  exact bodyPost_ret (v := .tuple #[(.agg #[.float .f64 r1, .float .f64 r2]), .bool ok]) (by simp [results, Tryz.results87, go_sem, bz.set0, bz.set1]) rfl (val2_mk rfl (by (repeat' first | (with_reducible first | exact Below.refl _ _ | assumption | refine Later.belowOf _ ?_ ?_ | refine Below.alloc ?_ ?_ _ | refine Below.setCell ?_ ?_ _ | refine Below.drewN' _ ?_ | refine Below.drew ?_ | exact Ge.le) | go_size)))

set_option maxHeartbeats 4000000 in
set_option maxRecDepth 100000 in
theorem lvalue_7 (w : World) (B N : Int) (lo hi : Nat) (vx : Value) (ia bv ov cv nv a1 a2 : Nat) (ha : ia < nv) (ca0 : w.cell? ⟨bv, ov + ia * 2, none⟩ = some (.float .f64 a1)) (ca1 : w.cell? ⟨bv, ov + ia * 2 + 1, none⟩ = some (.float .f64 a2)) (r1 r2 : Nat) (ok : Bool) (BC : ∀ W, Below w.heap.size w W → Calls Tryz.prog 168 #[(.agg #[.int .i64 7, .int .i64 ia, .int .i64 B, .int .i64 N, .float .f64 lo, .float .f64 hi]), (.agg #[.float .f64 a1, .float .f64 a2]), (.agg #[.float .f64 0, .float .f64 0]), vx] W (Val2 W (r1, r2) ok)) : Calls Tryz.prog 87 #[(.agg #[.int .i64 7, .int .i64 ia, .int .i64 B, .int .i64 N, .float .f64 lo, .float .f64 hi]), .slice (some ⟨bv, ov, none⟩) nv cv, vx] w (Val2 w (r1, r2) ok) := by
  have ia0 : (0 : Int) ≤ (ia : Int) := by omega
  have ia1 : (ia : Int) < (nv : Int) := by omega
  have hn := args_any 7
  rw [show needI 7 = 1 by decide] at hn
  go_enter Tryz.func87, Tryz.ntmps87
  go_upto_region 3 with (go_at_call 103; (with_reducible refine (hn.go _).mono ?_); rintro _ _ ⟨n, rfl, rfl⟩)
  have h0 := (vw_start w 7 (ia) (B) (N) lo hi).later n
  refine cut_world (fun W hW => ?_)
  have h := h0
  rw [hW] at h
  clear hW h0
  haveI g0 : Ge W (w.heap.size + 1) := ⟨h.o.lt⟩
  haveI g1 : Ge W (w.heap.size + 1 + 1) := ⟨h.r.lt⟩
  haveI g2 : Ge W (w.heap.size + 2 + 1) := ⟨h.a.lt⟩
  haveI g3 : Ge W (w.heap.size + 3 + 1) := ⟨h.b.lt⟩
  haveI g4 : Ge W w.heap.size := ⟨h.bel.size⟩
  have k0 := h.o.c0
  have k1 := h.o.c1
  have k2 := h.o.c2
  have k3 := h.o.c3
  have k4 := h.o.c4
  have k5 := h.o.c5
  have xa0 := h.a.c0
  have xa1 := h.a.c1
  have xb0 := h.b.c0
  have xb1 := h.b.c1
  have fa0 := h.a.f0
  have fa1 := h.a.f1
  have fb0 := h.b.f0
  have fb1 := h.b.f1
  have v0 := cellBelow h.bel ca0
  have v1 := cellBelow h.bel ca1
  go_upto_region 4 with (fail)
  have h0 := h.setA a1 a2
  clear g0 g1 g2 g3 g4 k0 k1 k2 k3 k4 k5 xa0 xa1 xb0 xb1 fa0 fa1 fb0 fb1 v0 v1 h
  refine cut_world (fun W1 hW => ?_)
  have h := h0
  rw [hW] at h
  clear hW h0
  haveI g0 : Ge W1 (w.heap.size + 1) := ⟨h.o.lt⟩
  haveI g1 : Ge W1 (w.heap.size + 1 + 1) := ⟨h.r.lt⟩
  haveI g2 : Ge W1 (w.heap.size + 2 + 1) := ⟨h.a.lt⟩
  haveI g3 : Ge W1 (w.heap.size + 3 + 1) := ⟨h.b.lt⟩
  haveI g4 : Ge W1 w.heap.size := ⟨h.bel.size⟩
  have k0 := h.o.c0
  have k1 := h.o.c1
  have k2 := h.o.c2
  have k3 := h.o.c3
  have k4 := h.o.c4
  have k5 := h.o.c5
  go_upto_region 6 with (go_at_call 103; (with_reducible refine (hn.go _).mono ?_); rintro _ _ ⟨n, rfl, rfl⟩)
  have h0 := h.later n
  clear g0 g1 g2 g3 g4 k0 k1 k2 k3 k4 k5 h
  refine cut_world (fun W2 hW => ?_)
  have h := h0
  rw [hW] at h
  clear hW h0 hn
  haveI g0 : Ge W2 (w.heap.size + 1) := ⟨h.o.lt⟩
  haveI g1 : Ge W2 (w.heap.size + 1 + 1) := ⟨h.r.lt⟩
  haveI g2 : Ge W2 (w.heap.size + 2 + 1) := ⟨h.a.lt⟩
  haveI g3 : Ge W2 (w.heap.size + 3 + 1) := ⟨h.b.lt⟩
  haveI g4 : Ge W2 w.heap.size := ⟨h.bel.size⟩
  have k0 := h.o.c0
  have k1 := h.o.c1
  have k2 := h.o.c2
  have k3 := h.o.c3
  have k4 := h.o.c4
  have k5 := h.o.c5
  have xa0 := h.a.c0
  have xa1 := h.a.c1
  have xb0 := h.b.c0
  have xb1 := h.b.c1
  have xr0 := h.r.c0
  have xr1 := h.r.c1
  have fr0 := h.r.f0
  have fr1 := h.r.f1
  go_wp2_with (go_at_call 168; (with_reducible refine (BC _ h.bel).mono ?_); rintro _ _ ⟨nn, rfl, rfl⟩)
  have bz := h.r.below (w' := nn.val) (by (repeat' first | (with_reducible first | exact Below.refl _ _ | assumption | refine Later.belowOf _ ?_ ?_ | refine Below.alloc ?_ ?_ _ | refine Below.setCell ?_ ?_ _ | refine Below.drewN' _ ?_ | refine Below.drew ?_ | exact Ge.le) | go_size))
  have hb := h.bel
  exact bodyPost_ret (v := .tuple #[(.agg #[.float .f64 r1, .float .f64 r2]), .bool ok]) (by simp [results, Tryz.results87, go_sem, bz.set0, bz.set1]) rfl (val2_mk rfl (by (repeat' first | (with_reducible first | exact Below.refl _ _ | assumption | refine Later.belowOf _ ?_ ?_ | refine Below.alloc ?_ ?_ _ | refine Below.setCell ?_ ?_ _ | refine Below.drewN' _ ?_ | refine Below.drew ?_ | exact Ge.le) | go_size)))

set_option maxHeartbeats 4000000 in
set_option maxRecDepth 100000 in
theorem lvalue_8 (w : World) (B N : Int) (lo hi : Nat) (vx : Value) (ia bv ov cv nv a1 a2 : Nat) (ha : ia < nv) (ca0 : w.cell? ⟨bv, ov + ia * 2, none⟩ = some (.float .f64 a1)) (ca1 : w.cell? ⟨bv, ov + ia * 2 + 1, none⟩ = some (.float .f64 a2)) (r1 r2 : Nat) (ok : Bool) (BC : ∀ W, Below w.heap.size w W → Calls Tryz.prog 168 #[(.agg #[.int .i64 8, .int .i64 ia, .int .i64 B, .int .i64 N, .float .f64 lo, .float .f64 hi]), (.agg #[.float .f64 a1, .float .f64 a2]), (.agg #[.float .f64 0, .float .f64 0]), vx] W (Val2 W (r1, r2) ok)) : Calls Tryz.prog 87 #[(.agg #[.int .i64 8, .int .i64 ia, .int .i64 B, .int .i64 N, .float .f64 lo, .float .f64 hi]), .slice (some ⟨bv, ov, none⟩) nv cv, vx] w (Val2 w (r1, r2) ok) := by
  have ia0 : (0 : Int) ≤ (ia : Int) := by omega
  have ia1 : (ia : Int) < (nv : Int) := by omega
  have hn := args_any 8
  rw [show needI 8 = 1 by decide] at hn
  go_enter Tryz.func87, Tryz.ntmps87
  go_upto_region 3 with (go_at_call 103; (with_reducible refine (hn.go _).mono ?_); rintro _ _ ⟨n, rfl, rfl⟩)
  have h0 := (vw_start w 8 (ia) (B) (N) lo hi).later n
  refine cut_world (fun W hW => ?_)
  have h := h0
  rw [hW] at h
  clear hW h0
  haveI g0 : Ge W (w.heap.size + 1) := ⟨h.o.lt⟩
  haveI g1 : Ge W (w.heap.size + 1 + 1) := ⟨h.r.lt⟩
  haveI g2 : Ge W (w.heap.size + 2 + 1) := ⟨h.a.lt⟩
  haveI g3 : Ge W (w.heap.size + 3 + 1) := ⟨h.b.lt⟩
  haveI g4 : Ge W w.heap.size := ⟨h.bel.size⟩
  have k0 := h.o.c0
  have k1 := h.o.c1
  have k2 := h.o.c2
  have k3 := h.o.c3
  have k4 := h.o.c4
  have k5 := h.o.c5
  have xa0 := h.a.c0
  have xa1 := h.a.c1
  have xb0 := h.b.c0
  have xb1 := h.b.c1
  have fa0 := h.a.f0
  have fa1 := h.a.f1
  have fb0 := h.b.f0
  have fb1 := h.b.f1
  have v0 := cellBelow h.bel ca0
  have v1 := cellBelow h.bel ca1
  go_upto_region 4 with (fail)
  have h0 := h.setA a1 a2
  clear g0 g1 g2 g3 g4 k0 k1 k2 k3 k4 k5 xa0 xa1 xb0 xb1 fa0 fa1 fb0 fb1 v0 v1 h
  refine cut_world (fun W1 hW => ?_)
  have h := h0
  rw [hW] at h
  clear hW h0
  haveI g0 : Ge W1 (w.heap.size + 1) := ⟨h.o.lt⟩
  haveI g1 : Ge W1 (w.heap.size + 1 + 1) := ⟨h.r.lt⟩
  haveI g2 : Ge W1 (w.heap.size + 2 + 1) := ⟨h.a.lt⟩
  haveI g3 : Ge W1 (w.heap.size + 3 + 1) := ⟨h.b.lt⟩
  haveI g4 : Ge W1 w.heap.size := ⟨h.bel.size⟩
  have k0 := h.o.c0
  have k1 := h.o.c1
  have k2 := h.o.c2
  have k3 := h.o.c3
  have k4 := h.o.c4
  have k5 := h.o.c5
  go_upto_region 6 with (go_at_call 103; (with_reducible refine (hn.go _).mono ?_); rintro _ _ ⟨n, rfl, rfl⟩)
  have h0 := h.later n
  clear g0 g1 g2 g3 g4 k0 k1 k2 k3 k4 k5 h
  refine cut_world (fun W2 hW => ?_)
  have h := h0
  rw [hW] at h
  clear hW h0 hn
  haveI g0 : Ge W2 (w.heap.size + 1) := ⟨h.o.lt⟩
  haveI g1 : Ge W2 (w.heap.size + 1 + 1) := ⟨h.r.lt⟩
  haveI g2 : Ge W2 (w.heap.size + 2 + 1) := ⟨h.a.lt⟩
  haveI g3 : Ge W2 (w.heap.size + 3 + 1) := ⟨h.b.lt⟩
  haveI g4 : Ge W2 w.heap.size := ⟨h.bel.size⟩
  have k0 := h.o.c0
  have k1 := h.o.c1
  have k2 := h.o.c2
  have k3 := h.o.c3
  have k4 := h.o.c4
  have k5 := h.o.c5
  have xa0 := h.a.c0
  have xa1 := h.a.c1
  have xb0 := h.b.c0
  have xb1 := h.b.c1
  have xr0 := h.r.c0
  have xr1 := h.r.c1
  have fr0 := h.r.f0
  have fr1 := h.r.f1
  go_wp2_with (go_at_call 168; (with_reducible refine (BC _ h.bel).mono ?_); rintro _ _ ⟨nn, rfl, rfl⟩)
  have bz := h.r.below (w' := nn.val) (by (repeat' first | (with_reducible first | exact Below.refl _ _ | assumption | refine Later.belowOf _ ?_ ?_ | refine Below.alloc ?_ ?_ _ | refine Below.setCell ?_ ?_ _ | refine Below.drewN' _ ?_ | refine Below.drew ?_ | exact Ge.le) | go_size))
  have hb := h.bel
  exact bodyPost_ret (v := .tuple #[(.agg #[.float .f64 r1, .float .f64 r2]), .bool ok]) (by simp [results, Tryz.results87, go_sem, bz.set0, bz.set1]) rfl (val2_mk rfl (by (repeat' first | (with_reducible first | exact Below.refl _ _ | assumption | refine Later.belowOf _ ?_ ?_ | refine Below.alloc ?_ ?_ _ | refine Below.setCell ?_ ?_ _ | refine Below.drewN' _ ?_ | refine Below.drew ?_ | exact Ge.le) | go_size)))

set_option maxHeartbeats 4000000 in
set_option maxRecDepth 100000 in
theorem lvalue_9 (w : World) (B N : Int) (lo hi : Nat) (vx : Value) (ia bv ov cv nv a1 a2 : Nat) (ha : ia < nv) (ca0 : w.cell? ⟨bv, ov + ia * 2, none⟩ = some (.float .f64 a1)) (ca1 : w.cell? ⟨bv, ov + ia * 2 + 1, none⟩ = some (.float .f64 a2)) (r1 r2 : Nat) (ok : Bool) (BC : ∀ W, Below w.heap.size w W → Calls Tryz.prog 168 #[(.agg #[.int .i64 9, .int .i64 ia, .int .i64 B, .int .i64 N, .float .f64 lo, .float .f64 hi]), (.agg #[.float .f64 a1, .float .f64 a2]), (.agg #[.float .f64 0, .float .f64 0]), vx] W (Val2 W (r1, r2) ok)) : Calls Tryz.prog 87 #[(.agg #[.int .i64 9, .int .i64 ia, .int .i64 B, .int .i64 N, .float .f64 lo, .float .f64 hi]), .slice (some ⟨bv, ov, none⟩) nv cv, vx] w (Val2 w (r1, r2) ok) := by
  have ia0 : (0 : Int) ≤ (ia : Int) := by omega
  have ia1 : (ia : Int) < (nv : Int) := by omega
  have hn := args_any 9
  rw [show needI 9 = 1 by decide] at hn
  go_enter Tryz.func87, Tryz.ntmps87
  go_upto_region 3 with (go_at_call 103; (with_reducible refine (hn.go _).mono ?_); rintro _ _ ⟨n, rfl, rfl⟩)
  have h0 := (vw_start w 9 (ia) (B) (N) lo hi).later n
  refine cut_world (fun W hW => ?_)
  have h := h0
  rw [hW] at h
  clear hW h0
  haveI g0 : Ge W (w.heap.size + 1) := ⟨h.o.lt⟩
  haveI g1 : Ge W (w.heap.size + 1 + 1) := ⟨h.r.lt⟩
  haveI g2 : Ge W (w.heap.size + 2 + 1) := ⟨h.a.lt⟩
  haveI g3 : Ge W (w.heap.size + 3 + 1) := ⟨h.b.lt⟩
  haveI g4 : Ge W w.heap.size := ⟨h.bel.size⟩
  have k0 := h.o.c0
  have k1 := h.o.c1
  have k2 := h.o.c2
  have k3 := h.o.c3
  have k4 := h.o.c4
  have k5 := h.o.c5
  have xa0 := h.a.c0
  have xa1 := h.a.c1
  have xb0 := h.b.c0
  have xb1 := h.b.c1
  have fa0 := h.a.f0
  have fa1 := h.a.f1
  have fb0 := h.b.f0
  have fb1 := h.b.f1
  have v0 := cellBelow h.bel ca0
  have v1 := cellBelow h.bel ca1
  go_upto_region 4 with (fail)
  have h0 := h.setA a1 a2
  clear g0 g1 g2 g3 g4 k0 k1 k2 k3 k4 k5 xa0 xa1 xb0 xb1 fa0 fa1 fb0 fb1 v0 v1 h
  refine cut_world (fun W1 hW => ?_)
  have h := h0
  rw [hW] at h
  clear hW h0
  haveI g0 : Ge W1 (w.heap.size + 1) := ⟨h.o.lt⟩
  haveI g1 : Ge W1 (w.heap.size + 1 + 1) := ⟨h.r.lt⟩
  haveI g2 : Ge W1 (w.heap.size + 2 + 1) := ⟨h.a.lt⟩
  haveI g3 : Ge W1 (w.heap.size + 3 + 1) := ⟨h.b.lt⟩
  haveI g4 : Ge W1 w.heap.size := ⟨h.bel.size⟩
  have k0 := h.o.c0
  have k1 := h.o.c1
  have k2 := h.o.c2
  have k3 := h.o.c3
  have k4 := h.o.c4
  have k5 := h.o.c5
  go_upto_region 6 with (go_at_call 103; (with_reducible refine (hn.go _).mono ?_); rintro _ _ ⟨n, rfl, rfl⟩)
  have h0 := h.later n
  clear g0 g1 g2 g3 g4 k0 k1 k2 k3 k4 k5 h
  refine cut_world (fun W2 hW => ?_)
  have h := h0
  rw [hW] at h
  clear hW h0 hn
  haveI g0 : Ge W2 (w.heap.size + 1) := ⟨h.o.lt⟩
  haveI g1 : Ge W2 (w.heap.size + 1 + 1) := ⟨h.r.lt⟩
  haveI g2 : Ge W2 (w.heap.size + 2 + 1) := ⟨h.a.lt⟩
  haveI g3 : Ge W2 (w.heap.size + 3 + 1) := ⟨h.b.lt⟩
  haveI g4 : Ge W2 w.heap.size := ⟨h.bel.size⟩
  have k0 := h.o.c0
  have k1 := h.o.c1
  have k2 := h.o.c2
  have k3 := h.o.c3
  have k4 := h.o.c4
  have k5 := h.o.c5
  have xa0 := h.a.c0
  have xa1 := h.a.c1
  have xb0 := h.b.c0
  have xb1 := h.b.c1
  have xr0 := h.r.c0
  have xr1 := h.r.c1
  have fr0 := h.r.f0
  have fr1 := h.r.f1
  go_wp2_with (go_at_call 168; (with_reducible refine (BC _ h.bel).mono ?_); rintro _ _ ⟨nn, rfl, rfl⟩)
  have bz := h.r.below (w' := nn.val) (by (repeat' first | (with_reducible first | exact Below.refl _ _ | assumption | refine Later.belowOf _ ?_ ?_ | refine Below.alloc ?_ ?_ _ | refine Below.setCell ?_ ?_ _ | refine Below.drewN' _ ?_ | refine Below.drew ?_ | exact Ge.le) | go_size))
  have hb := h.bel
  exact bodyPost_ret (v := .tuple #[(.agg #[.float .f64 r1, .float .f64 r2]), .bool ok]) (by simp [results, Tryz.results87, go_sem, bz.set0, bz.set1]) rfl (val2_mk rfl (by (repeat' first | (with_reducible first | exact Below.refl _ _ | assumption | refine Later.belowOf _ ?_ ?_ | refine Below.alloc ?_ ?_ _ | refine Below.setCell ?_ ?_ _ | refine Below.drewN' _ ?_ | refine Below.drew ?_ | exact Ge.le) | go_size)))

set_option maxHeartbeats 4000000 in
set_option maxRecDepth 100000 in
theorem lvalue_3 (w : World) (N : Int) (lo hi : Nat) (vx : Value) (ia ib bv ov cv nv a1 a2 b1 b2 : Nat) (ha : ia < nv) (ca0 : w.cell? ⟨bv, ov + ia * 2, none⟩ = some (.float .f64 a1)) (ca1 : w.cell? ⟨bv, ov + ia * 2 + 1, none⟩ = some (.float .f64 a2)) (hb : ib < nv) (cb0 : w.cell? ⟨bv, ov + ib * 2, none⟩ = some (.float .f64 b1)) (cb1 : w.cell? ⟨bv, ov + ib * 2 + 1, none⟩ = some (.float .f64 b2)) (r1 r2 : Nat) (ok : Bool) (BC : ∀ W, Below w.heap.size w W → Calls Tryz.prog 168 #[(.agg #[.int .i64 3, .int .i64 ia, .int .i64 ib, .int .i64 N, .float .f64 lo, .float .f64 hi]), (.agg #[.float .f64 a1, .float .f64 a2]), (.agg #[.float .f64 b1, .float .f64 b2]), vx] W (Val2 W (r1, r2) ok)) : Calls Tryz.prog 87 #[(.agg #[.int .i64 3, .int .i64 ia, .int .i64 ib, .int .i64 N, .float .f64 lo, .float .f64 hi]), .slice (some ⟨bv, ov, none⟩) nv cv, vx] w (Val2 w (r1, r2) ok) := by
  have ia0 : (0 : Int) ≤ (ia : Int) := by omega
  have ia1 : (ia : Int) < (nv : Int) := by omega
  have ib0 : (0 : Int) ≤ (ib : Int) := by omega
  have ib1 : (ib : Int) < (nv : Int) := by omega
  have hn := args_any 3
  rw [show needI 3 = 2 by decide] at hn
  go_enter Tryz.func87, Tryz.ntmps87
  go_upto_region 3 with (go_at_call 103; (with_reducible refine (hn.go _).mono ?_); rintro _ _ ⟨n, rfl, rfl⟩)
  have h0 := (vw_start w 3 (ia) (ib) (N) lo hi).later n
  refine cut_world (fun W hW => ?_)
  have h := h0
  rw [hW] at h
  clear hW h0
  haveI g0 : Ge W (w.heap.size + 1) := ⟨h.o.lt⟩
  haveI g1 : Ge W (w.heap.size + 1 + 1) := ⟨h.r.lt⟩
  haveI g2 : Ge W (w.heap.size + 2 + 1) := ⟨h.a.lt⟩
  haveI g3 : Ge W (w.heap.size + 3 + 1) := ⟨h.b.lt⟩
  haveI g4 : Ge W w.heap.size := ⟨h.bel.size⟩
  have k0 := h.o.c0
  have k1 := h.o.c1
  have k2 := h.o.c2
  have k3 := h.o.c3
  have k4 := h.o.c4
  have k5 := h.o.c5
  have xa0 := h.a.c0
  have xa1 := h.a.c1
  have xb0 := h.b.c0
  have xb1 := h.b.c1
  have fa0 := h.a.f0
  have fa1 := h.a.f1
  have fb0 := h.b.f0
  have fb1 := h.b.f1
  have v0 := cellBelow h.bel ca0
  have v1 := cellBelow h.bel ca1
  go_upto_region 4 with (fail)
  have h0 := h.setA a1 a2
  clear g0 g1 g2 g3 g4 k0 k1 k2 k3 k4 k5 xa0 xa1 xb0 xb1 fa0 fa1 fb0 fb1 v0 v1 h
  refine cut_world (fun W1 hW => ?_)
  have h := h0
  rw [hW] at h
  clear hW h0
  haveI g0 : Ge W1 (w.heap.size + 1) := ⟨h.o.lt⟩
  haveI g1 : Ge W1 (w.heap.size + 1 + 1) := ⟨h.r.lt⟩
  haveI g2 : Ge W1 (w.heap.size + 2 + 1) := ⟨h.a.lt⟩
  haveI g3 : Ge W1 (w.heap.size + 3 + 1) := ⟨h.b.lt⟩
  haveI g4 : Ge W1 w.heap.size := ⟨h.bel.size⟩
  have k0 := h.o.c0
  have k1 := h.o.c1
  have k2 := h.o.c2
  have k3 := h.o.c3
  have k4 := h.o.c4
  have k5 := h.o.c5
  go_upto_region 5 with (go_at_call 103; (with_reducible refine (hn.go _).mono ?_); rintro _ _ ⟨n, rfl, rfl⟩)
  have h0 := h.later n
  clear g0 g1 g2 g3 g4 k0 k1 k2 k3 k4 k5 h
  refine cut_world (fun W2 hW => ?_)
  have h := h0
  rw [hW] at h
  clear hW h0 hn
  haveI g0 : Ge W2 (w.heap.size + 1) := ⟨h.o.lt⟩
  haveI g1 : Ge W2 (w.heap.size + 1 + 1) := ⟨h.r.lt⟩
  haveI g2 : Ge W2 (w.heap.size + 2 + 1) := ⟨h.a.lt⟩
  haveI g3 : Ge W2 (w.heap.size + 3 + 1) := ⟨h.b.lt⟩
  haveI g4 : Ge W2 w.heap.size := ⟨h.bel.size⟩
  have k0 := h.o.c0
  have k1 := h.o.c1
  have k2 := h.o.c2
  have k3 := h.o.c3
  have k4 := h.o.c4
  have k5 := h.o.c5
  have xa0 := h.a.c0
  have xa1 := h.a.c1
  have xb0 := h.b.c0
  have xb1 := h.b.c1
  have fa0 := h.a.f0
  have fa1 := h.a.f1
  have fb0 := h.b.f0
  have fb1 := h.b.f1
  have v0 := cellBelow h.bel cb0
  have v1 := cellBelow h.bel cb1
  go_upto_region 6 with (fail)
  have h0 := h.setB b1 b2
  clear g0 g1 g2 g3 g4 k0 k1 k2 k3 k4 k5 xa0 xa1 xb0 xb1 fa0 fa1 fb0 fb1 v0 v1 h
  refine cut_world (fun W3 hW => ?_)
  have h := h0
  rw [hW] at h
  clear hW h0
  haveI g0 : Ge W3 (w.heap.size + 1) := ⟨h.o.lt⟩
  haveI g1 : Ge W3 (w.heap.size + 1 + 1) := ⟨h.r.lt⟩
  haveI g2 : Ge W3 (w.heap.size + 2 + 1) := ⟨h.a.lt⟩
  haveI g3 : Ge W3 (w.heap.size + 3 + 1) := ⟨h.b.lt⟩
  haveI g4 : Ge W3 w.heap.size := ⟨h.bel.size⟩
  have k0 := h.o.c0
  have k1 := h.o.c1
  have k2 := h.o.c2
  have k3 := h.o.c3
  have k4 := h.o.c4
  have k5 := h.o.c5
  have xa0 := h.a.c0
  have xa1 := h.a.c1
  have xb0 := h.b.c0
  have xb1 := h.b.c1
  have xr0 := h.r.c0
  have xr1 := h.r.c1
  have fr0 := h.r.f0
  have fr1 := h.r.f1
  go_wp2_with (go_at_call 168; (with_reducible refine (BC _ h.bel).mono ?_); rintro _ _ ⟨nn, rfl, rfl⟩)
  have bz := h.r.below (w' := nn.val) (by (repeat' first | (with_reducible first | exact Below.refl _ _ | assumption | refine Later.belowOf _ ?_ ?_ | refine Below.alloc ?_ ?_ _ | refine Below.setCell ?_ ?_ _ | refine Below.drewN' _ ?_ | refine Below.drew ?_ | exact Ge.le) | go_size))
  have hb := h.bel
  exact bodyPost_ret (v := .tuple #[(.agg #[.float .f64 r1, .float .f64 r2]), .bool ok]) (by simp [results, Tryz.results87, go_sem, bz.set0, bz.set1]) rfl (val2_mk rfl (by (repeat' first | (with_reducible first | exact Below.refl _ _ | assumption | refine Later.belowOf _ ?_ ?_ | refine Below.alloc ?_ ?_ _ | refine Below.setCell ?_ ?_ _ | refine Below.drewN' _ ?_ | refine Below.drew ?_ | exact Ge.le) | go_size)))

set_option maxHeartbeats 4000000 in
set_option maxRecDepth 100000 in
theorem lvalue_4 (w : World) (N : Int) (lo hi : Nat) (vx : Value) (ia ib bv ov cv nv a1 a2 b1 b2 : Nat) (ha : ia < nv) (ca0 : w.cell? ⟨bv, ov + ia * 2, none⟩ = some (.float .f64 a1)) (ca1 : w.cell? ⟨bv, ov + ia * 2 + 1, none⟩ = some (.float .f64 a2)) (hb : ib < nv) (cb0 : w.cell? ⟨bv, ov + ib * 2, none⟩ = some (.float .f64 b1)) (cb1 : w.cell? ⟨bv, ov + ib * 2 + 1, none⟩ = some (.float .f64 b2)) (r1 r2 : Nat) (ok : Bool) (BC : ∀ W, Below w.heap.size w W → Calls Tryz.prog 168 #[(.agg #[.int .i64 4, .int .i64 ia, .int .i64 ib, .int .i64 N, .float .f64 lo, .float .f64 hi]), (.agg #[.float .f64 a1, .float .f64 a2]), (.agg #[.float .f64 b1, .float .f64 b2]), vx] W (Val2 W (r1, r2) ok)) : Calls Tryz.prog 87 #[(.agg #[.int .i64 4, .int .i64 ia, .int .i64 ib, .int .i64 N, .float .f64 lo, .float .f64 hi]), .slice (some ⟨bv, ov, none⟩) nv cv, vx] w (Val2 w (r1, r2) ok) := by
  have ia0 : (0 : Int) ≤ (ia : Int) := by omega
  have ia1 : (ia : Int) < (nv : Int) := by omega
  have ib0 : (0 : Int) ≤ (ib : Int) := by omega
  have ib1 : (ib : Int) < (nv : Int) := by omega
  have hn := args_any 4
  rw [show needI 4 = 2 by decide] at hn
  go_enter Tryz.func87, Tryz.ntmps87
  go_upto_region 3 with (go_at_call 103; (with_reducible refine (hn.go _).mono ?_); rintro _ _ ⟨n, rfl, rfl⟩)
  have h0 := (vw_start w 4 (ia) (ib) (N) lo hi).later n
  refine cut_world (fun W hW => ?_)
  have h := h0
  rw [hW] at h
  clear hW h0
  haveI g0 : Ge W (w.heap.size + 1) := ⟨h.o.lt⟩
  haveI g1 : Ge W (w.heap.size + 1 + 1) := ⟨h.r.lt⟩
  haveI g2 : Ge W (w.heap.size + 2 + 1) := ⟨h.a.lt⟩
  haveI g3 : Ge W (w.heap.size + 3 + 1) := ⟨h.b.lt⟩
  haveI g4 : Ge W w.heap.size := ⟨h.bel.size⟩
  have k0 := h.o.c0
  have k1 := h.o.c1
  have k2 := h.o.c2
  have k3 := h.o.c3
  have k4 := h.o.c4
  have k5 := h.o.c5
  have xa0 := h.a.c0
  have xa1 := h.a.c1
  have xb0 := h.b.c0
  have xb1 := h.b.c1
  have fa0 := h.a.f0
  have fa1 := h.a.f1
  have fb0 := h.b.f0
  have fb1 := h.b.f1
  have v0 := cellBelow h.bel ca0
  have v1 := cellBelow h.bel ca1
  go_upto_region 4 with (fail)
  have h0 := h.setA a1 a2
  clear g0 g1 g2 g3 g4 k0 k1 k2 k3 k4 k5 xa0 xa1 xb0 xb1 fa0 fa1 fb0 fb1 v0 v1 h
  refine cut_world (fun W1 hW => ?_)
  have h := h0
  rw [hW] at h
  clear hW h0
  haveI g0 : Ge W1 (w.heap.size + 1) := ⟨h.o.lt⟩
  haveI g1 : Ge W1 (w.heap.size + 1 + 1) := ⟨h.r.lt⟩
  haveI g2 : Ge W1 (w.heap.size + 2 + 1) := ⟨h.a.lt⟩
  haveI g3 : Ge W1 (w.heap.size + 3 + 1) := ⟨h.b.lt⟩
  haveI g4 : Ge W1 w.heap.size := ⟨h.bel.size⟩
  have k0 := h.o.c0
  have k1 := h.o.c1
  have k2 := h.o.c2
  have k3 := h.o.c3
  have k4 := h.o.c4
  have k5 := h.o.c5
  go_upto_region 5 with (go_at_call 103; (with_reducible refine (hn.go _).mono ?_); rintro _ _ ⟨n, rfl, rfl⟩)
  have h0 := h.later n
  clear g0 g1 g2 g3 g4 k0 k1 k2 k3 k4 k5 h
  refine cut_world (fun W2 hW => ?_)
  have h := h0
  rw [hW] at h
  clear hW h0 hn
  haveI g0 : Ge W2 (w.heap.size + 1) := ⟨h.o.lt⟩
  haveI g1 : Ge W2 (w.heap.size + 1 + 1) := ⟨h.r.lt⟩
  haveI g2 : Ge W2 (w.heap.size + 2 + 1) := ⟨h.a.lt⟩
  haveI g3 : Ge W2 (w.heap.size + 3 + 1) := ⟨h.b.lt⟩
  haveI g4 : Ge W2 w.heap.size := ⟨h.bel.size⟩
  have k0 := h.o.c0
  have k1 := h.o.c1
  have k2 := h.o.c2
  have k3 := h.o.c3
  have k4 := h.o.c4
  have k5 := h.o.c5
  have xa0 := h.a.c0
  have xa1 := h.a.c1
  have xb0 := h.b.c0
  have xb1 := h.b.c1
  have fa0 := h.a.f0
  have fa1 := h.a.f1
  have fb0 := h.b.f0
  have fb1 := h.b.f1
  have v0 := cellBelow h.bel cb0
  have v1 := cellBelow h.bel cb1
  go_upto_region 6 with (fail)
  have h0 := h.setB b1 b2
  clear g0 g1 g2 g3 g4 k0 k1 k2 k3 k4 k5 xa0 xa1 xb0 xb1 fa0 fa1 fb0 fb1 v0 v1 h
  refine cut_world (fun W3 hW => ?_)
  have h := h0
  rw [hW] at h
  clear hW h0
  haveI g0 : Ge W3 (w.heap.size + 1) := ⟨h.o.lt⟩
  haveI g1 : Ge W3 (w.heap.size + 1 + 1) := ⟨h.r.lt⟩
  haveI g2 : Ge W3 (w.heap.size + 2 + 1) := ⟨h.a.lt⟩
  haveI g3 : Ge W3 (w.heap.size + 3 + 1) := ⟨h.b.lt⟩
  haveI g4 : Ge W3 w.heap.size := ⟨h.bel.size⟩
  have k0 := h.o.c0
  have k1 := h.o.c1
  have k2 := h.o.c2
  have k3 := h.o.c3
  have k4 := h.o.c4
  have k5 := h.o.c5
  have xa0 := h.a.c0
  have xa1 := h.a.c1
  have xb0 := h.b.c0
  have xb1 := h.b.c1
  have xr0 := h.r.c0
  have xr1 := h.r.c1
  have fr0 := h.r.f0
  have fr1 := h.r.f1
  go_wp2_with (go_at_call 168; (with_reducible refine (BC _ h.bel).mono ?_); rintro _ _ ⟨nn, rfl, rfl⟩)
  have bz := h.r.below (w' := nn.val) (by (repeat' first | (with_reducible first | exact Below.refl _ _ | assumption | refine Later.belowOf _ ?_ ?_ | refine Below.alloc ?_ ?_ _ | refine Below.setCell ?_ ?_ _ | refine Below.drewN' _ ?_ | refine Below.drew ?_ | exact Ge.le) | go_size))
  have hb := h.bel
  exact bodyPost_ret (v := .tuple #[(.agg #[.float .f64 r1, .float .f64 r2]), .bool ok]) (by simp [results, Tryz.results87, go_sem, bz.set0, bz.set1]) rfl (val2_mk rfl (by (repeat' first | (with_reducible first | exact Below.refl _ _ | assumption | refine Later.belowOf _ ?_ ?_ | refine Below.alloc ?_ ?_ _ | refine Below.setCell ?_ ?_ _ | refine Below.drewN' _ ?_ | refine Below.drew ?_ | exact Ge.le) | go_size)))

set_option maxHeartbeats 4000000 in
set_option maxRecDepth 100000 in
theorem lvalue_5 (w : World) (N : Int) (lo hi : Nat) (vx : Value) (ia ib bv ov cv nv a1 a2 b1 b2 : Nat) (ha : ia < nv) (ca0 : w.cell? ⟨bv, ov + ia * 2, none⟩ = some (.float .f64 a1)) (ca1 : w.cell? ⟨bv, ov + ia * 2 + 1, none⟩ = some (.float .f64 a2)) (hb : ib < nv) (cb0 : w.cell? ⟨bv, ov + ib * 2, none⟩ = some (.float .f64 b1)) (cb1 : w.cell? ⟨bv, ov + ib * 2 + 1, none⟩ = some (.float .f64 b2)) (r1 r2 : Nat) (ok : Bool) (BC : ∀ W, Below w.heap.size w W → Calls Tryz.prog 168 #[(.agg #[.int .i64 5, .int .i64 ia, .int .i64 ib, .int .i64 N, .float .f64 lo, .float .f64 hi]), (.agg #[.float .f64 a1, .float .f64 a2]), (.agg #[.float .f64 b1, .float .f64 b2]), vx] W (Val2 W (r1, r2) ok)) : Calls Tryz.prog 87 #[(.agg #[.int .i64 5, .int .i64 ia, .int .i64 ib, .int .i64 N, .float .f64 lo, .float .f64 hi]), .slice (some ⟨bv, ov, none⟩) nv cv, vx] w (Val2 w (r1, r2) ok) := by
  have ia0 : (0 : Int) ≤ (ia : Int) := by omega
  have ia1 : (ia : Int) < (nv : Int) := by omega
  have ib0 : (0 : Int) ≤ (ib : Int) := by omega
  have ib1 : (ib : Int) < (nv : Int) := by omega
  have hn := args_any 5
  rw [show needI 5 = 2 by decide] at hn
  go_enter Tryz.func87, Tryz.ntmps87
  go_upto_region 3 with (go_at_call 103; (with_reducible refine (hn.go _).mono ?_); rintro _ _ ⟨n, rfl, rfl⟩)
  have h0 := (vw_start w 5 (ia) (ib) (N) lo hi).later n
  refine cut_world (fun W hW => ?_)
  have h := h0
  rw [hW] at h
  clear hW h0
  haveI g0 : Ge W (w.heap.size + 1) := ⟨h.o.lt⟩
  haveI g1 : Ge W (w.heap.size + 1 + 1) := ⟨h.r.lt⟩
  haveI g2 : Ge W (w.heap.size + 2 + 1) := ⟨h.a.lt⟩
  haveI g3 : Ge W (w.heap.size + 3 + 1) := ⟨h.b.lt⟩
  haveI g4 : Ge W w.heap.size := ⟨h.bel.size⟩
  have k0 := h.o.c0
  have k1 := h.o.c1
  have k2 := h.o.c2
  have k3 := h.o.c3
  have k4 := h.o.c4
  have k5 := h.o.c5
  have xa0 := h.a.c0
  have xa1 := h.a.c1
  have xb0 := h.b.c0
  have xb1 := h.b.c1
  have fa0 := h.a.f0
  have fa1 := h.a.f1
  have fb0 := h.b.f0
  have fb1 := h.b.f1
  have v0 := cellBelow h.bel ca0
  have v1 := cellBelow h.bel ca1
  go_upto_region 4 with (fail)
  have h0 := h.setA a1 a2
  clear g0 g1 g2 g3 g4 k0 k1 k2 k3 k4 k5 xa0 xa1 xb0 xb1 fa0 fa1 fb0 fb1 v0 v1 h
  refine cut_world (fun W1 hW => ?_)
  have h := h0
  rw [hW] at h
  clear hW h0
  haveI g0 : Ge W1 (w.heap.size + 1) := ⟨h.o.lt⟩
  haveI g1 : Ge W1 (w.heap.size + 1 + 1) := ⟨h.r.lt⟩
  haveI g2 : Ge W1 (w.heap.size + 2 + 1) := ⟨h.a.lt⟩
  haveI g3 : Ge W1 (w.heap.size + 3 + 1) := ⟨h.b.lt⟩
  haveI g4 : Ge W1 w.heap.size := ⟨h.bel.size⟩
  have k0 := h.o.c0
  have k1 := h.o.c1
  have k2 := h.o.c2
  have k3 := h.o.c3
  have k4 := h.o.c4
  have k5 := h.o.c5
  go_upto_region 5 with (go_at_call 103; (with_reducible refine (hn.go _).mono ?_); rintro _ _ ⟨n, rfl, rfl⟩)
  have h0 := h.later n
  clear g0 g1 g2 g3 g4 k0 k1 k2 k3 k4 k5 h
  refine cut_world (fun W2 hW => ?_)
  have h := h0
  rw [hW] at h
  clear hW h0 hn
  haveI g0 : Ge W2 (w.heap.size + 1) := ⟨h.o.lt⟩
  haveI g1 : Ge W2 (w.heap.size + 1 + 1) := ⟨h.r.lt⟩
  haveI g2 : Ge W2 (w.heap.size + 2 + 1) := ⟨h.a.lt⟩
  haveI g3 : Ge W2 (w.heap.size + 3 + 1) := ⟨h.b.lt⟩
  haveI g4 : Ge W2 w.heap.size := ⟨h.bel.size⟩
  have k0 := h.o.c0
  have k1 := h.o.c1
  have k2 := h.o.c2
  have k3 := h.o.c3
  have k4 := h.o.c4
  have k5 := h.o.c5
  have xa0 := h.a.c0
  have xa1 := h.a.c1
  have xb0 := h.b.c0
  have xb1 := h.b.c1
  have fa0 := h.a.f0
  have fa1 := h.a.f1
  have fb0 := h.b.f0
  have fb1 := h.b.f1
  have v0 := cellBelow h.bel cb0
  have v1 := cellBelow h.bel cb1
  go_upto_region 6 with (fail)
  have h0 := h.setB b1 b2
  clear g0 g1 g2 g3 g4 k0 k1 k2 k3 k4 k5 xa0 xa1 xb0 xb1 fa0 fa1 fb0 fb1 v0 v1 h
  refine cut_world (fun W3 hW => ?_)
  have h := h0
  rw [hW] at h
  clear hW h0
  haveI g0 : Ge W3 (w.heap.size + 1) := ⟨h.o.lt⟩
  haveI g1 : Ge W3 (w.heap.size + 1 + 1) := ⟨h.r.lt⟩
  haveI g2 : Ge W3 (w.heap.size + 2 + 1) := ⟨h.a.lt⟩
  haveI g3 : Ge W3 (w.heap.size + 3 + 1) := ⟨h.b.lt⟩
  haveI g4 : Ge W3 w.heap.size := ⟨h.bel.size⟩
  have k0 := h.o.c0
  have k1 := h.o.c1
  have k2 := h.o.c2
  have k3 := h.o.c3
  have k4 := h.o.c4
  have k5 := h.o.c5
  have xa0 := h.a.c0
  have xa1 := h.a.c1
  have xb0 := h.b.c0
  have xb1 := h.b.c1
  have xr0 := h.r.c0
  have xr1 := h.r.c1
  have fr0 := h.r.f0
  have fr1 := h.r.f1
  go_wp2_with (go_at_call 168; (with_reducible refine (BC _ h.bel).mono ?_); rintro _ _ ⟨nn, rfl, rfl⟩)
  have bz := h.r.below (w' := nn.val) (by (repeat' first | (with_reducible first | exact Below.refl _ _ | assumption | refine Later.belowOf _ ?_ ?_ | refine Below.alloc ?_ ?_ _ | refine Below.setCell ?_ ?_ _ | refine Below.drewN' _ ?_ | refine Below.drew ?_ | exact Ge.le) | go_size))
  have hb := h.bel
  exact bodyPost_ret (v := .tuple #[(.agg #[.float .f64 r1, .float .f64 r2]), .bool ok]) (by simp [results, Tryz.results87, go_sem, bz.set0, bz.set1]) rfl (val2_mk rfl (by (repeat' first | (with_reducible first | exact Below.refl _ _ | assumption | refine Later.belowOf _ ?_ ?_ | refine Below.alloc ?_ ?_ _ | refine Below.setCell ?_ ?_ _ | refine Below.drewN' _ ?_ | refine Below.drew ?_ | exact Ge.le) | go_size)))

set_option maxHeartbeats 4000000 in
set_option maxRecDepth 100000 in
theorem lvalue_6 (w : World) (N : Int) (lo hi : Nat) (vx : Value) (ia ib bv ov cv nv a1 a2 b1 b2 : Nat) (ha : ia < nv) (ca0 : w.cell? ⟨bv, ov + ia * 2, none⟩ = some (.float .f64 a1)) (ca1 : w.cell? ⟨bv, ov + ia * 2 + 1, none⟩ = some (.float .f64 a2)) (hb : ib < nv) (cb0 : w.cell? ⟨bv, ov + ib * 2, none⟩ = some (.float .f64 b1)) (cb1 : w.cell? ⟨bv, ov + ib * 2 + 1, none⟩ = some (.float .f64 b2)) (r1 r2 : Nat) (ok : Bool) (BC : ∀ W, Below w.heap.size w W → Calls Tryz.prog 168 #[(.agg #[.int .i64 6, .int .i64 ia, .int .i64 ib, .int .i64 N, .float .f64 lo, .float .f64 hi]), (.agg #[.float .f64 a1, .float .f64 a2]), (.agg #[.float .f64 b1, .float .f64 b2]), vx] W (Val2 W (r1, r2) ok)) : Calls Tryz.prog 87 #[(.agg #[.int .i64 6, .int .i64 ia, .int .i64 ib, .int .i64 N, .float .f64 lo, .float .f64 hi]), .slice (some ⟨bv, ov, none⟩) nv cv, vx] w (Val2 w (r1, r2) ok) := by
  have ia0 : (0 : Int) ≤ (ia : Int) := by omega
  have ia1 : (ia : Int) < (nv : Int) := by omega
  have ib0 : (0 : Int) ≤ (ib : Int) := by omega
  have ib1 : (ib : Int) < (nv : Int) := by omega
  have hn := args_any 6
  rw [show needI 6 = 2 by decide] at hn
  go_enter Tryz.func87, Tryz.ntmps87
  go_upto_region 3 with (go_at_call 103; (with_reducible refine (hn.go _).mono ?_); rintro _ _ ⟨n, rfl, rfl⟩)
  have h0 := (vw_start w 6 (ia) (ib) (N) lo hi).later n
  refine cut_world (fun W hW => ?_)
  have h := h0
  rw [hW] at h
  clear hW h0
  haveI g0 : Ge W (w.heap.size + 1) := ⟨h.o.lt⟩
  haveI g1 : Ge W (w.heap.size + 1 + 1) := ⟨h.r.lt⟩
  haveI g2 : Ge W (w.heap.size + 2 + 1) := ⟨h.a.lt⟩
  haveI g3 : Ge W (w.heap.size + 3 + 1) := ⟨h.b.lt⟩
  haveI g4 : Ge W w.heap.size := ⟨h.bel.size⟩
  have k0 := h.o.c0
  have k1 := h.o.c1
  have k2 := h.o.c2
  have k3 := h.o.c3
  have k4 := h.o.c4
  have k5 := h.o.c5
  have xa0 := h.a.c0
  have xa1 := h.a.c1
  have xb0 := h.b.c0
  have xb1 := h.b.c1
  have fa0 := h.a.f0
  have fa1 := h.a.f1
  have fb0 := h.b.f0
  have fb1 := h.b.f1
  have v0 := cellBelow h.bel ca0
  have v1 := cellBelow h.bel ca1
  go_upto_region 4 with (fail)
  have h0 := h.setA a1 a2
  clear g0 g1 g2 g3 g4 k0 k1 k2 k3 k4 k5 xa0 xa1 xb0 xb1 fa0 fa1 fb0 fb1 v0 v1 h
  refine cut_world (fun W1 hW => ?_)
  have h := h0
  rw [hW] at h
  clear hW h0
  haveI g0 : Ge W1 (w.heap.size + 1) := ⟨h.o.lt⟩
  haveI g1 : Ge W1 (w.heap.size + 1 + 1) := ⟨h.r.lt⟩
  haveI g2 : Ge W1 (w.heap.size + 2 + 1) := ⟨h.a.lt⟩
  haveI g3 : Ge W1 (w.heap.size + 3 + 1) := ⟨h.b.lt⟩
  haveI g4 : Ge W1 w.heap.size := ⟨h.bel.size⟩
  have k0 := h.o.c0
  have k1 := h.o.c1
  have k2 := h.o.c2
  have k3 := h.o.c3
  have k4 := h.o.c4
  have k5 := h.o.c5
  go_upto_region 5 with (go_at_call 103; (with_reducible refine (hn.go _).mono ?_); rintro _ _ ⟨n, rfl, rfl⟩)
  have h0 := h.later n
  clear g0 g1 g2 g3 g4 k0 k1 k2 k3 k4 k5 h
  refine cut_world (fun W2 hW => ?_)
  have h := h0
  rw [hW] at h
  clear hW h0 hn
  haveI g0 : Ge W2 (w.heap.size + 1) := ⟨h.o.lt⟩
  haveI g1 : Ge W2 (w.heap.size + 1 + 1) := ⟨h.r.lt⟩
  haveI g2 : Ge W2 (w.heap.size + 2 + 1) := ⟨h.a.lt⟩
  haveI g3 : Ge W2 (w.heap.size + 3 + 1) := ⟨h.b.lt⟩
  haveI g4 : Ge W2 w.heap.size := ⟨h.bel.size⟩
  have k0 := h.o.c0
  have k1 := h.o.c1
  have k2 := h.o.c2
  have k3 := h.o.c3
  have k4 := h.o.c4
  have k5 := h.o.c5
  have xa0 := h.a.c0
  have xa1 := h.a.c1
  have xb0 := h.b.c0
  have xb1 := h.b.c1
  have fa0 := h.a.f0
  have fa1 := h.a.f1
  have fb0 := h.b.f0
  have fb1 := h.b.f1
  have v0 := cellBelow h.bel cb0
  have v1 := cellBelow h.bel cb1
  go_upto_region 6 with (fail)
  have h0 := h.setB b1 b2
  clear g0 g1 g2 g3 g4 k0 k1 k2 k3 k4 k5 xa0 xa1 xb0 xb1 fa0 fa1 fb0 fb1 v0 v1 h
  refine cut_world (fun W3 hW => ?_)
  have h := h0
  rw [hW] at h
  clear hW h0
  haveI g0 : Ge W3 (w.heap.size + 1) := ⟨h.o.lt⟩
  haveI g1 : Ge W3 (w.heap.size + 1 + 1) := ⟨h.r.lt⟩
  haveI g2 : Ge W3 (w.heap.size + 2 + 1) := ⟨h.a.lt⟩
  haveI g3 : Ge W3 (w.heap.size + 3 + 1) := ⟨h.b.lt⟩
  haveI g4 : Ge W3 w.heap.size := ⟨h.bel.size⟩
  have k0 := h.o.c0
  have k1 := h.o.c1
  have k2 := h.o.c2
  have k3 := h.o.c3
  have k4 := h.o.c4
  have k5 := h.o.c5
  have xa0 := h.a.c0
  have xa1 := h.a.c1
  have xb0 := h.b.c0
  have xb1 := h.b.c1
  have xr0 := h.r.c0
  have xr1 := h.r.c1
  have fr0 := h.r.f0
  have fr1 := h.r.f1
  go_wp2_with (go_at_call 168; (with_reducible refine (BC _ h.bel).mono ?_); rintro _ _ ⟨nn, rfl, rfl⟩)
  have bz := h.r.below (w' := nn.val) (by (repeat' first | (with_reducible first | exact Below.refl _ _ | assumption | refine Later.belowOf _ ?_ ?_ | refine Below.alloc ?_ ?_ _ | refine Below.setCell ?_ ?_ _ | refine Below.drewN' _ ?_ | refine Below.drew ?_ | exact Ge.le) | go_size))
  have hb := h.bel
  exact bodyPost_ret (v := .tuple #[(.agg #[.float .f64 r1, .float .f64 r2]), .bool ok]) (by simp [results, Tryz.results87, go_sem, bz.set0, bz.set1]) rfl (val2_mk rfl (by (repeat' first | (with_reducible first | exact Below.refl _ _ | assumption | refine Later.belowOf _ ?_ ?_ | refine Below.alloc ?_ ?_ _ | refine Below.setCell ?_ ?_ _ | refine Below.drewN' _ ?_ | refine Below.drew ?_ | exact Ge.le) | go_size)))

set_option maxHeartbeats 4000000 in
set_option maxRecDepth 100000 in
theorem lvalue_10 (w : World) (B N : Int) (lo hi : Nat) (vx : Value) (ia bv ov cv nv a1 a2 r1 r2 : Nat) (ha : ia < nv) (ca0 : w.cell? ⟨bv, ov + ia * 2, none⟩ = some (.float .f64 a1)) (ca1 : w.cell? ⟨bv, ov + ia * 2 + 1, none⟩ = some (.float .f64 a2)) (C : Gives 19 #[(.agg #[.float .f64 a1, .float .f64 a2])] (.agg #[.float .f64 r1, .float .f64 r2])) : Calls Tryz.prog 87 #[(.agg #[.int .i64 10, .int .i64 ia, .int .i64 B, .int .i64 N, .float .f64 lo, .float .f64 hi]), .slice (some ⟨bv, ov, none⟩) nv cv, vx] w (Val2 w (r1, r2) true) := by
  have ia0 : (0 : Int) ≤ (ia : Int) := by omega
  have ia1 : (ia : Int) < (nv : Int) := by omega
  have hn := args_any 10
  rw [show needI 10 = 1 by decide] at hn
  go_enter Tryz.func87, Tryz.ntmps87
  go_upto_region 3 with (go_at_call 103; (with_reducible refine (hn.go _).mono ?_); rintro _ _ ⟨n, rfl, rfl⟩)
  have h0 := (vw_start w 10 (ia) (B) (N) lo hi).later n
  refine cut_world (fun W hW => ?_)
  have h := h0
  rw [hW] at h
  clear hW h0
  haveI g0 : Ge W (w.heap.size + 1) := ⟨h.o.lt⟩
  haveI g1 : Ge W (w.heap.size + 1 + 1) := ⟨h.r.lt⟩
  haveI g2 : Ge W (w.heap.size + 2 + 1) := ⟨h.a.lt⟩
  haveI g3 : Ge W (w.heap.size + 3 + 1) := ⟨h.b.lt⟩
  haveI g4 : Ge W w.heap.size := ⟨h.bel.size⟩
  have k0 := h.o.c0
  have k1 := h.o.c1
  have k2 := h.o.c2
  have k3 := h.o.c3
  have k4 := h.o.c4
  have k5 := h.o.c5
  have xa0 := h.a.c0
  have xa1 := h.a.c1
  have xb0 := h.b.c0
  have xb1 := h.b.c1
  have fa0 := h.a.f0
  have fa1 := h.a.f1
  have fb0 := h.b.f0
  have fb1 := h.b.f1
  have v0 := cellBelow h.bel ca0
  have v1 := cellBelow h.bel ca1
  go_upto_region 4 with (fail)
  have h0 := h.setA a1 a2
  clear g0 g1 g2 g3 g4 k0 k1 k2 k3 k4 k5 xa0 xa1 xb0 xb1 fa0 fa1 fb0 fb1 v0 v1 h
  refine cut_world (fun W1 hW => ?_)
  have h := h0
  rw [hW] at h
  clear hW h0
  haveI g0 : Ge W1 (w.heap.size + 1) := ⟨h.o.lt⟩
  haveI g1 : Ge W1 (w.heap.size + 1 + 1) := ⟨h.r.lt⟩
  haveI g2 : Ge W1 (w.heap.size + 2 + 1) := ⟨h.a.lt⟩
  haveI g3 : Ge W1 (w.heap.size + 3 + 1) := ⟨h.b.lt⟩
  haveI g4 : Ge W1 w.heap.size := ⟨h.bel.size⟩
  have k0 := h.o.c0
  have k1 := h.o.c1
  have k2 := h.o.c2
  have k3 := h.o.c3
  have k4 := h.o.c4
  have k5 := h.o.c5
  go_upto_region 6 with (go_at_call 103; (with_reducible refine (hn.go _).mono ?_); rintro _ _ ⟨n, rfl, rfl⟩)
  have h0 := h.later n
  clear g0 g1 g2 g3 g4 k0 k1 k2 k3 k4 k5 h
  refine cut_world (fun W2 hW => ?_)
  have h := h0
  rw [hW] at h
  clear hW h0 hn
  haveI g0 : Ge W2 (w.heap.size + 1) := ⟨h.o.lt⟩
  haveI g1 : Ge W2 (w.heap.size + 1 + 1) := ⟨h.r.lt⟩
  haveI g2 : Ge W2 (w.heap.size + 2 + 1) := ⟨h.a.lt⟩
  haveI g3 : Ge W2 (w.heap.size + 3 + 1) := ⟨h.b.lt⟩
  haveI g4 : Ge W2 w.heap.size := ⟨h.bel.size⟩
  have k0 := h.o.c0
  have k1 := h.o.c1
  have k2 := h.o.c2
  have k3 := h.o.c3
  have k4 := h.o.c4
  have k5 := h.o.c5
  have xa0 := h.a.c0
  have xa1 := h.a.c1
  have xb0 := h.b.c0
  have xb1 := h.b.c1
  have xr0 := h.r.c0
  have xr1 := h.r.c1
  have fr0 := h.r.f0
  have fr1 := h.r.f1
  go_wp2_with (first | (go_at_call 19; (with_reducible refine (C.go _).mono ?_); rintro _ _ ⟨nn, rfl, rfl⟩))
  have bz := h.r.below (w' := nn.val) (by (repeat' first | (with_reducible first | exact Below.refl _ _ | assumption | refine Later.belowOf _ ?_ ?_ | refine Below.alloc ?_ ?_ _ | refine Below.setCell ?_ ?_ _ | refine Below.drewN' _ ?_ | refine Below.drew ?_ | exact Ge.le) | go_size))
  have hb := h.bel
  exact bodyPost_ret (v := .tuple #[(.agg #[.float .f64 r1, .float .f64 r2]), .bool true]) (by simp [results, Tryz.results87, go_sem, bz.set0, bz.set1]) rfl (val2_mk rfl (by (repeat' first | (with_reducible first | exact Below.refl _ _ | assumption | refine Later.belowOf _ ?_ ?_ | refine Below.alloc ?_ ?_ _ | refine Below.setCell ?_ ?_ _ | refine Below.drewN' _ ?_ | refine Below.drew ?_ | exact Ge.le) | go_size)))

set_option maxHeartbeats 4000000 in
set_option maxRecDepth 100000 in
theorem lvalue_11 (w : World) (B N : Int) (lo hi : Nat) (vx : Value) (ia bv ov cv nv a1 a2 r1 r2 : Nat) (ha : ia < nv) (ca0 : w.cell? ⟨bv, ov + ia * 2, none⟩ = some (.float .f64 a1)) (ca1 : w.cell? ⟨bv, ov + ia * 2 + 1, none⟩ = some (.float .f64 a2)) (C : Gives 165 #[(.agg #[.float .f64 a1, .float .f64 a2])] (.agg #[.float .f64 r1, .float .f64 r2])) : Calls Tryz.prog 87 #[(.agg #[.int .i64 11, .int .i64 ia, .int .i64 B, .int .i64 N, .float .f64 lo, .float .f64 hi]), .slice (some ⟨bv, ov, none⟩) nv cv, vx] w (Val2 w (r1, r2) (flt 0 a1)) := by
  have ia0 : (0 : Int) ≤ (ia : Int) := by omega
  have ia1 : (ia : Int) < (nv : Int) := by omega
  have hn := args_any 11
  rw [show needI 11 = 1 by decide] at hn
  go_enter Tryz.func87, Tryz.ntmps87
  go_upto_region 3 with (go_at_call 103; (with_reducible refine (hn.go _).mono ?_); rintro _ _ ⟨n, rfl, rfl⟩)
  have h0 := (vw_start w 11 (ia) (B) (N) lo hi).later n
  refine cut_world (fun W hW => ?_)
  have h := h0
  rw [hW] at h
  clear hW h0
  haveI g0 : Ge W (w.heap.size + 1) := ⟨h.o.lt⟩
  haveI g1 : Ge W (w.heap.size + 1 + 1) := ⟨h.r.lt⟩
  haveI g2 : Ge W (w.heap.size + 2 + 1) := ⟨h.a.lt⟩
  haveI g3 : Ge W (w.heap.size + 3 + 1) := ⟨h.b.lt⟩
  haveI g4 : Ge W w.heap.size := ⟨h.bel.size⟩
  have k0 := h.o.c0
  have k1 := h.o.c1
  have k2 := h.o.c2
  have k3 := h.o.c3
  have k4 := h.o.c4
  have k5 := h.o.c5
  have xa0 := h.a.c0
  have xa1 := h.a.c1
  have xb0 := h.b.c0
  have xb1 := h.b.c1
  have fa0 := h.a.f0
  have fa1 := h.a.f1
  have fb0 := h.b.f0
  have fb1 := h.b.f1
  have v0 := cellBelow h.bel ca0
  have v1 := cellBelow h.bel ca1
  go_upto_region 4 with (fail)
  have h0 := h.setA a1 a2
  clear g0 g1 g2 g3 g4 k0 k1 k2 k3 k4 k5 xa0 xa1 xb0 xb1 fa0 fa1 fb0 fb1 v0 v1 h
  refine cut_world (fun W1 hW => ?_)
  have h := h0
  rw [hW] at h
  clear hW h0
  haveI g0 : Ge W1 (w.heap.size + 1) := ⟨h.o.lt⟩
  haveI g1 : Ge W1 (w.heap.size + 1 + 1) := ⟨h.r.lt⟩
  haveI g2 : Ge W1 (w.heap.size + 2 + 1) := ⟨h.a.lt⟩
  haveI g3 : Ge W1 (w.heap.size + 3 + 1) := ⟨h.b.lt⟩
  haveI g4 : Ge W1 w.heap.size := ⟨h.bel.size⟩
  have k0 := h.o.c0
  have k1 := h.o.c1
  have k2 := h.o.c2
  have k3 := h.o.c3
  have k4 := h.o.c4
  have k5 := h.o.c5
  go_upto_region 6 with (go_at_call 103; (with_reducible refine (hn.go _).mono ?_); rintro _ _ ⟨n, rfl, rfl⟩)
  have h0 := h.later n
  clear g0 g1 g2 g3 g4 k0 k1 k2 k3 k4 k5 h
  refine cut_world (fun W2 hW => ?_)
  have h := h0
  rw [hW] at h
  clear hW h0 hn
  haveI g0 : Ge W2 (w.heap.size + 1) := ⟨h.o.lt⟩
  haveI g1 : Ge W2 (w.heap.size + 1 + 1) := ⟨h.r.lt⟩
  haveI g2 : Ge W2 (w.heap.size + 2 + 1) := ⟨h.a.lt⟩
  haveI g3 : Ge W2 (w.heap.size + 3 + 1) := ⟨h.b.lt⟩
  haveI g4 : Ge W2 w.heap.size := ⟨h.bel.size⟩
  have k0 := h.o.c0
  have k1 := h.o.c1
  have k2 := h.o.c2
  have k3 := h.o.c3
  have k4 := h.o.c4
  have k5 := h.o.c5
  have xa0 := h.a.c0
  have xa1 := h.a.c1
  have xb0 := h.b.c0
  have xb1 := h.b.c1
  have xr0 := h.r.c0
  have xr1 := h.r.c1
  have fr0 := h.r.f0
  have fr1 := h.r.f1
  go_wp2_with (fail)
  first | (go_region_held3 (fun w' => w'.cell? ⟨w.heap.size + 2, 0, none⟩ = some (.float .f64 a1) ∧ w'.cell? ⟨w.heap.size + 2, 1, none⟩ = some (.float .f64 a2))
    (first | (go_simp; done) | go_keep)
    ((first | (go_at_call 165; (with_reducible refine (C.go _).mono ?_); rintro _ _ ⟨nn, rfl, rfl⟩)))) | fail "region"
  all_goals
    rename_i hHeld
    clear hHeld
    go_wp2
    have hb := h.bel
    exact bodyPost_ret (v := .tuple #[(.agg #[.float .f64 r1, .float .f64 r2]), .bool (flt 0 a1)]) (by simp [results, Tryz.results87, go_sem, xr0, xr1]) rfl (val2_mk rfl (by (repeat' first | (with_reducible first | exact Below.refl _ _ | assumption | refine Later.belowOf _ ?_ ?_ | refine Below.alloc ?_ ?_ _ | refine Below.setCell ?_ ?_ _ | refine Below.drewN' _ ?_ | refine Below.drew ?_ | exact Ge.le) | go_size)))

set_option maxHeartbeats 4000000 in
set_option maxRecDepth 100000 in
theorem lvalue_12 (w : World) (B N : Int) (lo hi : Nat) (vx : Value) (ia bv ov cv nv a1 a2 r1 r2 : Nat) (ha : ia < nv) (ca0 : w.cell? ⟨bv, ov + ia * 2, none⟩ = some (.float .f64 a1)) (ca1 : w.cell? ⟨bv, ov + ia * 2 + 1, none⟩ = some (.float .f64 a2)) (C : Gives 24 #[(.agg #[.float .f64 a1, .float .f64 a2])] (.agg #[.float .f64 r1, .float .f64 r2])) : Calls Tryz.prog 87 #[(.agg #[.int .i64 12, .int .i64 ia, .int .i64 B, .int .i64 N, .float .f64 lo, .float .f64 hi]), .slice (some ⟨bv, ov, none⟩) nv cv, vx] w (Val2 w (r1, r2) true) := by
  have ia0 : (0 : Int) ≤ (ia : Int) := by omega
  have ia1 : (ia : Int) < (nv : Int) := by omega
  have hn := args_any 12
  rw [show needI 12 = 1 by decide] at hn
  go_enter Tryz.func87, Tryz.ntmps87
  go_upto_region 3 with (go_at_call 103; (with_reducible refine (hn.go _).mono ?_); rintro _ _ ⟨n, rfl, rfl⟩)
  have h0 := (vw_start w 12 (ia) (B) (N) lo hi).later n
  refine cut_world (fun W hW => ?_)
  have h := h0
  rw [hW] at h
  clear hW h0
  haveI g0 : Ge W (w.heap.size + 1) := ⟨h.o.lt⟩
  haveI g1 : Ge W (w.heap.size + 1 + 1) := ⟨h.r.lt⟩
  haveI g2 : Ge W (w.heap.size + 2 + 1) := ⟨h.a.lt⟩
  haveI g3 : Ge W (w.heap.size + 3 + 1) := ⟨h.b.lt⟩
  haveI g4 : Ge W w.heap.size := ⟨h.bel.size⟩
  have k0 := h.o.c0
  have k1 := h.o.c1
  have k2 := h.o.c2
  have k3 := h.o.c3
  have k4 := h.o.c4
  have k5 := h.o.c5
  have xa0 := h.a.c0
  have xa1 := h.a.c1
  have xb0 := h.b.c0
  have xb1 := h.b.c1
  have fa0 := h.a.f0
  have fa1 := h.a.f1
  have fb0 := h.b.f0
  have fb1 := h.b.f1
  have v0 := cellBelow h.bel ca0
  have v1 := cellBelow h.bel ca1
  go_upto_region 4 with (fail)
  have h0 := h.setA a1 a2
  clear g0 g1 g2 g3 g4 k0 k1 k2 k3 k4 k5 xa0 xa1 xb0 xb1 fa0 fa1 fb0 fb1 v0 v1 h
  refine cut_world (fun W1 hW => ?_)
  have h := h0
  rw [hW] at h
  clear hW h0
  haveI g0 : Ge W1 (w.heap.size + 1) := ⟨h.o.lt⟩
  haveI g1 : Ge W1 (w.heap.size + 1 + 1) := ⟨h.r.lt⟩
  haveI g2 : Ge W1 (w.heap.size + 2 + 1) := ⟨h.a.lt⟩
  haveI g3 : Ge W1 (w.heap.size + 3 + 1) := ⟨h.b.lt⟩
  haveI g4 : Ge W1 w.heap.size := ⟨h.bel.size⟩
  have k0 := h.o.c0
  have k1 := h.o.c1
  have k2 := h.o.c2
  have k3 := h.o.c3
  have k4 := h.o.c4
  have k5 := h.o.c5
  go_upto_region 6 with (go_at_call 103; (with_reducible refine (hn.go _).mono ?_); rintro _ _ ⟨n, rfl, rfl⟩)
  have h0 := h.later n
  clear g0 g1 g2 g3 g4 k0 k1 k2 k3 k4 k5 h
  refine cut_world (fun W2 hW => ?_)
  have h := h0
  rw [hW] at h
  clear hW h0 hn
  haveI g0 : Ge W2 (w.heap.size + 1) := ⟨h.o.lt⟩
  haveI g1 : Ge W2 (w.heap.size + 1 + 1) := ⟨h.r.lt⟩
  haveI g2 : Ge W2 (w.heap.size + 2 + 1) := ⟨h.a.lt⟩
  haveI g3 : Ge W2 (w.heap.size + 3 + 1) := ⟨h.b.lt⟩
  haveI g4 : Ge W2 w.heap.size := ⟨h.bel.size⟩
  have k0 := h.o.c0
  have k1 := h.o.c1
  have k2 := h.o.c2
  have k3 := h.o.c3
  have k4 := h.o.c4
  have k5 := h.o.c5
  have xa0 := h.a.c0
  have xa1 := h.a.c1
  have xb0 := h.b.c0
  have xb1 := h.b.c1
  have xr0 := h.r.c0
  have xr1 := h.r.c1
  have fr0 := h.r.f0
  have fr1 := h.r.f1
  go_wp2_with (first | (go_at_call 24; (with_reducible refine (C.go _).mono ?_); rintro _ _ ⟨nn, rfl, rfl⟩))
  have bz := h.r.below (w' := nn.val) (by (repeat' first | (with_reducible first | exact Below.refl _ _ | assumption | refine Later.belowOf _ ?_ ?_ | refine Below.alloc ?_ ?_ _ | refine Below.setCell ?_ ?_ _ | refine Below.drewN' _ ?_ | refine Below.drew ?_ | exact Ge.le) | go_size))
  have hb := h.bel
  exact bodyPost_ret (v := .tuple #[(.agg #[.float .f64 r1, .float .f64 r2]), .bool true]) (by simp [results, Tryz.results87, go_sem, bz.set0, bz.set1]) rfl (val2_mk rfl (by (repeat' first | (with_reducible first | exact Below.refl _ _ | assumption | refine Later.belowOf _ ?_ ?_ | refine Below.alloc ?_ ?_ _ | refine Below.setCell ?_ ?_ _ | refine Below.drewN' _ ?_ | refine Below.drew ?_ | exact Ge.le) | go_size)))

set_option maxHeartbeats 4000000 in
set_option maxRecDepth 100000 in
theorem lvalue_13 (w : World) (B N : Int) (lo hi : Nat) (vx : Value) (ia bv ov cv nv a1 a2 r1 r2 : Nat) (ha : ia < nv) (ca0 : w.cell? ⟨bv, ov + ia * 2, none⟩ = some (.float .f64 a1)) (ca1 : w.cell? ⟨bv, ov + ia * 2 + 1, none⟩ = some (.float .f64 a2)) (C : Gives 25 #[(.agg #[.float .f64 a1, .float .f64 a2])] (.agg #[.float .f64 r1, .float .f64 r2])) : Calls Tryz.prog 87 #[(.agg #[.int .i64 13, .int .i64 ia, .int .i64 B, .int .i64 N, .float .f64 lo, .float .f64 hi]), .slice (some ⟨bv, ov, none⟩) nv cv, vx] w (Val2 w (r1, r2) true) := by
  have ia0 : (0 : Int) ≤ (ia : Int) := by omega
  have ia1 : (ia : Int) < (nv : Int) := by omega
  have hn := args_any 13
  rw [show needI 13 = 1 by decide] at hn
  go_enter Tryz.func87, Tryz.ntmps87
  go_upto_region 3 with (go_at_call 103; (with_reducible refine (hn.go _).mono ?_); rintro _ _ ⟨n, rfl, rfl⟩)
  have h0 := (vw_start w 13 (ia) (B) (N) lo hi).later n
  refine cut_world (fun W hW => ?_)
  have h := h0
  rw [hW] at h
  clear hW h0
  haveI g0 : Ge W (w.heap.size + 1) := ⟨h.o.lt⟩
  haveI g1 : Ge W (w.heap.size + 1 + 1) := ⟨h.r.lt⟩
  haveI g2 : Ge W (w.heap.size + 2 + 1) := ⟨h.a.lt⟩
  haveI g3 : Ge W (w.heap.size + 3 + 1) := ⟨h.b.lt⟩
  haveI g4 : Ge W w.heap.size := ⟨h.bel.size⟩
  have k0 := h.o.c0
  have k1 := h.o.c1
  have k2 := h.o.c2
  have k3 := h.o.c3
  have k4 := h.o.c4
  have k5 := h.o.c5
  have xa0 := h.a.c0
  have xa1 := h.a.c1
  have xb0 := h.b.c0
  have xb1 := h.b.c1
  have fa0 := h.a.f0
  have fa1 := h.a.f1
  have fb0 := h.b.f0
  have fb1 := h.b.f1
  have v0 := cellBelow h.bel ca0
  have v1 := cellBelow h.bel ca1
  go_upto_region 4 with (fail)
  have h0 := h.setA a1 a2
  clear g0 g1 g2 g3 g4 k0 k1 k2 k3 k4 k5 xa0 xa1 xb0 xb1 fa0 fa1 fb0 fb1 v0 v1 h
  refine cut_world (fun W1 hW => ?_)
  have h := h0
  rw [hW] at h
  clear hW h0
  haveI g0 : Ge W1 (w.heap.size + 1) := ⟨h.o.lt⟩
  haveI g1 : Ge W1 (w.heap.size + 1 + 1) := ⟨h.r.lt⟩
  haveI g2 : Ge W1 (w.heap.size + 2 + 1) := ⟨h.a.lt⟩
  haveI g3 : Ge W1 (w.heap.size + 3 + 1) := ⟨h.b.lt⟩
  haveI g4 : Ge W1 w.heap.size := ⟨h.bel.size⟩
  have k0 := h.o.c0
  have k1 := h.o.c1
  have k2 := h.o.c2
  have k3 := h.o.c3
  have k4 := h.o.c4
  have k5 := h.o.c5
  go_upto_region 6 with (go_at_call 103; (with_reducible refine (hn.go _).mono ?_); rintro _ _ ⟨n, rfl, rfl⟩)
  have h0 := h.later n
  clear g0 g1 g2 g3 g4 k0 k1 k2 k3 k4 k5 h
  refine cut_world (fun W2 hW => ?_)
  have h := h0
  rw [hW] at h
  clear hW h0 hn
  haveI g0 : Ge W2 (w.heap.size + 1) := ⟨h.o.lt⟩
  haveI g1 : Ge W2 (w.heap.size + 1 + 1) := ⟨h.r.lt⟩
  haveI g2 : Ge W2 (w.heap.size + 2 + 1) := ⟨h.a.lt⟩
  haveI g3 : Ge W2 (w.heap.size + 3 + 1) := ⟨h.b.lt⟩
  haveI g4 : Ge W2 w.heap.size := ⟨h.bel.size⟩
  have k0 := h.o.c0
  have k1 := h.o.c1
  have k2 := h.o.c2
  have k3 := h.o.c3
  have k4 := h.o.c4
  have k5 := h.o.c5
  have xa0 := h.a.c0
  have xa1 := h.a.c1
  have xb0 := h.b.c0
  have xb1 := h.b.c1
  have xr0 := h.r.c0
  have xr1 := h.r.c1
  have fr0 := h.r.f0
  have fr1 := h.r.f1
  go_wp2_with (first | (go_at_call 25; (with_reducible refine (C.go _).mono ?_); rintro _ _ ⟨nn, rfl, rfl⟩))
  have bz := h.r.below (w' := nn.val) (by (repeat' first | (with_reducible first | exact Below.refl _ _ | assumption | refine Later.belowOf _ ?_ ?_ | refine Below.alloc ?_ ?_ _ | refine Below.setCell ?_ ?_ _ | refine Below.drewN' _ ?_ | refine Below.drew ?_ | exact Ge.le) | go_size))
  have hb := h.bel
  exact bodyPost_ret (v := .tuple #[(.agg #[.float .f64 r1, .float .f64 r2]), .bool true]) (by simp [results, Tryz.results87, go_sem, bz.set0, bz.set1]) rfl (val2_mk rfl (by (repeat' first | (with_reducible first | exact Below.refl _ _ | assumption | refine Later.belowOf _ ?_ ?_ | refine Below.alloc ?_ ?_ _ | refine Below.setCell ?_ ?_ _ | refine Below.drewN' _ ?_ | refine Below.drew ?_ | exact Ge.le) | go_size)))

set_option maxHeartbeats 4000000 in
set_option maxRecDepth 100000 in
theorem lvalue_14 (w : World) (B N : Int) (lo hi : Nat) (vx : Value) (ia bv ov cv nv a1 a2 r1 r2 : Nat) (ha : ia < nv) (ca0 : w.cell? ⟨bv, ov + ia * 2, none⟩ = some (.float .f64 a1)) (ca1 : w.cell? ⟨bv, ov + ia * 2 + 1, none⟩ = some (.float .f64 a2)) (C : Gives 166 #[(.agg #[.float .f64 a1, .float .f64 a2])] (.agg #[.float .f64 r1, .float .f64 r2])) : Calls Tryz.prog 87 #[(.agg #[.int .i64 14, .int .i64 ia, .int .i64 B, .int .i64 N, .float .f64 lo, .float .f64 hi]), .slice (some ⟨bv, ov, none⟩) nv cv, vx] w (Val2 w (r1, r2) true) := by
  have ia0 : (0 : Int) ≤ (ia : Int) := by omega
  have ia1 : (ia : Int) < (nv : Int) := by omega
  have hn := args_any 14
  rw [show needI 14 = 1 by decide] at hn
  go_enter Tryz.func87, Tryz.ntmps87
  go_upto_region 3 with (go_at_call 103; (with_reducible refine (hn.go _).mono ?_); rintro _ _ ⟨n, rfl, rfl⟩)
  have h0 := (vw_start w 14 (ia) (B) (N) lo hi).later n
  refine cut_world (fun W hW => ?_)
  have h := h0
  rw [hW] at h
  clear hW h0
  haveI g0 : Ge W (w.heap.size + 1) := ⟨h.o.lt⟩
  haveI g1 : Ge W (w.heap.size + 1 + 1) := ⟨h.r.lt⟩
  haveI g2 : Ge W (w.heap.size + 2 + 1) := ⟨h.a.lt⟩
  haveI g3 : Ge W (w.heap.size + 3 + 1) := ⟨h.b.lt⟩
  haveI g4 : Ge W w.heap.size := ⟨h.bel.size⟩
  have k0 := h.o.c0
  have k1 := h.o.c1
  have k2 := h.o.c2
  have k3 := h.o.c3
  have k4 := h.o.c4
  have k5 := h.o.c5
  have xa0 := h.a.c0
  have xa1 := h.a.c1
  have xb0 := h.b.c0
  have xb1 := h.b.c1
  have fa0 := h.a.f0
  have fa1 := h.a.f1
  have fb0 := h.b.f0
  have fb1 := h.b.f1
  have v0 := cellBelow h.bel ca0
  have v1 := cellBelow h.bel ca1
  go_upto_region 4 with (fail)
  have h0 := h.setA a1 a2
  clear g0 g1 g2 g3 g4 k0 k1 k2 k3 k4 k5 xa0 xa1 xb0 xb1 fa0 fa1 fb0 fb1 v0 v1 h
  refine cut_world (fun W1 hW => ?_)
  have h := h0
  rw [hW] at h
  clear hW h0
  haveI g0 : Ge W1 (w.heap.size + 1) := ⟨h.o.lt⟩
  haveI g1 : Ge W1 (w.heap.size + 1 + 1) := ⟨h.r.lt⟩
  haveI g2 : Ge W1 (w.heap.size + 2 + 1) := ⟨h.a.lt⟩
  haveI g3 : Ge W1 (w.heap.size + 3 + 1) := ⟨h.b.lt⟩
  haveI g4 : Ge W1 w.heap.size := ⟨h.bel.size⟩
  have k0 := h.o.c0
  have k1 := h.o.c1
  have k2 := h.o.c2
  have k3 := h.o.c3
  have k4 := h.o.c4
  have k5 := h.o.c5
  go_upto_region 6 with (go_at_call 103; (with_reducible refine (hn.go _).mono ?_); rintro _ _ ⟨n, rfl, rfl⟩)
  have h0 := h.later n
  clear g0 g1 g2 g3 g4 k0 k1 k2 k3 k4 k5 h
  refine cut_world (fun W2 hW => ?_)
  have h := h0
  rw [hW] at h
  clear hW h0 hn
  haveI g0 : Ge W2 (w.heap.size + 1) := ⟨h.o.lt⟩
  haveI g1 : Ge W2 (w.heap.size + 1 + 1) := ⟨h.r.lt⟩
  haveI g2 : Ge W2 (w.heap.size + 2 + 1) := ⟨h.a.lt⟩
  haveI g3 : Ge W2 (w.heap.size + 3 + 1) := ⟨h.b.lt⟩
  haveI g4 : Ge W2 w.heap.size := ⟨h.bel.size⟩
  have k0 := h.o.c0
  have k1 := h.o.c1
  have k2 := h.o.c2
  have k3 := h.o.c3
  have k4 := h.o.c4
  have k5 := h.o.c5
  have xa0 := h.a.c0
  have xa1 := h.a.c1
  have xb0 := h.b.c0
  have xb1 := h.b.c1
  have xr0 := h.r.c0
  have xr1 := h.r.c1
  have fr0 := h.r.f0
  have fr1 := h.r.f1
  go_wp2_with (first | (go_at_call 166; (with_reducible refine (C.go _).mono ?_); rintro _ _ ⟨nn, rfl, rfl⟩))
  have bz := h.r.below (w' := nn.val) (by (repeat' first | (with_reducible first | exact Below.refl _ _ | assumption | refine Later.belowOf _ ?_ ?_ | refine Below.alloc ?_ ?_ _ | refine Below.setCell ?_ ?_ _ | refine Below.drewN' _ ?_ | refine Below.drew ?_ | exact Ge.le) | go_size))
  have hb := h.bel
  exact bodyPost_ret (v := .tuple #[(.agg #[.float .f64 r1, .float .f64 r2]), .bool true]) (by simp [results, Tryz.results87, go_sem, bz.set0, bz.set1]) rfl (val2_mk rfl (by (repeat' first | (with_reducible first | exact Below.refl _ _ | assumption | refine Later.belowOf _ ?_ ?_ | refine Below.alloc ?_ ?_ _ | refine Below.setCell ?_ ?_ _ | refine Below.drewN' _ ?_ | refine Below.drew ?_ | exact Ge.le) | go_size)))

end Go.Proofs.YtpkgpkabmechkaaGreat
