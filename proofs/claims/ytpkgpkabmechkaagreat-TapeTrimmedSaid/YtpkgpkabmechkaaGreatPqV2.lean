/- Contracts: the value of a tape's operation, kind by kind (printed by wip/genvalue.py). -/
import Derived.Test.YtpkgpkabmechkaaGreatPqE10
import Derived.Test.YtpkgpkabmechkaaGreatPqT5x
namespace Go.Proofs.YtpkgpkabmechkaaGreat
set_option linter.unusedSimpArgs false
set_option linter.unusedVariables false
open Go.RowKit
open Fl

/-- At a call, in whatever world that comes later. -/
def Val2 (w : World) (x : Nat × Nat) (ok : Bool) (e : Ending) (w' : World) : Prop := ∃ n : Later w, e = .returned (.tuple #[(.agg #[.float .f64 x.1, .float .f64 x.2]), .bool ok]) ∧ w' = n.val
theorem val2_mk {w w' : World} {p q : Nat} {ok : Bool} {e : Ending} (he : e = .returned (.tuple #[(.agg #[.float .f64 p, .float .f64 q]), .bool ok])) (hb : Below w.heap.size w w') : Val2 w (p, q) ok e w' := ⟨⟨w', hb⟩, he, rfl⟩

/-- Block b holds an operation. -/
structure BoxO (w : World) (b : Nat) (K A B N : Int) (lo hi : Nat) : Prop where
  blk : w.heap[b]? = some (Obj.cells #[.int .i64 K, .int .i64 A, .int .i64 B, .int .i64 N, (.float .f64 lo), (.float .f64 hi)] 66)
namespace BoxO
variable {w : World} {b : Nat} {K A B N : Int} {lo hi : Nat}
theorem c0 (h : BoxO w b K A B N lo hi) : w.cell? ⟨b, 0, none⟩ = some (.int .i64 K) := by simp [World.cell?, h.blk]
theorem c1 (h : BoxO w b K A B N lo hi) : w.cell? ⟨b, 1, none⟩ = some (.int .i64 A) := by simp [World.cell?, h.blk]
theorem c2 (h : BoxO w b K A B N lo hi) : w.cell? ⟨b, 2, none⟩ = some (.int .i64 B) := by simp [World.cell?, h.blk]
theorem c3 (h : BoxO w b K A B N lo hi) : w.cell? ⟨b, 3, none⟩ = some (.int .i64 N) := by simp [World.cell?, h.blk]
theorem c4 (h : BoxO w b K A B N lo hi) : w.cell? ⟨b, 4, none⟩ = some (.float .f64 lo) := by simp [World.cell?, h.blk]
theorem c5 (h : BoxO w b K A B N lo hi) : w.cell? ⟨b, 5, none⟩ = some (.float .f64 hi) := by simp [World.cell?, h.blk]
theorem lt (h : BoxO w b K A B N lo hi) : b < w.heap.size := by
  rcases Nat.lt_or_ge b w.heap.size with h' | h'
  · exact h'
  · have := h.blk; simp [Array.getElem?_eq_none h'] at this
theorem below (h : BoxO w b K A B N lo hi) {w' : World} (hb : Below w.heap.size w w') : BoxO w' b K A B N lo hi := ⟨(hb.block b h.lt).trans h.blk⟩
theorem later (h : BoxO w b K A B N lo hi) (n : Later w) : BoxO n.val b K A B N lo hi := h.below n.below
theorem set_other (h : BoxO w b K A B N lo hi) {a : Addr} (v : Value) (ha : a.block ≠ b) : BoxO (w.setCell a v) b K A B N lo hi := ⟨by rw [Below.heap_setCell _ _ _ _ (fun e => ha e.symm)]; exact h.blk⟩
theorem new (w : World) (K A B N : Int) (lo hi : Nat) : BoxO (w.alloc (Obj.cells #[.int .i64 K, .int .i64 A, .int .i64 B, .int .i64 N, (.float .f64 lo), (.float .f64 hi)] 66)) w.heap.size K A B N lo hi := ⟨by unfold World.alloc; simp [Array.getElem?_push]⟩
end BoxO

/-- The world of tape.value behind its head: the operation's block, the result's, the operands'. -/
structure VW (w W : World) (K A B N : Int) (lo hi : Nat) (a b : Nat × Nat) : Prop where
  o : BoxO W w.heap.size K A B N lo hi
  r : Box W (w.heap.size + 1) (0, 0)
  a : Box W (w.heap.size + 2) a
  b : Box W (w.heap.size + 3) b
  bel : Below w.heap.size w W
theorem vw_start (w : World) (K A B N : Int) (lo hi : Nat) : VW w ((((w.alloc (Obj.cells #[.int .i64 K, .int .i64 A, .int .i64 B, .int .i64 N, (.float .f64 lo), (.float .f64 hi)] 66)).alloc (Obj.cells #[(.float .f64 0), (.float .f64 0)] 24)).alloc (Obj.cells #[(.float .f64 0), (.float .f64 0)] 24)).alloc (Obj.cells #[(.float .f64 0), (.float .f64 0)] 24)) K A B N lo hi (0, 0) (0, 0) := by
  have e1 : (w.alloc (Obj.cells #[.int .i64 K, .int .i64 A, .int .i64 B, .int .i64 N, (.float .f64 lo), (.float .f64 hi)] 66)).heap.size = w.heap.size + 1 := by simp
  have e2 : ((w.alloc (Obj.cells #[.int .i64 K, .int .i64 A, .int .i64 B, .int .i64 N, (.float .f64 lo), (.float .f64 hi)] 66)).alloc (Obj.cells #[(.float .f64 0), (.float .f64 0)] 24)).heap.size = w.heap.size + 2 := by simp
  have e3 : (((w.alloc (Obj.cells #[.int .i64 K, .int .i64 A, .int .i64 B, .int .i64 N, (.float .f64 lo), (.float .f64 hi)] 66)).alloc (Obj.cells #[(.float .f64 0), (.float .f64 0)] 24)).alloc (Obj.cells #[(.float .f64 0), (.float .f64 0)] 24)).heap.size = w.heap.size + 3 := by simp
  refine ⟨(BoxO.new w K A B N lo hi).below (by (repeat' first | (with_reducible first | exact Below.refl _ _ | assumption | refine Later.belowOf _ ?_ ?_ | refine Below.alloc ?_ ?_ _ | refine Below.setCell ?_ ?_ _ | refine Below.drewN' _ ?_ | refine Below.drew ?_ | exact Ge.le) | go_size)), ?_, ?_, ?_, by (repeat' first | (with_reducible first | exact Below.refl _ _ | assumption | refine Later.belowOf _ ?_ ?_ | refine Below.alloc ?_ ?_ _ | refine Below.setCell ?_ ?_ _ | refine Below.drewN' _ ?_ | refine Below.drew ?_ | exact Ge.le) | go_size)⟩
  · rw [← e1]; exact (Box.new _ 0 0).below (by (repeat' first | (with_reducible first | exact Below.refl _ _ | assumption | refine Later.belowOf _ ?_ ?_ | refine Below.alloc ?_ ?_ _ | refine Below.setCell ?_ ?_ _ | refine Below.drewN' _ ?_ | refine Below.drew ?_ | exact Ge.le) | go_size))
  · rw [← e2]; exact (Box.new _ 0 0).below (by (repeat' first | (with_reducible first | exact Below.refl _ _ | assumption | refine Later.belowOf _ ?_ ?_ | refine Below.alloc ?_ ?_ _ | refine Below.setCell ?_ ?_ _ | refine Below.drewN' _ ?_ | refine Below.drew ?_ | exact Ge.le) | go_size))
  · rw [← e3]; exact Box.new _ 0 0
theorem VW.later {w W : World} {K A B N : Int} {lo hi : Nat} {a b : Nat × Nat} (h : VW w W K A B N lo hi a b) (n : Later W) : VW w n.val K A B N lo hi a b :=
  ⟨h.o.later n, h.r.later n, h.a.later n, h.b.later n, h.bel.trans (n.below.mono h.bel.size)⟩
theorem VW.setA {w W : World} {K A B N : Int} {lo hi : Nat} {a b : Nat × Nat} (h : VW w W K A B N lo hi a b) (p q : Nat) : VW w ((W.setCell ⟨w.heap.size + 2, 0, none⟩ (.float .f64 p)).setCell ⟨w.heap.size + 2, 1, none⟩ (.float .f64 q)) K A B N lo hi (p, q) b :=
  ⟨(h.o.set_other _ (by show w.heap.size + 2 ≠ _; omega)).set_other _ (by show w.heap.size + 2 ≠ _; omega), (h.r.set_other _ (by show w.heap.size + 2 ≠ _; omega)).set_other _ (by show w.heap.size + 2 ≠ _; omega), h.a.set _ _,
    (h.b.set_other _ (by show w.heap.size + 2 ≠ _; omega)).set_other _ (by show w.heap.size + 2 ≠ _; omega), (h.bel.setCell (by show w.heap.size ≤ w.heap.size + 2; omega) _).setCell (by show w.heap.size ≤ w.heap.size + 2; omega) _⟩
theorem VW.setB {w W : World} {K A B N : Int} {lo hi : Nat} {a b : Nat × Nat} (h : VW w W K A B N lo hi a b) (p q : Nat) : VW w ((W.setCell ⟨w.heap.size + 3, 0, none⟩ (.float .f64 p)).setCell ⟨w.heap.size + 3, 1, none⟩ (.float .f64 q)) K A B N lo hi a (p, q) :=
  ⟨(h.o.set_other _ (by show w.heap.size + 3 ≠ _; omega)).set_other _ (by show w.heap.size + 3 ≠ _; omega), (h.r.set_other _ (by show w.heap.size + 3 ≠ _; omega)).set_other _ (by show w.heap.size + 3 ≠ _; omega),
    (h.a.set_other _ (by show w.heap.size + 3 ≠ _; omega)).set_other _ (by show w.heap.size + 3 ≠ _; omega), h.b.set _ _, (h.bel.setCell (by show w.heap.size ≤ w.heap.size + 3; omega) _).setCell (by show w.heap.size ≤ w.heap.size + 3; omega) _⟩

set_option maxHeartbeats 4000000 in
set_option maxRecDepth 100000 in
theorem value_1 (w : World) (A B N : Int) (lo hi : Nat) (vv vx : Value) : Calls Tryz.prog 84 #[(.agg #[.int .i64 1, .int .i64 A, .int .i64 B, .int .i64 N, .float .f64 lo, .float .f64 hi]), vv, vx] w (Val2 w (lo, hi) true) := by
  have hn := needs_any 1
  rw [show needI 1 = 0 by decide] at hn
  go_enter Tryz.func84, Tryz.ntmps84
  go_upto_region 7 with (go_at_call 113; (with_reducible refine (hn.go _).mono ?_); rintro _ _ ⟨n, rfl, rfl⟩)
  have h0 := (vw_start w 1 (A) (B) (N) lo hi).later n
  refine cut_world (fun W hW => ?_)
  have h := h0
  rw [hW] at h
  clear hW h0 hn
  haveI g0 : Ge W (w.heap.size + 1) := ⟨h.o.lt⟩
  haveI g1 : Ge W (w.heap.size + 1 + 1) := ⟨h.r.lt⟩
  haveI g2 : Ge W (w.heap.size + 2 + 1) := ⟨h.a.lt⟩
  haveI g3 : Ge W (w.heap.size + 3 + 1) := ⟨h.b.lt⟩
  haveI g4 : Ge W w.heap.size := ⟨h.bel.size⟩
  have k0 := h.o.c0
  have k1 := h.o.c1
  have k2 := h.o.c2
  have k3 := h.o.c3
  have k4 := h.o.c4
  have k5 := h.o.c5
  have xa0 := h.a.c0
  have xa1 := h.a.c1
  have xb0 := h.b.c0
  have xb1 := h.b.c1
  have xr0 := h.r.c0
  have xr1 := h.r.c1
  have fr0 := h.r.f0
  have fr1 := h.r.f1
  go_wp2
  have bz := h.r
  have hb := h.bel
  exact bodyPost_ret (v := .tuple #[(.agg #[.float .f64 lo, .float .f64 hi]), .bool true]) (by simp [results, Tryz.results84, go_sem, bz.set0, bz.set1]) rfl (val2_mk rfl (by (repeat' first | (with_reducible first | exact Below.refl _ _ | assumption | refine Later.belowOf _ ?_ ?_ | refine Below.alloc ?_ ?_ _ | refine Below.setCell ?_ ?_ _ | refine Below.drewN' _ ?_ | refine Below.drew ?_ | exact Ge.le) | go_size)))

set_option maxHeartbeats 4000000 in
set_option maxRecDepth 100000 in
theorem value_2 (w : World) (A B : Int) (lo hi : Nat) (vv : Value) (i bx ox cx nx x1 x2 : Nat) (hi2 : i < nx) (cx0 : w.cell? ⟨bx, ox + i * 2, none⟩ = some (.float .f64 x1)) (cx1 : w.cell? ⟨bx, ox + i * 2 + 1, none⟩ = some (.float .f64 x2)) : Calls Tryz.prog 84 #[(.agg #[.int .i64 2, .int .i64 A, .int .i64 B, .int .i64 i, .float .f64 lo, .float .f64 hi]), vv, .slice (some ⟨bx, ox, none⟩) nx cx] w (Val2 w (x1, x2) true) := by
  have ix0 : (0 : Int) ≤ (i : Int) := by omega
  have ix1 : (i : Int) < (nx : Int) := by omega
  have hn := needs_any 2
  rw [show needI 2 = 0 by decide] at hn
  go_enter Tryz.func84, Tryz.ntmps84
  go_upto_region 7 with (go_at_call 113; (with_reducible refine (hn.go _).mono ?_); rintro _ _ ⟨n, rfl, rfl⟩)
  have h0 := (vw_start w 2 (A) (B) (i) lo hi).later n
  refine cut_world (fun W hW => ?_)
  have h := h0
  rw [hW] at h
  clear hW h0 hn
  haveI g0 : Ge W (w.heap.size + 1) := ⟨h.o.lt⟩
  haveI g1 : Ge W (w.heap.size + 1 + 1) := ⟨h.r.lt⟩
  haveI g2 : Ge W (w.heap.size + 2 + 1) := ⟨h.a.lt⟩
  haveI g3 : Ge W (w.heap.size + 3 + 1) := ⟨h.b.lt⟩
  haveI g4 : Ge W w.heap.size := ⟨h.bel.size⟩
  have k0 := h.o.c0
  have k1 := h.o.c1
  have k2 := h.o.c2
  have k3 := h.o.c3
  have k4 := h.o.c4
  have k5 := h.o.c5
  have xa0 := h.a.c0
  have xa1 := h.a.c1
  have xb0 := h.b.c0
  have xb1 := h.b.c1
  have xr0 := h.r.c0
  have xr1 := h.r.c1
  have fr0 := h.r.f0
  have fr1 := h.r.f1
  have v0 := cellBelow h.bel cx0
  have v1 := cellBelow h.bel cx1
  go_wp2
  have bz := h.r
  have hb := h.bel
  exact bodyPost_ret (v := .tuple #[(.agg #[.float .f64 x1, .float .f64 x2]), .bool true]) (by simp [results, Tryz.results84, go_sem, bz.set0, bz.set1]) rfl (val2_mk rfl (by (repeat' first | (with_reducible first | exact Below.refl _ _ | assumption | refine Later.belowOf _ ?_ ?_ | refine Below.alloc ?_ ?_ _ | refine Below.setCell ?_ ?_ _ | refine Below.drewN' _ ?_ | refine Below.drew ?_ | exact Ge.le) | go_size)))

set_option maxHeartbeats 4000000 in
set_option maxRecDepth 100000 in
theorem value_3 (w : World) (N : Int) (lo hi : Nat) (vx : Value) (ia ib bv ov cv nv a1 a2 b1 b2 r1 r2 : Nat) (ha : ia < nv) (ca0 : w.cell? ⟨bv, ov + ia * 2, none⟩ = some (.float .f64 a1)) (ca1 : w.cell? ⟨bv, ov + ia * 2 + 1, none⟩ = some (.float .f64 a2)) (hb : ib < nv) (cb0 : w.cell? ⟨bv, ov + ib * 2, none⟩ = some (.float .f64 b1)) (cb1 : w.cell? ⟨bv, ov + ib * 2 + 1, none⟩ = some (.float .f64 b2)) (C : Gives 80 #[(.agg #[.float .f64 a1, .float .f64 a2]), (.agg #[.float .f64 b1, .float .f64 b2])] (.agg #[.float .f64 r1, .float .f64 r2])) : Calls Tryz.prog 84 #[(.agg #[.int .i64 3, .int .i64 ia, .int .i64 ib, .int .i64 N, .float .f64 lo, .float .f64 hi]), .slice (some ⟨bv, ov, none⟩) nv cv, vx] w (Val2 w (r1, r2) true) := by
  have ia0 : (0 : Int) ≤ (ia : Int) := by omega
  have ia1 : (ia : Int) < (nv : Int) := by omega
  have ib0 : (0 : Int) ≤ (ib : Int) := by omega
  have ib1 : (ib : Int) < (nv : Int) := by omega
  have hn := needs_any 3
  rw [show needI 3 = 2 by decide] at hn
  go_enter Tryz.func84, Tryz.ntmps84
  go_upto_region 4 with (go_at_call 113; (with_reducible refine (hn.go _).mono ?_); rintro _ _ ⟨n, rfl, rfl⟩)
  have h0 := (vw_start w 3 (ia) (ib) (N) lo hi).later n
  refine cut_world (fun W hW => ?_)
  have h := h0
  rw [hW] at h
  clear hW h0 hn
  haveI g0 : Ge W (w.heap.size + 1) := ⟨h.o.lt⟩
  haveI g1 : Ge W (w.heap.size + 1 + 1) := ⟨h.r.lt⟩
  haveI g2 : Ge W (w.heap.size + 2 + 1) := ⟨h.a.lt⟩
  haveI g3 : Ge W (w.heap.size + 3 + 1) := ⟨h.b.lt⟩
  haveI g4 : Ge W w.heap.size := ⟨h.bel.size⟩
  have k0 := h.o.c0
  have k1 := h.o.c1
  have k2 := h.o.c2
  have k3 := h.o.c3
  have k4 := h.o.c4
  have k5 := h.o.c5
  have xa0 := h.a.c0
  have xa1 := h.a.c1
  have xb0 := h.b.c0
  have xb1 := h.b.c1
  have fa0 := h.a.f0
  have fa1 := h.a.f1
  have fb0 := h.b.f0
  have fb1 := h.b.f1
  have v0 := cellBelow h.bel ca0
  have v1 := cellBelow h.bel ca1
  go_upto_region 5 with (fail)
  have h0 := h.setA a1 a2
  clear g0 g1 g2 g3 g4 k0 k1 k2 k3 k4 k5 xa0 xa1 xb0 xb1 fa0 fa1 fb0 fb1 v0 v1 h
  refine cut_world (fun W1 hW => ?_)
  have h := h0
  rw [hW] at h
  clear hW h0
  haveI g0 : Ge W1 (w.heap.size + 1) := ⟨h.o.lt⟩
  haveI g1 : Ge W1 (w.heap.size + 1 + 1) := ⟨h.r.lt⟩
  haveI g2 : Ge W1 (w.heap.size + 2 + 1) := ⟨h.a.lt⟩
  haveI g3 : Ge W1 (w.heap.size + 3 + 1) := ⟨h.b.lt⟩
  haveI g4 : Ge W1 w.heap.size := ⟨h.bel.size⟩
  have k0 := h.o.c0
  have k1 := h.o.c1
  have k2 := h.o.c2
  have k3 := h.o.c3
  have k4 := h.o.c4
  have k5 := h.o.c5
  have xa0 := h.a.c0
  have xa1 := h.a.c1
  have xb0 := h.b.c0
  have xb1 := h.b.c1
  have fa0 := h.a.f0
  have fa1 := h.a.f1
  have fb0 := h.b.f0
  have fb1 := h.b.f1
  have v0 := cellBelow h.bel cb0
  have v1 := cellBelow h.bel cb1
  go_upto_region 7 with (fail)
  have h0 := h.setB b1 b2
  clear g0 g1 g2 g3 g4 k0 k1 k2 k3 k4 k5 xa0 xa1 xb0 xb1 fa0 fa1 fb0 fb1 v0 v1 h
  refine cut_world (fun W2 hW => ?_)
  have h := h0
  rw [hW] at h
  clear hW h0
  haveI g0 : Ge W2 (w.heap.size + 1) := ⟨h.o.lt⟩
  haveI g1 : Ge W2 (w.heap.size + 1 + 1) := ⟨h.r.lt⟩
  haveI g2 : Ge W2 (w.heap.size + 2 + 1) := ⟨h.a.lt⟩
  haveI g3 : Ge W2 (w.heap.size + 3 + 1) := ⟨h.b.lt⟩
  haveI g4 : Ge W2 w.heap.size := ⟨h.bel.size⟩
  have k0 := h.o.c0
  have k1 := h.o.c1
  have k2 := h.o.c2
  have k3 := h.o.c3
  have k4 := h.o.c4
  have k5 := h.o.c5
  have xa0 := h.a.c0
  have xa1 := h.a.c1
  have xb0 := h.b.c0
  have xb1 := h.b.c1
  have xr0 := h.r.c0
  have xr1 := h.r.c1
  have fr0 := h.r.f0
  have fr1 := h.r.f1
  go_wp2_with (first | (go_at_call 80; (with_reducible refine (C.go _).mono ?_); rintro _ _ ⟨nn, rfl, rfl⟩))
  have bz := h.r.below (w' := nn.val) (by (repeat' first | (with_reducible first | exact Below.refl _ _ | assumption | refine Later.belowOf _ ?_ ?_ | refine Below.alloc ?_ ?_ _ | refine Below.setCell ?_ ?_ _ | refine Below.drewN' _ ?_ | refine Below.drew ?_ | exact Ge.le) | go_size))
  have hb := h.bel
  exact bodyPost_ret (v := .tuple #[(.agg #[.float .f64 r1, .float .f64 r2]), .bool true]) (by simp [results, Tryz.results84, go_sem, bz.set0, bz.set1]) rfl (val2_mk rfl (by (repeat' first | (with_reducible first | exact Below.refl _ _ | assumption | refine Later.belowOf _ ?_ ?_ | refine Below.alloc ?_ ?_ _ | refine Below.setCell ?_ ?_ _ | refine Below.drewN' _ ?_ | refine Below.drew ?_ | exact Ge.le) | go_size)))

set_option maxHeartbeats 4000000 in
set_option maxRecDepth 100000 in
theorem value_4 (w : World) (N : Int) (lo hi : Nat) (vx : Value) (ia ib bv ov cv nv a1 a2 b1 b2 r1 r2 : Nat) (ha : ia < nv) (ca0 : w.cell? ⟨bv, ov + ia * 2, none⟩ = some (.float .f64 a1)) (ca1 : w.cell? ⟨bv, ov + ia * 2 + 1, none⟩ = some (.float .f64 a2)) (hb : ib < nv) (cb0 : w.cell? ⟨bv, ov + ib * 2, none⟩ = some (.float .f64 b1)) (cb1 : w.cell? ⟨bv, ov + ib * 2 + 1, none⟩ = some (.float .f64 b2)) (C : Gives 75 #[(.agg #[.float .f64 a1, .float .f64 a2]), (.agg #[.float .f64 b1, .float .f64 b2])] (.agg #[.float .f64 r1, .float .f64 r2])) : Calls Tryz.prog 84 #[(.agg #[.int .i64 4, .int .i64 ia, .int .i64 ib, .int .i64 N, .float .f64 lo, .float .f64 hi]), .slice (some ⟨bv, ov, none⟩) nv cv, vx] w (Val2 w (r1, r2) true) := by
  have ia0 : (0 : Int) ≤ (ia : Int) := by omega
  have ia1 : (ia : Int) < (nv : Int) := by omega
  have ib0 : (0 : Int) ≤ (ib : Int) := by omega
  have ib1 : (ib : Int) < (nv : Int) := by omega
  have hn := needs_any 4
  rw [show needI 4 = 2 by decide] at hn
  go_enter Tryz.func84, Tryz.ntmps84
  go_upto_region 4 with (go_at_call 113; (with_reducible refine (hn.go _).mono ?_); rintro _ _ ⟨n, rfl, rfl⟩)
  have h0 := (vw_start w 4 (ia) (ib) (N) lo hi).later n
  refine cut_world (fun W hW => ?_)
  have h := h0
  rw [hW] at h
  clear hW h0 hn
  haveI g0 : Ge W (w.heap.size + 1) := ⟨h.o.lt⟩
  haveI g1 : Ge W (w.heap.size + 1 + 1) := ⟨h.r.lt⟩
  haveI g2 : Ge W (w.heap.size + 2 + 1) := ⟨h.a.lt⟩
  haveI g3 : Ge W (w.heap.size + 3 + 1) := ⟨h.b.lt⟩
  haveI g4 : Ge W w.heap.size := ⟨h.bel.size⟩
  have k0 := h.o.c0
  have k1 := h.o.c1
  have k2 := h.o.c2
  have k3 := h.o.c3
  have k4 := h.o.c4
  have k5 := h.o.c5
  have xa0 := h.a.c0
  have xa1 := h.a.c1
  have xb0 := h.b.c0
  have xb1 := h.b.c1
  have fa0 := h.a.f0
  have fa1 := h.a.f1
  have fb0 := h.b.f0
  have fb1 := h.b.f1
  have v0 := cellBelow h.bel ca0
  have v1 := cellBelow h.bel ca1
  go_upto_region 5 with (fail)
  have h0 := h.setA a1 a2
  clear g0 g1 g2 g3 g4 k0 k1 k2 k3 k4 k5 xa0 xa1 xb0 xb1 fa0 fa1 fb0 fb1 v0 v1 h
  refine cut_world (fun W1 hW => ?_)
  have h := h0
  rw [hW] at h
  clear hW h0
  haveI g0 : Ge W1 (w.heap.size + 1) := ⟨h.o.lt⟩
  haveI g1 : Ge W1 (w.heap.size + 1 + 1) := ⟨h.r.lt⟩
  haveI g2 : Ge W1 (w.heap.size + 2 + 1) := ⟨h.a.lt⟩
  haveI g3 : Ge W1 (w.heap.size + 3 + 1) := ⟨h.b.lt⟩
  haveI g4 : Ge W1 w.heap.size := ⟨h.bel.size⟩
  have k0 := h.o.c0
  have k1 := h.o.c1
  have k2 := h.o.c2
  have k3 := h.o.c3
  have k4 := h.o.c4
  have k5 := h.o.c5
  have xa0 := h.a.c0
  have xa1 := h.a.c1
  have xb0 := h.b.c0
  have xb1 := h.b.c1
  have fa0 := h.a.f0
  have fa1 := h.a.f1
  have fb0 := h.b.f0
  have fb1 := h.b.f1
  have v0 := cellBelow h.bel cb0
  have v1 := cellBelow h.bel cb1
  go_upto_region 7 with (fail)
  have h0 := h.setB b1 b2
  clear g0 g1 g2 g3 g4 k0 k1 k2 k3 k4 k5 xa0 xa1 xb0 xb1 fa0 fa1 fb0 fb1 v0 v1 h
  refine cut_world (fun W2 hW => ?_)
  have h := h0
  rw [hW] at h
  clear hW h0
  haveI g0 : Ge W2 (w.heap.size + 1) := ⟨h.o.lt⟩
  haveI g1 : Ge W2 (w.heap.size + 1 + 1) := ⟨h.r.lt⟩
  haveI g2 : Ge W2 (w.heap.size + 2 + 1) := ⟨h.a.lt⟩
  haveI g3 : Ge W2 (w.heap.size + 3 + 1) := ⟨h.b.lt⟩
  haveI g4 : Ge W2 w.heap.size := ⟨h.bel.size⟩
  have k0 := h.o.c0
  have k1 := h.o.c1
  have k2 := h.o.c2
  have k3 := h.o.c3
  have k4 := h.o.c4
  have k5 := h.o.c5
  have xa0 := h.a.c0
  have xa1 := h.a.c1
  have xb0 := h.b.c0
  have xb1 := h.b.c1
  have xr0 := h.r.c0
  have xr1 := h.r.c1
  have fr0 := h.r.f0
  have fr1 := h.r.f1
  go_wp2_with (first | (go_at_call 75; (with_reducible refine (C.go _).mono ?_); rintro _ _ ⟨nn, rfl, rfl⟩))
  have bz := h.r.below (w' := nn.val) (by (repeat' first | (with_reducible first | exact Below.refl _ _ | assumption | refine Later.belowOf _ ?_ ?_ | refine Below.alloc ?_ ?_ _ | refine Below.setCell ?_ ?_ _ | refine Below.drewN' _ ?_ | refine Below.drew ?_ | exact Ge.le) | go_size))
  have hb := h.bel
  exact bodyPost_ret (v := .tuple #[(.agg #[.float .f64 r1, .float .f64 r2]), .bool true]) (by simp [results, Tryz.results84, go_sem, bz.set0, bz.set1]) rfl (val2_mk rfl (by (repeat' first | (with_reducible first | exact Below.refl _ _ | assumption | refine Later.belowOf _ ?_ ?_ | refine Below.alloc ?_ ?_ _ | refine Below.setCell ?_ ?_ _ | refine Below.drewN' _ ?_ | refine Below.drew ?_ | exact Ge.le) | go_size)))

set_option maxHeartbeats 4000000 in
set_option maxRecDepth 100000 in
theorem value_5 (w : World) (N : Int) (lo hi : Nat) (vx : Value) (ia ib bv ov cv nv a1 a2 b1 b2 r1 r2 : Nat) (ha : ia < nv) (ca0 : w.cell? ⟨bv, ov + ia * 2, none⟩ = some (.float .f64 a1)) (ca1 : w.cell? ⟨bv, ov + ia * 2 + 1, none⟩ = some (.float .f64 a2)) (hb : ib < nv) (cb0 : w.cell? ⟨bv, ov + ib * 2, none⟩ = some (.float .f64 b1)) (cb1 : w.cell? ⟨bv, ov + ib * 2 + 1, none⟩ = some (.float .f64 b2)) (C : Gives 140 #[(.agg #[.float .f64 a1, .float .f64 a2]), (.agg #[.float .f64 b1, .float .f64 b2])] (.agg #[.float .f64 r1, .float .f64 r2])) : Calls Tryz.prog 84 #[(.agg #[.int .i64 5, .int .i64 ia, .int .i64 ib, .int .i64 N, .float .f64 lo, .float .f64 hi]), .slice (some ⟨bv, ov, none⟩) nv cv, vx] w (Val2 w (r1, r2) true) := by
  have ia0 : (0 : Int) ≤ (ia : Int) := by omega
  have ia1 : (ia : Int) < (nv : Int) := by omega
  have ib0 : (0 : Int) ≤ (ib : Int) := by omega
  have ib1 : (ib : Int) < (nv : Int) := by omega
  have hn := needs_any 5
  rw [show needI 5 = 2 by decide] at hn
  go_enter Tryz.func84, Tryz.ntmps84
  go_upto_region 4 with (go_at_call 113; (with_reducible refine (hn.go _).mono ?_); rintro _ _ ⟨n, rfl, rfl⟩)
  have h0 := (vw_start w 5 (ia) (ib) (N) lo hi).later n
  refine cut_world (fun W hW => ?_)
  have h := h0
  rw [hW] at h
  clear hW h0 hn
  haveI g0 : Ge W (w.heap.size + 1) := ⟨h.o.lt⟩
  haveI g1 : Ge W (w.heap.size + 1 + 1) := ⟨h.r.lt⟩
  haveI g2 : Ge W (w.heap.size + 2 + 1) := ⟨h.a.lt⟩
  haveI g3 : Ge W (w.heap.size + 3 + 1) := ⟨h.b.lt⟩
  haveI g4 : Ge W w.heap.size := ⟨h.bel.size⟩
  have k0 := h.o.c0
  have k1 := h.o.c1
  have k2 := h.o.c2
  have k3 := h.o.c3
  have k4 := h.o.c4
  have k5 := h.o.c5
  have xa0 := h.a.c0
  have xa1 := h.a.c1
  have xb0 := h.b.c0
  have xb1 := h.b.c1
  have fa0 := h.a.f0
  have fa1 := h.a.f1
  have fb0 := h.b.f0
  have fb1 := h.b.f1
  have v0 := cellBelow h.bel ca0
  have v1 := cellBelow h.bel ca1
  go_upto_region 5 with (fail)
  have h0 := h.setA a1 a2
  clear g0 g1 g2 g3 g4 k0 k1 k2 k3 k4 k5 xa0 xa1 xb0 xb1 fa0 fa1 fb0 fb1 v0 v1 h
  refine cut_world (fun W1 hW => ?_)
  have h := h0
  rw [hW] at h
  clear hW h0
  haveI g0 : Ge W1 (w.heap.size + 1) := ⟨h.o.lt⟩
  haveI g1 : Ge W1 (w.heap.size + 1 + 1) := ⟨h.r.lt⟩
  haveI g2 : Ge W1 (w.heap.size + 2 + 1) := ⟨h.a.lt⟩
  haveI g3 : Ge W1 (w.heap.size + 3 + 1) := ⟨h.b.lt⟩
  haveI g4 : Ge W1 w.heap.size := ⟨h.bel.size⟩
  have k0 := h.o.c0
  have k1 := h.o.c1
  have k2 := h.o.c2
  have k3 := h.o.c3
  have k4 := h.o.c4
  have k5 := h.o.c5
  have xa0 := h.a.c0
  have xa1 := h.a.c1
  have xb0 := h.b.c0
  have xb1 := h.b.c1
  have fa0 := h.a.f0
  have fa1 := h.a.f1
  have fb0 := h.b.f0
  have fb1 := h.b.f1
  have v0 := cellBelow h.bel cb0
  have v1 := cellBelow h.bel cb1
  go_upto_region 7 with (fail)
  have h0 := h.setB b1 b2
  clear g0 g1 g2 g3 g4 k0 k1 k2 k3 k4 k5 xa0 xa1 xb0 xb1 fa0 fa1 fb0 fb1 v0 v1 h
  refine cut_world (fun W2 hW => ?_)
  have h := h0
  rw [hW] at h
  clear hW h0
  haveI g0 : Ge W2 (w.heap.size + 1) := ⟨h.o.lt⟩
  haveI g1 : Ge W2 (w.heap.size + 1 + 1) := ⟨h.r.lt⟩
  haveI g2 : Ge W2 (w.heap.size + 2 + 1) := ⟨h.a.lt⟩
  haveI g3 : Ge W2 (w.heap.size + 3 + 1) := ⟨h.b.lt⟩
  haveI g4 : Ge W2 w.heap.size := ⟨h.bel.size⟩
  have k0 := h.o.c0
  have k1 := h.o.c1
  have k2 := h.o.c2
  have k3 := h.o.c3
  have k4 := h.o.c4
  have k5 := h.o.c5
  have xa0 := h.a.c0
  have xa1 := h.a.c1
  have xb0 := h.b.c0
  have xb1 := h.b.c1
  have xr0 := h.r.c0
  have xr1 := h.r.c1
  have fr0 := h.r.f0
  have fr1 := h.r.f1
  go_wp2_with (first | (go_at_call 140; (with_reducible refine (C.go _).mono ?_); rintro _ _ ⟨nn, rfl, rfl⟩))
  have bz := h.r.below (w' := nn.val) (by (repeat' first | (with_reducible first | exact Below.refl _ _ | assumption | refine Later.belowOf _ ?_ ?_ | refine Below.alloc ?_ ?_ _ | refine Below.setCell ?_ ?_ _ | refine Below.drewN' _ ?_ | refine Below.drew ?_ | exact Ge.le) | go_size))
  have hb := h.bel
  exact bodyPost_ret (v := .tuple #[(.agg #[.float .f64 r1, .float .f64 r2]), .bool true]) (by simp [results, Tryz.results84, go_sem, bz.set0, bz.set1]) rfl (val2_mk rfl (by (repeat' first | (with_reducible first | exact Below.refl _ _ | assumption | refine Later.belowOf _ ?_ ?_ | refine Below.alloc ?_ ?_ _ | refine Below.setCell ?_ ?_ _ | refine Below.drewN' _ ?_ | refine Below.drew ?_ | exact Ge.le) | go_size)))

set_option maxHeartbeats 4000000 in
set_option maxRecDepth 100000 in
theorem value_6 (w : World) (N : Int) (lo hi : Nat) (vx : Value) (ia ib bv ov cv nv a1 a2 b1 b2 r1 r2 : Nat) (ha : ia < nv) (ca0 : w.cell? ⟨bv, ov + ia * 2, none⟩ = some (.float .f64 a1)) (ca1 : w.cell? ⟨bv, ov + ia * 2 + 1, none⟩ = some (.float .f64 a2)) (hb : ib < nv) (cb0 : w.cell? ⟨bv, ov + ib * 2, none⟩ = some (.float .f64 b1)) (cb1 : w.cell? ⟨bv, ov + ib * 2 + 1, none⟩ = some (.float .f64 b2)) (hz : Bool) (HZ : Gives 91 #[(.agg #[.float .f64 b1, .float .f64 b2]), (.float .f64 0)] (.bool hz)) (C : Gives 70 #[(.agg #[.float .f64 a1, .float .f64 a2]), (.agg #[.float .f64 b1, .float .f64 b2])] (.agg #[.float .f64 r1, .float .f64 r2])) : Calls Tryz.prog 84 #[(.agg #[.int .i64 6, .int .i64 ia, .int .i64 ib, .int .i64 N, .float .f64 lo, .float .f64 hi]), .slice (some ⟨bv, ov, none⟩) nv cv, vx] w (Val2 w (r1, r2) (!hz)) := by
  have ia0 : (0 : Int) ≤ (ia : Int) := by omega
  have ia1 : (ia : Int) < (nv : Int) := by omega
  have ib0 : (0 : Int) ≤ (ib : Int) := by omega
  have ib1 : (ib : Int) < (nv : Int) := by omega
  have hn := needs_any 6
  rw [show needI 6 = 2 by decide] at hn
  go_enter Tryz.func84, Tryz.ntmps84
  go_upto_region 4 with (go_at_call 113; (with_reducible refine (hn.go _).mono ?_); rintro _ _ ⟨n, rfl, rfl⟩)
  have h0 := (vw_start w 6 (ia) (ib) (N) lo hi).later n
  refine cut_world (fun W hW => ?_)
  have h := h0
  rw [hW] at h
  clear hW h0 hn
  haveI g0 : Ge W (w.heap.size + 1) := ⟨h.o.lt⟩
  haveI g1 : Ge W (w.heap.size + 1 + 1) := ⟨h.r.lt⟩
  haveI g2 : Ge W (w.heap.size + 2 + 1) := ⟨h.a.lt⟩
  haveI g3 : Ge W (w.heap.size + 3 + 1) := ⟨h.b.lt⟩
  haveI g4 : Ge W w.heap.size := ⟨h.bel.size⟩
  have k0 := h.o.c0
  have k1 := h.o.c1
  have k2 := h.o.c2
  have k3 := h.o.c3
  have k4 := h.o.c4
  have k5 := h.o.c5
  have xa0 := h.a.c0
  have xa1 := h.a.c1
  have xb0 := h.b.c0
  have xb1 := h.b.c1
  have fa0 := h.a.f0
  have fa1 := h.a.f1
  have fb0 := h.b.f0
  have fb1 := h.b.f1
  have v0 := cellBelow h.bel ca0
  have v1 := cellBelow h.bel ca1
  go_upto_region 5 with (fail)
  have h0 := h.setA a1 a2
  clear g0 g1 g2 g3 g4 k0 k1 k2 k3 k4 k5 xa0 xa1 xb0 xb1 fa0 fa1 fb0 fb1 v0 v1 h
  refine cut_world (fun W1 hW => ?_)
  have h := h0
  rw [hW] at h
  clear hW h0
  haveI g0 : Ge W1 (w.heap.size + 1) := ⟨h.o.lt⟩
  haveI g1 : Ge W1 (w.heap.size + 1 + 1) := ⟨h.r.lt⟩
  haveI g2 : Ge W1 (w.heap.size + 2 + 1) := ⟨h.a.lt⟩
  haveI g3 : Ge W1 (w.heap.size + 3 + 1) := ⟨h.b.lt⟩
  haveI g4 : Ge W1 w.heap.size := ⟨h.bel.size⟩
  have k0 := h.o.c0
  have k1 := h.o.c1
  have k2 := h.o.c2
  have k3 := h.o.c3
  have k4 := h.o.c4
  have k5 := h.o.c5
  have xa0 := h.a.c0
  have xa1 := h.a.c1
  have xb0 := h.b.c0
  have xb1 := h.b.c1
  have fa0 := h.a.f0
  have fa1 := h.a.f1
  have fb0 := h.b.f0
  have fb1 := h.b.f1
  have v0 := cellBelow h.bel cb0
  have v1 := cellBelow h.bel cb1
  go_upto_region 7 with (fail)
  have h0 := h.setB b1 b2
  clear g0 g1 g2 g3 g4 k0 k1 k2 k3 k4 k5 xa0 xa1 xb0 xb1 fa0 fa1 fb0 fb1 v0 v1 h
  refine cut_world (fun W2 hW => ?_)
  have h := h0
  rw [hW] at h
  clear hW h0
  haveI g0 : Ge W2 (w.heap.size + 1) := ⟨h.o.lt⟩
  haveI g1 : Ge W2 (w.heap.size + 1 + 1) := ⟨h.r.lt⟩
  haveI g2 : Ge W2 (w.heap.size + 2 + 1) := ⟨h.a.lt⟩
  haveI g3 : Ge W2 (w.heap.size + 3 + 1) := ⟨h.b.lt⟩
  haveI g4 : Ge W2 w.heap.size := ⟨h.bel.size⟩
  have k0 := h.o.c0
  have k1 := h.o.c1
  have k2 := h.o.c2
  have k3 := h.o.c3
  have k4 := h.o.c4
  have k5 := h.o.c5
  have xa0 := h.a.c0
  have xa1 := h.a.c1
  have xb0 := h.b.c0
  have xb1 := h.b.c1
  have xr0 := h.r.c0
  have xr1 := h.r.c1
  have fr0 := h.r.f0
  have fr1 := h.r.f1
  go_wp2_with (fail)
  first | (go_region_held3 (fun w' => w'.cell? ⟨w.heap.size + 2, 0, none⟩ = some (.float .f64 a1) ∧ w'.cell? ⟨w.heap.size + 2, 1, none⟩ = some (.float .f64 a2) ∧ w'.cell? ⟨w.heap.size + 3, 0, none⟩ = some (.float .f64 b1) ∧ w'.cell? ⟨w.heap.size + 3, 1, none⟩ = some (.float .f64 b2))
    (first | (go_simp; done) | go_keep)
    ((first | (go_at_call 91; (with_reducible refine (HZ.go _).mono ?_); rintro _ _ ⟨nn, rfl, rfl⟩) | (go_at_call 70; (with_reducible refine (C.go _).mono ?_); rintro _ _ ⟨nn, rfl, rfl⟩)))) | fail "region"
  all_goals
    rename_i hHeld
    clear hHeld
    go_wp2
    have hb := h.bel
    exact bodyPost_ret (v := .tuple #[(.agg #[.float .f64 r1, .float .f64 r2]), .bool (!hz)]) (by simp [results, Tryz.results84, go_sem, xr0, xr1]) rfl (val2_mk rfl (by (repeat' first | (with_reducible first | exact Below.refl _ _ | assumption | refine Later.belowOf _ ?_ ?_ | refine Below.alloc ?_ ?_ _ | refine Below.setCell ?_ ?_ _ | refine Below.drewN' _ ?_ | refine Below.drew ?_ | exact Ge.le) | go_size)))

set_option maxHeartbeats 4000000 in
set_option maxRecDepth 100000 in
theorem value_7 (w : World) (B N : Int) (lo hi : Nat) (vx : Value) (ia bv ov cv nv a1 a2 r1 r2 : Nat) (ha : ia < nv) (ca0 : w.cell? ⟨bv, ov + ia * 2, none⟩ = some (.float .f64 a1)) (ca1 : w.cell? ⟨bv, ov + ia * 2 + 1, none⟩ = some (.float .f64 a2)) (C : Gives 76 #[(.agg #[.float .f64 a1, .float .f64 a2])] (.agg #[.float .f64 r1, .float .f64 r2])) : Calls Tryz.prog 84 #[(.agg #[.int .i64 7, .int .i64 ia, .int .i64 B, .int .i64 N, .float .f64 lo, .float .f64 hi]), .slice (some ⟨bv, ov, none⟩) nv cv, vx] w (Val2 w (r1, r2) true) := by
  have ia0 : (0 : Int) ≤ (ia : Int) := by omega
  have ia1 : (ia : Int) < (nv : Int) := by omega
  have hn := needs_any 7
  rw [show needI 7 = 1 by decide] at hn
  go_enter Tryz.func84, Tryz.ntmps84
  go_upto_region 4 with (go_at_call 113; (with_reducible refine (hn.go _).mono ?_); rintro _ _ ⟨n, rfl, rfl⟩)
  have h0 := (vw_start w 7 (ia) (B) (N) lo hi).later n
  refine cut_world (fun W hW => ?_)
  have h := h0
  rw [hW] at h
  clear hW h0 hn
  haveI g0 : Ge W (w.heap.size + 1) := ⟨h.o.lt⟩
  haveI g1 : Ge W (w.heap.size + 1 + 1) := ⟨h.r.lt⟩
  haveI g2 : Ge W (w.heap.size + 2 + 1) := ⟨h.a.lt⟩
  haveI g3 : Ge W (w.heap.size + 3 + 1) := ⟨h.b.lt⟩
  haveI g4 : Ge W w.heap.size := ⟨h.bel.size⟩
  have k0 := h.o.c0
  have k1 := h.o.c1
  have k2 := h.o.c2
  have k3 := h.o.c3
  have k4 := h.o.c4
  have k5 := h.o.c5
  have xa0 := h.a.c0
  have xa1 := h.a.c1
  have xb0 := h.b.c0
  have xb1 := h.b.c1
  have fa0 := h.a.f0
  have fa1 := h.a.f1
  have fb0 := h.b.f0
  have fb1 := h.b.f1
  have v0 := cellBelow h.bel ca0
  have v1 := cellBelow h.bel ca1
  go_upto_region 5 with (fail)
  have h0 := h.setA a1 a2
  clear g0 g1 g2 g3 g4 k0 k1 k2 k3 k4 k5 xa0 xa1 xb0 xb1 fa0 fa1 fb0 fb1 v0 v1 h
  refine cut_world (fun W1 hW => ?_)
  have h := h0
  rw [hW] at h
  clear hW h0
  haveI g0 : Ge W1 (w.heap.size + 1) := ⟨h.o.lt⟩
  haveI g1 : Ge W1 (w.heap.size + 1 + 1) := ⟨h.r.lt⟩
  haveI g2 : Ge W1 (w.heap.size + 2 + 1) := ⟨h.a.lt⟩
  haveI g3 : Ge W1 (w.heap.size + 3 + 1) := ⟨h.b.lt⟩
  haveI g4 : Ge W1 w.heap.size := ⟨h.bel.size⟩
  have k0 := h.o.c0
  have k1 := h.o.c1
  have k2 := h.o.c2
  have k3 := h.o.c3
  have k4 := h.o.c4
  have k5 := h.o.c5
  have xa0 := h.a.c0
  have xa1 := h.a.c1
  have xb0 := h.b.c0
  have xb1 := h.b.c1
  have xr0 := h.r.c0
  have xr1 := h.r.c1
  have fr0 := h.r.f0
  have fr1 := h.r.f1
  go_wp2_with (first | (go_at_call 76; (with_reducible refine (C.go _).mono ?_); rintro _ _ ⟨nn, rfl, rfl⟩))
  have bz := h.r.below (w' := nn.val) (by (repeat' first | (with_reducible first | exact Below.refl _ _ | assumption | refine Later.belowOf _ ?_ ?_ | refine Below.alloc ?_ ?_ _ | refine Below.setCell ?_ ?_ _ | refine Below.drewN' _ ?_ | refine Below.drew ?_ | exact Ge.le) | go_size))
  have hb := h.bel
  exact bodyPost_ret (v := .tuple #[(.agg #[.float .f64 r1, .float .f64 r2]), .bool true]) (by simp [results, Tryz.results84, go_sem, bz.set0, bz.set1]) rfl (val2_mk rfl (by (repeat' first | (with_reducible first | exact Below.refl _ _ | assumption | refine Later.belowOf _ ?_ ?_ | refine Below.alloc ?_ ?_ _ | refine Below.setCell ?_ ?_ _ | refine Below.drewN' _ ?_ | refine Below.drew ?_ | exact Ge.le) | go_size)))

set_option maxHeartbeats 4000000 in
set_option maxRecDepth 100000 in
theorem value_8p (w : World) (B N : Int) (lo hi : Nat) (vx : Value) (ia bv ov cv nv a1 a2 r1 r2 : Nat) (ha : ia < nv) (ca0 : w.cell? ⟨bv, ov + ia * 2, none⟩ = some (.float .f64 a1)) (ca1 : w.cell? ⟨bv, ov + ia * 2 + 1, none⟩ = some (.float .f64 a2)) (h0 : 0 ≤ N) (C : Gives 163 #[(.agg #[.float .f64 a1, .float .f64 a2]), .int .i64 N] (.agg #[.float .f64 r1, .float .f64 r2])) : Calls Tryz.prog 84 #[(.agg #[.int .i64 8, .int .i64 ia, .int .i64 B, .int .i64 N, .float .f64 lo, .float .f64 hi]), .slice (some ⟨bv, ov, none⟩) nv cv, vx] w (Val2 w (r1, r2) true) := by
  have ia0 : (0 : Int) ≤ (ia : Int) := by omega
  have ia1 : (ia : Int) < (nv : Int) := by omega
  have hd : decide (0 ≤ N) = true := by simpa using h0
  have hd2 : decide (N ≥ 0) = true := by simpa using h0
  have hn := needs_any 8
  rw [show needI 8 = 1 by decide] at hn
  go_enter Tryz.func84, Tryz.ntmps84
  go_upto_region 4 with (go_at_call 113; (with_reducible refine (hn.go _).mono ?_); rintro _ _ ⟨n, rfl, rfl⟩)
  have h0 := (vw_start w 8 (ia) (B) (N) lo hi).later n
  refine cut_world (fun W hW => ?_)
  have h := h0
  rw [hW] at h
  clear hW h0 hn
  haveI g0 : Ge W (w.heap.size + 1) := ⟨h.o.lt⟩
  haveI g1 : Ge W (w.heap.size + 1 + 1) := ⟨h.r.lt⟩
  haveI g2 : Ge W (w.heap.size + 2 + 1) := ⟨h.a.lt⟩
  haveI g3 : Ge W (w.heap.size + 3 + 1) := ⟨h.b.lt⟩
  haveI g4 : Ge W w.heap.size := ⟨h.bel.size⟩
  have k0 := h.o.c0
  have k1 := h.o.c1
  have k2 := h.o.c2
  have k3 := h.o.c3
  have k4 := h.o.c4
  have k5 := h.o.c5
  have xa0 := h.a.c0
  have xa1 := h.a.c1
  have xb0 := h.b.c0
  have xb1 := h.b.c1
  have fa0 := h.a.f0
  have fa1 := h.a.f1
  have fb0 := h.b.f0
  have fb1 := h.b.f1
  have v0 := cellBelow h.bel ca0
  have v1 := cellBelow h.bel ca1
  go_upto_region 5 with (fail)
  have h0 := h.setA a1 a2
  clear g0 g1 g2 g3 g4 k0 k1 k2 k3 k4 k5 xa0 xa1 xb0 xb1 fa0 fa1 fb0 fb1 v0 v1 h
  refine cut_world (fun W1 hW => ?_)
  have h := h0
  rw [hW] at h
  clear hW h0
  haveI g0 : Ge W1 (w.heap.size + 1) := ⟨h.o.lt⟩
  haveI g1 : Ge W1 (w.heap.size + 1 + 1) := ⟨h.r.lt⟩
  haveI g2 : Ge W1 (w.heap.size + 2 + 1) := ⟨h.a.lt⟩
  haveI g3 : Ge W1 (w.heap.size + 3 + 1) := ⟨h.b.lt⟩
  haveI g4 : Ge W1 w.heap.size := ⟨h.bel.size⟩
  have k0 := h.o.c0
  have k1 := h.o.c1
  have k2 := h.o.c2
  have k3 := h.o.c3
  have k4 := h.o.c4
  have k5 := h.o.c5
  have xa0 := h.a.c0
  have xa1 := h.a.c1
  have xb0 := h.b.c0
  have xb1 := h.b.c1
  have xr0 := h.r.c0
  have xr1 := h.r.c1
  have fr0 := h.r.f0
  have fr1 := h.r.f1
  go_wp2_with (fail)
  first | (go_region_with ((first | (go_at_call 163; (with_reducible refine (C.go _).mono ?_); rintro _ _ ⟨nn, rfl, rfl⟩)))) | fail "region"
  all_goals
    go_wp2
    have hb := h.bel
    exact bodyPost_ret (v := .tuple #[(.agg #[.float .f64 r1, .float .f64 r2]), .bool true]) (by simp [results, Tryz.results84, go_sem, xr0, xr1]) rfl (val2_mk rfl (by (repeat' first | (with_reducible first | exact Below.refl _ _ | assumption | refine Later.belowOf _ ?_ ?_ | refine Below.alloc ?_ ?_ _ | refine Below.setCell ?_ ?_ _ | refine Below.drewN' _ ?_ | refine Below.drew ?_ | exact Ge.le) | go_size)))

set_option maxHeartbeats 4000000 in
set_option maxRecDepth 100000 in
theorem value_8m (w : World) (B N : Int) (lo hi : Nat) (vx : Value) (ia bv ov cv nv a1 a2 r1 r2 : Nat) (ha : ia < nv) (ca0 : w.cell? ⟨bv, ov + ia * 2, none⟩ = some (.float .f64 a1)) (ca1 : w.cell? ⟨bv, ov + ia * 2 + 1, none⟩ = some (.float .f64 a2)) (h0 : N < 0) (hz : Bool) (HZ : Gives 91 #[(.agg #[.float .f64 a1, .float .f64 a2]), (.float .f64 0)] (.bool hz)) (C : Gives 163 #[(.agg #[.float .f64 a1, .float .f64 a2]), .int .i64 N] (.agg #[.float .f64 r1, .float .f64 r2])) : Calls Tryz.prog 84 #[(.agg #[.int .i64 8, .int .i64 ia, .int .i64 B, .int .i64 N, .float .f64 lo, .float .f64 hi]), .slice (some ⟨bv, ov, none⟩) nv cv, vx] w (Val2 w (r1, r2) (!hz)) := by
  have ia0 : (0 : Int) ≤ (ia : Int) := by omega
  have ia1 : (ia : Int) < (nv : Int) := by omega
  have hd : decide (0 ≤ N) = false := by simp; omega
  have hd2 : decide (N ≥ 0) = false := by simp; omega
  have hn := needs_any 8
  rw [show needI 8 = 1 by decide] at hn
  go_enter Tryz.func84, Tryz.ntmps84
  go_upto_region 4 with (go_at_call 113; (with_reducible refine (hn.go _).mono ?_); rintro _ _ ⟨n, rfl, rfl⟩)
  have h0 := (vw_start w 8 (ia) (B) (N) lo hi).later n
  refine cut_world (fun W hW => ?_)
  have h := h0
  rw [hW] at h
  clear hW h0 hn
  haveI g0 : Ge W (w.heap.size + 1) := ⟨h.o.lt⟩
  haveI g1 : Ge W (w.heap.size + 1 + 1) := ⟨h.r.lt⟩
  haveI g2 : Ge W (w.heap.size + 2 + 1) := ⟨h.a.lt⟩
  haveI g3 : Ge W (w.heap.size + 3 + 1) := ⟨h.b.lt⟩
  haveI g4 : Ge W w.heap.size := ⟨h.bel.size⟩
  have k0 := h.o.c0
  have k1 := h.o.c1
  have k2 := h.o.c2
  have k3 := h.o.c3
  have k4 := h.o.c4
  have k5 := h.o.c5
  have xa0 := h.a.c0
  have xa1 := h.a.c1
  have xb0 := h.b.c0
  have xb1 := h.b.c1
  have fa0 := h.a.f0
  have fa1 := h.a.f1
  have fb0 := h.b.f0
  have fb1 := h.b.f1
  have v0 := cellBelow h.bel ca0
  have v1 := cellBelow h.bel ca1
  go_upto_region 5 with (fail)
  have h0 := h.setA a1 a2
  clear g0 g1 g2 g3 g4 k0 k1 k2 k3 k4 k5 xa0 xa1 xb0 xb1 fa0 fa1 fb0 fb1 v0 v1 h
  refine cut_world (fun W1 hW => ?_)
  have h := h0
  rw [hW] at h
  clear hW h0
  haveI g0 : Ge W1 (w.heap.size + 1) := ⟨h.o.lt⟩
  haveI g1 : Ge W1 (w.heap.size + 1 + 1) := ⟨h.r.lt⟩
  haveI g2 : Ge W1 (w.heap.size + 2 + 1) := ⟨h.a.lt⟩
  haveI g3 : Ge W1 (w.heap.size + 3 + 1) := ⟨h.b.lt⟩
  haveI g4 : Ge W1 w.heap.size := ⟨h.bel.size⟩
  have k0 := h.o.c0
  have k1 := h.o.c1
  have k2 := h.o.c2
  have k3 := h.o.c3
  have k4 := h.o.c4
  have k5 := h.o.c5
  have xa0 := h.a.c0
  have xa1 := h.a.c1
  have xb0 := h.b.c0
  have xb1 := h.b.c1
  have xr0 := h.r.c0
  have xr1 := h.r.c1
  have fr0 := h.r.f0
  have fr1 := h.r.f1
  go_wp2_with (fail)
  first | (go_region_held3 (fun w' => w'.cell? ⟨w.heap.size + 2, 0, none⟩ = some (.float .f64 a1) ∧ w'.cell? ⟨w.heap.size + 2, 1, none⟩ = some (.float .f64 a2) ∧ w'.cell? ⟨w.heap.size, 3, none⟩ = some (.int .i64 N))
    (first | (go_simp; done) | go_keep)
    ((first | (go_at_call 91; (with_reducible refine (HZ.go _).mono ?_); rintro _ _ ⟨nn, rfl, rfl⟩) | (go_at_call 163; (with_reducible refine (C.go _).mono ?_); rintro _ _ ⟨nn, rfl, rfl⟩)))) | fail "region"
  all_goals
    rename_i hHeld
    clear hHeld
    go_wp2
    have hb := h.bel
    exact bodyPost_ret (v := .tuple #[(.agg #[.float .f64 r1, .float .f64 r2]), .bool (!hz)]) (by simp [results, Tryz.results84, go_sem, xr0, xr1]) rfl (val2_mk rfl (by (repeat' first | (with_reducible first | exact Below.refl _ _ | assumption | refine Later.belowOf _ ?_ ?_ | refine Below.alloc ?_ ?_ _ | refine Below.setCell ?_ ?_ _ | refine Below.drewN' _ ?_ | refine Below.drew ?_ | exact Ge.le) | go_size)))

set_option maxHeartbeats 4000000 in
set_option maxRecDepth 100000 in
theorem value_9 (w : World) (B N : Int) (lo hi : Nat) (vx : Value) (ia bv ov cv nv a1 a2 r1 r2 : Nat) (ha : ia < nv) (ca0 : w.cell? ⟨bv, ov + ia * 2, none⟩ = some (.float .f64 a1)) (ca1 : w.cell? ⟨bv, ov + ia * 2 + 1, none⟩ = some (.float .f64 a2)) (C : Gives 164 #[(.agg #[.float .f64 a1, .float .f64 a2])] (.agg #[.float .f64 r1, .float .f64 r2])) : Calls Tryz.prog 84 #[(.agg #[.int .i64 9, .int .i64 ia, .int .i64 B, .int .i64 N, .float .f64 lo, .float .f64 hi]), .slice (some ⟨bv, ov, none⟩) nv cv, vx] w (Val2 w (r1, r2) (fle 0 a1)) := by
  have ia0 : (0 : Int) ≤ (ia : Int) := by omega
  have ia1 : (ia : Int) < (nv : Int) := by omega
  have hn := needs_any 9
  rw [show needI 9 = 1 by decide] at hn
  go_enter Tryz.func84, Tryz.ntmps84
  go_upto_region 4 with (go_at_call 113; (with_reducible refine (hn.go _).mono ?_); rintro _ _ ⟨n, rfl, rfl⟩)
  have h0 := (vw_start w 9 (ia) (B) (N) lo hi).later n
  refine cut_world (fun W hW => ?_)
  have h := h0
  rw [hW] at h
  clear hW h0 hn
  haveI g0 : Ge W (w.heap.size + 1) := ⟨h.o.lt⟩
  haveI g1 : Ge W (w.heap.size + 1 + 1) := ⟨h.r.lt⟩
  haveI g2 : Ge W (w.heap.size + 2 + 1) := ⟨h.a.lt⟩
  haveI g3 : Ge W (w.heap.size + 3 + 1) := ⟨h.b.lt⟩
  haveI g4 : Ge W w.heap.size := ⟨h.bel.size⟩
  have k0 := h.o.c0
  have k1 := h.o.c1
  have k2 := h.o.c2
  have k3 := h.o.c3
  have k4 := h.o.c4
  have k5 := h.o.c5
  have xa0 := h.a.c0
  have xa1 := h.a.c1
  have xb0 := h.b.c0
  have xb1 := h.b.c1
  have fa0 := h.a.f0
  have fa1 := h.a.f1
  have fb0 := h.b.f0
  have fb1 := h.b.f1
  have v0 := cellBelow h.bel ca0
  have v1 := cellBelow h.bel ca1
  go_upto_region 5 with (fail)
  have h0 := h.setA a1 a2
  clear g0 g1 g2 g3 g4 k0 k1 k2 k3 k4 k5 xa0 xa1 xb0 xb1 fa0 fa1 fb0 fb1 v0 v1 h
  refine cut_world (fun W1 hW => ?_)
  have h := h0
  rw [hW] at h
  clear hW h0
  haveI g0 : Ge W1 (w.heap.size + 1) := ⟨h.o.lt⟩
  haveI g1 : Ge W1 (w.heap.size + 1 + 1) := ⟨h.r.lt⟩
  haveI g2 : Ge W1 (w.heap.size + 2 + 1) := ⟨h.a.lt⟩
  haveI g3 : Ge W1 (w.heap.size + 3 + 1) := ⟨h.b.lt⟩
  haveI g4 : Ge W1 w.heap.size := ⟨h.bel.size⟩
  have k0 := h.o.c0
  have k1 := h.o.c1
  have k2 := h.o.c2
  have k3 := h.o.c3
  have k4 := h.o.c4
  have k5 := h.o.c5
  have xa0 := h.a.c0
  have xa1 := h.a.c1
  have xb0 := h.b.c0
  have xb1 := h.b.c1
  have xr0 := h.r.c0
  have xr1 := h.r.c1
  have fr0 := h.r.f0
  have fr1 := h.r.f1
  go_wp2_with (fail)
  first | (go_region_held3 (fun w' => w'.cell? ⟨w.heap.size + 2, 0, none⟩ = some (.float .f64 a1) ∧ w'.cell? ⟨w.heap.size + 2, 1, none⟩ = some (.float .f64 a2))
    (first | (go_simp; done) | go_keep)
    ((first | (go_at_call 164; (with_reducible refine (C.go _).mono ?_); rintro _ _ ⟨nn, rfl, rfl⟩)))) | fail "region"
  all_goals
    rename_i hHeld
    clear hHeld
    go_wp2
    have hb := h.bel
    exact bodyPost_ret (v := .tuple #[(.agg #[.float .f64 r1, .float .f64 r2]), .bool (fle 0 a1)]) (by simp [results, Tryz.results84, go_sem, xr0, xr1]) rfl (val2_mk rfl (by (repeat' first | (with_reducible first | exact Below.refl _ _ | assumption | refine Later.belowOf _ ?_ ?_ | refine Below.alloc ?_ ?_ _ | refine Below.setCell ?_ ?_ _ | refine Below.drewN' _ ?_ | refine Below.drew ?_ | exact Ge.le) | go_size)))

set_option maxHeartbeats 4000000 in
set_option maxRecDepth 100000 in
theorem value_10 (w : World) (B N : Int) (lo hi : Nat) (vx : Value) (ia bv ov cv nv a1 a2 r1 r2 : Nat) (ha : ia < nv) (ca0 : w.cell? ⟨bv, ov + ia * 2, none⟩ = some (.float .f64 a1)) (ca1 : w.cell? ⟨bv, ov + ia * 2 + 1, none⟩ = some (.float .f64 a2)) (C : Gives 19 #[(.agg #[.float .f64 a1, .float .f64 a2])] (.agg #[.float .f64 r1, .float .f64 r2])) : Calls Tryz.prog 84 #[(.agg #[.int .i64 10, .int .i64 ia, .int .i64 B, .int .i64 N, .float .f64 lo, .float .f64 hi]), .slice (some ⟨bv, ov, none⟩) nv cv, vx] w (Val2 w (r1, r2) true) := by
  have ia0 : (0 : Int) ≤ (ia : Int) := by omega
  have ia1 : (ia : Int) < (nv : Int) := by omega
  have hn := needs_any 10
  rw [show needI 10 = 1 by decide] at hn
  go_enter Tryz.func84, Tryz.ntmps84
  go_upto_region 4 with (go_at_call 113; (with_reducible refine (hn.go _).mono ?_); rintro _ _ ⟨n, rfl, rfl⟩)
  have h0 := (vw_start w 10 (ia) (B) (N) lo hi).later n
  refine cut_world (fun W hW => ?_)
  have h := h0
  rw [hW] at h
  clear hW h0 hn
  haveI g0 : Ge W (w.heap.size + 1) := ⟨h.o.lt⟩
  haveI g1 : Ge W (w.heap.size + 1 + 1) := ⟨h.r.lt⟩
  haveI g2 : Ge W (w.heap.size + 2 + 1) := ⟨h.a.lt⟩
  haveI g3 : Ge W (w.heap.size + 3 + 1) := ⟨h.b.lt⟩
  haveI g4 : Ge W w.heap.size := ⟨h.bel.size⟩
  have k0 := h.o.c0
  have k1 := h.o.c1
  have k2 := h.o.c2
  have k3 := h.o.c3
  have k4 := h.o.c4
  have k5 := h.o.c5
  have xa0 := h.a.c0
  have xa1 := h.a.c1
  have xb0 := h.b.c0
  have xb1 := h.b.c1
  have fa0 := h.a.f0
  have fa1 := h.a.f1
  have fb0 := h.b.f0
  have fb1 := h.b.f1
  have v0 := cellBelow h.bel ca0
  have v1 := cellBelow h.bel ca1
  go_upto_region 5 with (fail)
  have h0 := h.setA a1 a2
  clear g0 g1 g2 g3 g4 k0 k1 k2 k3 k4 k5 xa0 xa1 xb0 xb1 fa0 fa1 fb0 fb1 v0 v1 h
  refine cut_world (fun W1 hW => ?_)
  have h := h0
  rw [hW] at h
  clear hW h0
  haveI g0 : Ge W1 (w.heap.size + 1) := ⟨h.o.lt⟩
  haveI g1 : Ge W1 (w.heap.size + 1 + 1) := ⟨h.r.lt⟩
  haveI g2 : Ge W1 (w.heap.size + 2 + 1) := ⟨h.a.lt⟩
  haveI g3 : Ge W1 (w.heap.size + 3 + 1) := ⟨h.b.lt⟩
  haveI g4 : Ge W1 w.heap.size := ⟨h.bel.size⟩
  have k0 := h.o.c0
  have k1 := h.o.c1
  have k2 := h.o.c2
  have k3 := h.o.c3
  have k4 := h.o.c4
  have k5 := h.o.c5
  have xa0 := h.a.c0
  have xa1 := h.a.c1
  have xb0 := h.b.c0
  have xb1 := h.b.c1
  have xr0 := h.r.c0
  have xr1 := h.r.c1
  have fr0 := h.r.f0
  have fr1 := h.r.f1
  go_wp2_with (first | (go_at_call 19; (with_reducible refine (C.go _).mono ?_); rintro _ _ ⟨nn, rfl, rfl⟩))
  have bz := h.r.below (w' := nn.val) (by (repeat' first | (with_reducible first | exact Below.refl _ _ | assumption | refine Later.belowOf _ ?_ ?_ | refine Below.alloc ?_ ?_ _ | refine Below.setCell ?_ ?_ _ | refine Below.drewN' _ ?_ | refine Below.drew ?_ | exact Ge.le) | go_size))
  have hb := h.bel
  exact bodyPost_ret (v := .tuple #[(.agg #[.float .f64 r1, .float .f64 r2]), .bool true]) (by simp [results, Tryz.results84, go_sem, bz.set0, bz.set1]) rfl (val2_mk rfl (by (repeat' first | (with_reducible first | exact Below.refl _ _ | assumption | refine Later.belowOf _ ?_ ?_ | refine Below.alloc ?_ ?_ _ | refine Below.setCell ?_ ?_ _ | refine Below.drewN' _ ?_ | refine Below.drew ?_ | exact Ge.le) | go_size)))

set_option maxHeartbeats 4000000 in
set_option maxRecDepth 100000 in
theorem value_11 (w : World) (B N : Int) (lo hi : Nat) (vx : Value) (ia bv ov cv nv a1 a2 r1 r2 : Nat) (ha : ia < nv) (ca0 : w.cell? ⟨bv, ov + ia * 2, none⟩ = some (.float .f64 a1)) (ca1 : w.cell? ⟨bv, ov + ia * 2 + 1, none⟩ = some (.float .f64 a2)) (C : Gives 165 #[(.agg #[.float .f64 a1, .float .f64 a2])] (.agg #[.float .f64 r1, .float .f64 r2])) : Calls Tryz.prog 84 #[(.agg #[.int .i64 11, .int .i64 ia, .int .i64 B, .int .i64 N, .float .f64 lo, .float .f64 hi]), .slice (some ⟨bv, ov, none⟩) nv cv, vx] w (Val2 w (r1, r2) (flt 0 a1)) := by
  have ia0 : (0 : Int) ≤ (ia : Int) := by omega
  have ia1 : (ia : Int) < (nv : Int) := by omega
  have hn := needs_any 11
  rw [show needI 11 = 1 by decide] at hn
  go_enter Tryz.func84, Tryz.ntmps84
  go_upto_region 4 with (go_at_call 113; (with_reducible refine (hn.go _).mono ?_); rintro _ _ ⟨n, rfl, rfl⟩)
  have h0 := (vw_start w 11 (ia) (B) (N) lo hi).later n
  refine cut_world (fun W hW => ?_)
  have h := h0
  rw [hW] at h
  clear hW h0 hn
  haveI g0 : Ge W (w.heap.size + 1) := ⟨h.o.lt⟩
  haveI g1 : Ge W (w.heap.size + 1 + 1) := ⟨h.r.lt⟩
  haveI g2 : Ge W (w.heap.size + 2 + 1) := ⟨h.a.lt⟩
  haveI g3 : Ge W (w.heap.size + 3 + 1) := ⟨h.b.lt⟩
  haveI g4 : Ge W w.heap.size := ⟨h.bel.size⟩
  have k0 := h.o.c0
  have k1 := h.o.c1
  have k2 := h.o.c2
  have k3 := h.o.c3
  have k4 := h.o.c4
  have k5 := h.o.c5
  have xa0 := h.a.c0
  have xa1 := h.a.c1
  have xb0 := h.b.c0
  have xb1 := h.b.c1
  have fa0 := h.a.f0
  have fa1 := h.a.f1
  have fb0 := h.b.f0
  have fb1 := h.b.f1
  have v0 := cellBelow h.bel ca0
  have v1 := cellBelow h.bel ca1
  go_upto_region 5 with (fail)
  have h0 := h.setA a1 a2
  clear g0 g1 g2 g3 g4 k0 k1 k2 k3 k4 k5 xa0 xa1 xb0 xb1 fa0 fa1 fb0 fb1 v0 v1 h
  refine cut_world (fun W1 hW => ?_)
  have h := h0
  rw [hW] at h
  clear hW h0
  haveI g0 : Ge W1 (w.heap.size + 1) := ⟨h.o.lt⟩
  haveI g1 : Ge W1 (w.heap.size + 1 + 1) := ⟨h.r.lt⟩
  haveI g2 : Ge W1 (w.heap.size + 2 + 1) := ⟨h.a.lt⟩
  haveI g3 : Ge W1 (w.heap.size + 3 + 1) := ⟨h.b.lt⟩
  haveI g4 : Ge W1 w.heap.size := ⟨h.bel.size⟩
  have k0 := h.o.c0
  have k1 := h.o.c1
  have k2 := h.o.c2
  have k3 := h.o.c3
  have k4 := h.o.c4
  have k5 := h.o.c5
  have xa0 := h.a.c0
  have xa1 := h.a.c1
  have xb0 := h.b.c0
  have xb1 := h.b.c1
  have xr0 := h.r.c0
  have xr1 := h.r.c1
  have fr0 := h.r.f0
  have fr1 := h.r.f1
  go_wp2_with (fail)
  first | (go_region_held3 (fun w' => w'.cell? ⟨w.heap.size + 2, 0, none⟩ = some (.float .f64 a1) ∧ w'.cell? ⟨w.heap.size + 2, 1, none⟩ = some (.float .f64 a2))
    (first | (go_simp; done) | go_keep)
    ((first | (go_at_call 165; (with_reducible refine (C.go _).mono ?_); rintro _ _ ⟨nn, rfl, rfl⟩)))) | fail "region"
  all_goals
    rename_i hHeld
    clear hHeld
    go_wp2
    have hb := h.bel
    exact bodyPost_ret (v := .tuple #[(.agg #[.float .f64 r1, .float .f64 r2]), .bool (flt 0 a1)]) (by simp [results, Tryz.results84, go_sem, xr0, xr1]) rfl (val2_mk rfl (by (repeat' first | (with_reducible first | exact Below.refl _ _ | assumption | refine Later.belowOf _ ?_ ?_ | refine Below.alloc ?_ ?_ _ | refine Below.setCell ?_ ?_ _ | refine Below.drewN' _ ?_ | refine Below.drew ?_ | exact Ge.le) | go_size)))

set_option maxHeartbeats 4000000 in
set_option maxRecDepth 100000 in
theorem value_12 (w : World) (B N : Int) (lo hi : Nat) (vx : Value) (ia bv ov cv nv a1 a2 r1 r2 : Nat) (ha : ia < nv) (ca0 : w.cell? ⟨bv, ov + ia * 2, none⟩ = some (.float .f64 a1)) (ca1 : w.cell? ⟨bv, ov + ia * 2 + 1, none⟩ = some (.float .f64 a2)) (C : Gives 24 #[(.agg #[.float .f64 a1, .float .f64 a2])] (.agg #[.float .f64 r1, .float .f64 r2])) : Calls Tryz.prog 84 #[(.agg #[.int .i64 12, .int .i64 ia, .int .i64 B, .int .i64 N, .float .f64 lo, .float .f64 hi]), .slice (some ⟨bv, ov, none⟩) nv cv, vx] w (Val2 w (r1, r2) true) := by
  have ia0 : (0 : Int) ≤ (ia : Int) := by omega
  have ia1 : (ia : Int) < (nv : Int) := by omega
  have hn := needs_any 12
  rw [show needI 12 = 1 by decide] at hn
  go_enter Tryz.func84, Tryz.ntmps84
  go_upto_region 4 with (go_at_call 113; (with_reducible refine (hn.go _).mono ?_); rintro _ _ ⟨n, rfl, rfl⟩)
  have h0 := (vw_start w 12 (ia) (B) (N) lo hi).later n
  refine cut_world (fun W hW => ?_)
  have h := h0
  rw [hW] at h
  clear hW h0 hn
  haveI g0 : Ge W (w.heap.size + 1) := ⟨h.o.lt⟩
  haveI g1 : Ge W (w.heap.size + 1 + 1) := ⟨h.r.lt⟩
  haveI g2 : Ge W (w.heap.size + 2 + 1) := ⟨h.a.lt⟩
  haveI g3 : Ge W (w.heap.size + 3 + 1) := ⟨h.b.lt⟩
  haveI g4 : Ge W w.heap.size := ⟨h.bel.size⟩
  have k0 := h.o.c0
  have k1 := h.o.c1
  have k2 := h.o.c2
  have k3 := h.o.c3
  have k4 := h.o.c4
  have k5 := h.o.c5
  have xa0 := h.a.c0
  have xa1 := h.a.c1
  have xb0 := h.b.c0
  have xb1 := h.b.c1
  have fa0 := h.a.f0
  have fa1 := h.a.f1
  have fb0 := h.b.f0
  have fb1 := h.b.f1
  have v0 := cellBelow h.bel ca0
  have v1 := cellBelow h.bel ca1
  go_upto_region 5 with (fail)
  have h0 := h.setA a1 a2
  clear g0 g1 g2 g3 g4 k0 k1 k2 k3 k4 k5 xa0 xa1 xb0 xb1 fa0 fa1 fb0 fb1 v0 v1 h
  refine cut_world (fun W1 hW => ?_)
  have h := h0
  rw [hW] at h
  clear hW h0
  haveI g0 : Ge W1 (w.heap.size + 1) := ⟨h.o.lt⟩
  haveI g1 : Ge W1 (w.heap.size + 1 + 1) := ⟨h.r.lt⟩
  haveI g2 : Ge W1 (w.heap.size + 2 + 1) := ⟨h.a.lt⟩
  haveI g3 : Ge W1 (w.heap.size + 3 + 1) := ⟨h.b.lt⟩
  haveI g4 : Ge W1 w.heap.size := ⟨h.bel.size⟩
  have k0 := h.o.c0
  have k1 := h.o.c1
  have k2 := h.o.c2
  have k3 := h.o.c3
  have k4 := h.o.c4
  have k5 := h.o.c5
  have xa0 := h.a.c0
  have xa1 := h.a.c1
  have xb0 := h.b.c0
  have xb1 := h.b.c1
  have xr0 := h.r.c0
  have xr1 := h.r.c1
  have fr0 := h.r.f0
  have fr1 := h.r.f1
  go_wp2_with (first | (go_at_call 24; (with_reducible refine (C.go _).mono ?_); rintro _ _ ⟨nn, rfl, rfl⟩))
  have bz := h.r.below (w' := nn.val) (by (repeat' first | (with_reducible first | exact Below.refl _ _ | assumption | refine Later.belowOf _ ?_ ?_ | refine Below.alloc ?_ ?_ _ | refine Below.setCell ?_ ?_ _ | refine Below.drewN' _ ?_ | refine Below.drew ?_ | exact Ge.le) | go_size))
  have hb := h.bel
  exact bodyPost_ret (v := .tuple #[(.agg #[.float .f64 r1, .float .f64 r2]), .bool true]) (by simp [results, Tryz.results84, go_sem, bz.set0, bz.set1]) rfl (val2_mk rfl (by (repeat' first | (with_reducible first | exact Below.refl _ _ | assumption | refine Later.belowOf _ ?_ ?_ | refine Below.alloc ?_ ?_ _ | refine Below.setCell ?_ ?_ _ | refine Below.drewN' _ ?_ | refine Below.drew ?_ | exact Ge.le) | go_size)))

set_option maxHeartbeats 4000000 in
set_option maxRecDepth 100000 in
theorem value_13 (w : World) (B N : Int) (lo hi : Nat) (vx : Value) (ia bv ov cv nv a1 a2 r1 r2 : Nat) (ha : ia < nv) (ca0 : w.cell? ⟨bv, ov + ia * 2, none⟩ = some (.float .f64 a1)) (ca1 : w.cell? ⟨bv, ov + ia * 2 + 1, none⟩ = some (.float .f64 a2)) (C : Gives 25 #[(.agg #[.float .f64 a1, .float .f64 a2])] (.agg #[.float .f64 r1, .float .f64 r2])) : Calls Tryz.prog 84 #[(.agg #[.int .i64 13, .int .i64 ia, .int .i64 B, .int .i64 N, .float .f64 lo, .float .f64 hi]), .slice (some ⟨bv, ov, none⟩) nv cv, vx] w (Val2 w (r1, r2) true) := by
  have ia0 : (0 : Int) ≤ (ia : Int) := by omega
  have ia1 : (ia : Int) < (nv : Int) := by omega
  have hn := needs_any 13
  rw [show needI 13 = 1 by decide] at hn
  go_enter Tryz.func84, Tryz.ntmps84
  go_upto_region 4 with (go_at_call 113; (with_reducible refine (hn.go _).mono ?_); rintro _ _ ⟨n, rfl, rfl⟩)
  have h0 := (vw_start w 13 (ia) (B) (N) lo hi).later n
  refine cut_world (fun W hW => ?_)
  have h := h0
  rw [hW] at h
  clear hW h0 hn
  haveI g0 : Ge W (w.heap.size + 1) := ⟨h.o.lt⟩
  haveI g1 : Ge W (w.heap.size + 1 + 1) := ⟨h.r.lt⟩
  haveI g2 : Ge W (w.heap.size + 2 + 1) := ⟨h.a.lt⟩
  haveI g3 : Ge W (w.heap.size + 3 + 1) := ⟨h.b.lt⟩
  haveI g4 : Ge W w.heap.size := ⟨h.bel.size⟩
  have k0 := h.o.c0
  have k1 := h.o.c1
  have k2 := h.o.c2
  have k3 := h.o.c3
  have k4 := h.o.c4
  have k5 := h.o.c5
  have xa0 := h.a.c0
  have xa1 := h.a.c1
  have xb0 := h.b.c0
  have xb1 := h.b.c1
  have fa0 := h.a.f0
  have fa1 := h.a.f1
  have fb0 := h.b.f0
  have fb1 := h.b.f1
  have v0 := cellBelow h.bel ca0
  have v1 := cellBelow h.bel ca1
  go_upto_region 5 with (fail)
  have h0 := h.setA a1 a2
  clear g0 g1 g2 g3 g4 k0 k1 k2 k3 k4 k5 xa0 xa1 xb0 xb1 fa0 fa1 fb0 fb1 v0 v1 h
  refine cut_world (fun W1 hW => ?_)
  have h := h0
  rw [hW] at h
  clear hW h0
  haveI g0 : Ge W1 (w.heap.size + 1) := ⟨h.o.lt⟩
  haveI g1 : Ge W1 (w.heap.size + 1 + 1) := ⟨h.r.lt⟩
  haveI g2 : Ge W1 (w.heap.size + 2 + 1) := ⟨h.a.lt⟩
  haveI g3 : Ge W1 (w.heap.size + 3 + 1) := ⟨h.b.lt⟩
  haveI g4 : Ge W1 w.heap.size := ⟨h.bel.size⟩
  have k0 := h.o.c0
  have k1 := h.o.c1
  have k2 := h.o.c2
  have k3 := h.o.c3
  have k4 := h.o.c4
  have k5 := h.o.c5
  have xa0 := h.a.c0
  have xa1 := h.a.c1
  have xb0 := h.b.c0
  have xb1 := h.b.c1
  have xr0 := h.r.c0
  have xr1 := h.r.c1
  have fr0 := h.r.f0
  have fr1 := h.r.f1
  go_wp2_with (first | (go_at_call 25; (with_reducible refine (C.go _).mono ?_); rintro _ _ ⟨nn, rfl, rfl⟩))
  have bz := h.r.below (w' := nn.val) (by (repeat' first | (with_reducible first | exact Below.refl _ _ | assumption | refine Later.belowOf _ ?_ ?_ | refine Below.alloc ?_ ?_ _ | refine Below.setCell ?_ ?_ _ | refine Below.drewN' _ ?_ | refine Below.drew ?_ | exact Ge.le) | go_size))
  have hb := h.bel
  exact bodyPost_ret (v := .tuple #[(.agg #[.float .f64 r1, .float .f64 r2]), .bool true]) (by simp [results, Tryz.results84, go_sem, bz.set0, bz.set1]) rfl (val2_mk rfl (by (repeat' first | (with_reducible first | exact Below.refl _ _ | assumption | refine Later.belowOf _ ?_ ?_ | refine Below.alloc ?_ ?_ _ | refine Below.setCell ?_ ?_ _ | refine Below.drewN' _ ?_ | refine Below.drew ?_ | exact Ge.le) | go_size)))

set_option maxHeartbeats 4000000 in
set_option maxRecDepth 100000 in
theorem value_14 (w : World) (B N : Int) (lo hi : Nat) (vx : Value) (ia bv ov cv nv a1 a2 r1 r2 : Nat) (ha : ia < nv) (ca0 : w.cell? ⟨bv, ov + ia * 2, none⟩ = some (.float .f64 a1)) (ca1 : w.cell? ⟨bv, ov + ia * 2 + 1, none⟩ = some (.float .f64 a2)) (C : Gives 166 #[(.agg #[.float .f64 a1, .float .f64 a2])] (.agg #[.float .f64 r1, .float .f64 r2])) : Calls Tryz.prog 84 #[(.agg #[.int .i64 14, .int .i64 ia, .int .i64 B, .int .i64 N, .float .f64 lo, .float .f64 hi]), .slice (some ⟨bv, ov, none⟩) nv cv, vx] w (Val2 w (r1, r2) true) := by
  have ia0 : (0 : Int) ≤ (ia : Int) := by omega
  have ia1 : (ia : Int) < (nv : Int) := by omega
  have hn := needs_any 14
  rw [show needI 14 = 1 by decide] at hn
  go_enter Tryz.func84, Tryz.ntmps84
  go_upto_region 4 with (go_at_call 113; (with_reducible refine (hn.go _).mono ?_); rintro _ _ ⟨n, rfl, rfl⟩)
  have h0 := (vw_start w 14 (ia) (B) (N) lo hi).later n
  refine cut_world (fun W hW => ?_)
  have h := h0
  rw [hW] at h
  clear hW h0 hn
  haveI g0 : Ge W (w.heap.size + 1) := ⟨h.o.lt⟩
  haveI g1 : Ge W (w.heap.size + 1 + 1) := ⟨h.r.lt⟩
  haveI g2 : Ge W (w.heap.size + 2 + 1) := ⟨h.a.lt⟩
  haveI g3 : Ge W (w.heap.size + 3 + 1) := ⟨h.b.lt⟩
  haveI g4 : Ge W w.heap.size := ⟨h.bel.size⟩
  have k0 := h.o.c0
  have k1 := h.o.c1
  have k2 := h.o.c2
  have k3 := h.o.c3
  have k4 := h.o.c4
  have k5 := h.o.c5
  have xa0 := h.a.c0
  have xa1 := h.a.c1
  have xb0 := h.b.c0
  have xb1 := h.b.c1
  have fa0 := h.a.f0
  have fa1 := h.a.f1
  have fb0 := h.b.f0
  have fb1 := h.b.f1
  have v0 := cellBelow h.bel ca0
  have v1 := cellBelow h.bel ca1
  go_upto_region 5 with (fail)
  have h0 := h.setA a1 a2
  clear g0 g1 g2 g3 g4 k0 k1 k2 k3 k4 k5 xa0 xa1 xb0 xb1 fa0 fa1 fb0 fb1 v0 v1 h
  refine cut_world (fun W1 hW => ?_)
  have h := h0
  rw [hW] at h
  clear hW h0
  haveI g0 : Ge W1 (w.heap.size + 1) := ⟨h.o.lt⟩
  haveI g1 : Ge W1 (w.heap.size + 1 + 1) := ⟨h.r.lt⟩
  haveI g2 : Ge W1 (w.heap.size + 2 + 1) := ⟨h.a.lt⟩
  haveI g3 : Ge W1 (w.heap.size + 3 + 1) := ⟨h.b.lt⟩
  haveI g4 : Ge W1 w.heap.size := ⟨h.bel.size⟩
  have k0 := h.o.c0
  have k1 := h.o.c1
  have k2 := h.o.c2
  have k3 := h.o.c3
  have k4 := h.o.c4
  have k5 := h.o.c5
  have xa0 := h.a.c0
  have xa1 := h.a.c1
  have xb0 := h.b.c0
  have xb1 := h.b.c1
  have xr0 := h.r.c0
  have xr1 := h.r.c1
  have fr0 := h.r.f0
  have fr1 := h.r.f1
  go_wp2_with (first | (go_at_call 166; (with_reducible refine (C.go _).mono ?_); rintro _ _ ⟨nn, rfl, rfl⟩))
  have bz := h.r.below (w' := nn.val) (by (repeat' first | (with_reducible first | exact Below.refl _ _ | assumption | refine Later.belowOf _ ?_ ?_ | refine Below.alloc ?_ ?_ _ | refine Below.setCell ?_ ?_ _ | refine Below.drewN' _ ?_ | refine Below.drew ?_ | exact Ge.le) | go_size))
  have hb := h.bel
  exact bodyPost_ret (v := .tuple #[(.agg #[.float .f64 r1, .float .f64 r2]), .bool true]) (by simp [results, Tryz.results84, go_sem, bz.set0, bz.set1]) rfl (val2_mk rfl (by (repeat' first | (with_reducible first | exact Below.refl _ _ | assumption | refine Later.belowOf _ ?_ ?_ | refine Below.alloc ?_ ?_ _ | refine Below.setCell ?_ ?_ _ | refine Below.drewN' _ ?_ | refine Below.drew ?_ | exact Ge.le) | go_size)))

end Go.Proofs.YtpkgpkabmechkaaGreat
