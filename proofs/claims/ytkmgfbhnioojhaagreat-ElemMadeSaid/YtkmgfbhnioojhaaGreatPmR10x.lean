/- Contract: orreryref03.over. -/
import Derived.Test.YtkmgfbhnioojhaaGreatPmR9
import Derived.Test.YtkmgfbhnioojhaaGreatPmR1x
namespace Go.Proofs.YtkmgfbhnioojhaaGreat
set_option linter.unusedSimpArgs false
set_option linter.unusedVariables false
open Go.RowKit
open Fl

set_option maxHeartbeats 8000000 in
set_option maxRecDepth 100000 in
theorem overP2_any (x : P2) (n : Nat) (A : Option Addr) (ka ca : Nat) (B : Option Addr) (kb cb : Nat) (w : World) (hA : BigS w (.slice A ka ca) x.a.m) (hB : BigS w (.slice B kb cb) x.b.m) (ox : x.Ok) (f1 : blen x.a.m ≤ 224) (f2 : blen x.b.m ≤ 224) (hn : 0 < n) (hn2 : n ≤ 1000000000) :
    Calls Tryz.prog 106 #[(.agg #[.bool x.a.s, (.slice A ka ca), .int .i64 x.a.e, .bool x.b.s, (.slice B kb cb), .int .i64 x.b.e]), .int .i64 n] w (PRes (x.over n) w) := by
  have c1 := fun (w1 : World) (h : Below w.heap.size w w1) => NumRes.go (part_any x.a n true A ka ca w1 (hA.at h) ox.1 f1 hn hn2)
  have c2 := fun (w1 : World) (h : Below w.heap.size w w1) => NumRes.go (part_any x.b n false B kb cb w1 (hB.at h) ox.2 f2 hn hn2)
  simp only [dirI, Bool.false_eq_true, if_true, if_false] at c1 c2
  unfold P2.over
  generalize x.a.part n true = p at *
  generalize x.b.part n false = q at *
  obtain ⟨⟨xs, xm, xe⟩, ⟨xt, xn, xf⟩⟩ := x
  obtain ⟨ps, pm, pe⟩ := p
  obtain ⟨qs, qm, qe⟩ := q
  simp only at *
  have C1 := Lib.hid c1
  have C2 := Lib.hid c2
  clear c1 c2 hA hB ox f1 f2 hn hn2
  unfold PRes
  simp only
  go_enter Tryz.func106, Tryz.ntmps106
  go_wp2_with (fail)
  go_region_held3 (fun w' => w'.cell? ⟨w.heap.size, 0, none⟩ = some (.bool xs) ∧ w'.cell? ⟨w.heap.size, 1, none⟩ = some (.slice A ka ca) ∧ w'.cell? ⟨w.heap.size, 2, none⟩ = some (.int .i64 xe) ∧ w'.cell? ⟨w.heap.size, 3, none⟩ = some (.bool xt) ∧ w'.cell? ⟨w.heap.size, 4, none⟩ = some (.slice B kb cb) ∧ w'.cell? ⟨w.heap.size, 5, none⟩ = some (.int .i64 xf))
    (first | (go_simp; done) | go_keep)
    ((first | (go_at_call 185; with_reducible refine (C1.out _ (by (repeat' first | (with_reducible first | exact Below.refl _ _ | assumption | refine Later.belowOf _ ?_ ?_ | refine Below.alloc ?_ ?_ _ | refine Below.setCell ?_ ?_ _ | refine Below.drewN' _ ?_ | refine Below.drew ?_ | exact Ge.le) | go_size))).mono ?_; rintro _ _ ⟨A2, k2, d2, q2, hq2, rfl, rfl⟩; have hq2' := hq2.out) | (go_at_call 185; with_reducible refine (C2.out _ (by (repeat' first | (with_reducible first | exact Below.refl _ _ | assumption | refine Later.belowOf _ ?_ ?_ | refine Below.alloc ?_ ?_ _ | refine Below.setCell ?_ ?_ _ | refine Below.drewN' _ ?_ | refine Below.drew ?_ | exact Ge.le) | go_size))).mono ?_; rintro _ _ ⟨A3, k3, d3, q3, hq3, rfl, rfl⟩; have hq3' := hq3.out)))
  all_goals
    rename_i hHeld
    clear hHeld
    go_wp2
    go_returns
    exact ⟨⟨_, _, _, _, _, _, rfl, by (repeat (first | (with_reducible assumption) | (with_reducible refine Big.drew ?_) | (with_reducible refine Big.drewN ?_ _) | (with_reducible refine Big.alloc ?_ _) | (with_reducible refine Big.later ?_ _) | (with_reducible refine Big.setCell ?_ _ (by go_simp)))), by (repeat (first | (with_reducible assumption) | (with_reducible refine Big.drew ?_) | (with_reducible refine Big.drewN ?_ _) | (with_reducible refine Big.alloc ?_ _) | (with_reducible refine Big.later ?_ _) | (with_reducible refine Big.setCell ?_ _ (by go_simp))))⟩, by (repeat' first | (with_reducible first | exact Below.refl _ _ | assumption | refine Later.belowOf _ ?_ ?_ | refine Below.alloc ?_ ?_ _ | refine Below.setCell ?_ ?_ _ | refine Below.drewN' _ ?_ | refine Below.drew ?_ | exact Ge.le) | go_size)⟩
end Go.Proofs.YtkmgfbhnioojhaaGreat

/- Contract: orreryref03.Mul: the walk. -/
namespace Go.Proofs.YtkmgfbhnioojhaaGreat
set_option linter.unusedSimpArgs false
set_option linter.unusedVariables false
open Go.RowKit
open Fl

theorem cut_worldN {P : Program} {c : Code} {Q : Exit → Act → World → Prop} {a : Act} {w : World} (h : ∀ W, w = W → c.wp P Q a W) : c.wp P Q a w := h w rfl
def MulInv (Wb : World) (B5 B6 SB : Nat) (x y : P2) (p2 p3 p4 : Q) (A1 A2 A3 : Option Addr) (k1 k2 k3 c1 c2 c3 : Nat) (i : Value) (wr : World) : Prop :=
  ∃ (j : Nat) (A : Option Addr) (k c : Nat) (A' : Option Addr) (k' c' : Nat), i = .int .i64 j ∧ j ≤ 3 ∧ NBox wr B5 (mulLo x y j) A k c ∧ NBox wr B6 (mulHi x y j) A' k' c' ∧
    Three wr SB p2 p3 p4 A1 A2 A3 k1 k2 k3 c1 c2 c3 ∧ Below B5 Wb wr
theorem NBox.set3b {W Wb : World} {b B5 : Nat} (h : Below B5 Wb W) (hb : B5 ≤ b) (x y z : Value) : Below B5 Wb (((W.setCell ⟨b, 0, none⟩ x).setCell ⟨b, 1, none⟩ y).setCell ⟨b, 2, none⟩ z) :=
  ((h.setCell (p := ⟨b, 0, none⟩) hb _).setCell (p := ⟨b, 1, none⟩) hb _).setCell (p := ⟨b, 2, none⟩) hb _

set_option maxHeartbeats 1000000 in
theorem Big.set6 {w : World} {v : Value} {n b : Nat} {s t : Bool} {A B : Option Addr} {k c l d : Nat} {e f : Int} (h : Big w v n) (c0 : w.cell? ⟨b, 0, none⟩ = some (.bool s)) (c1 : w.cell? ⟨b, 1, none⟩ = some (.slice A k c)) (c2 : w.cell? ⟨b, 2, none⟩ = some (.int .i64 e))
    (c3 : w.cell? ⟨b, 3, none⟩ = some (.bool t)) (c4 : w.cell? ⟨b, 4, none⟩ = some (.slice B l d)) (c5 : w.cell? ⟨b, 5, none⟩ = some (.int .i64 f)) (x y z x2 y2 z2 : Value) :
    Big ((((((w.setCell ⟨b, 0, none⟩ x).setCell ⟨b, 1, none⟩ y).setCell ⟨b, 2, none⟩ z).setCell ⟨b, 3, none⟩ x2).setCell ⟨b, 4, none⟩ y2).setCell ⟨b, 5, none⟩ z2) v n := by
  have h3 := Big.set3 h c0 c1 c2 x y z
  have d3 : (((w.setCell ⟨b, 0, none⟩ x).setCell ⟨b, 1, none⟩ y).setCell ⟨b, 2, none⟩ z).cell? ⟨b, 3, none⟩ = some (.bool t) := by simp [go_sem, c3]
  have d4 : ((((w.setCell ⟨b, 0, none⟩ x).setCell ⟨b, 1, none⟩ y).setCell ⟨b, 2, none⟩ z).setCell ⟨b, 3, none⟩ x2).cell? ⟨b, 4, none⟩ = some (.slice B l d) := by simp [go_sem, c4]
  have d5 : (((((w.setCell ⟨b, 0, none⟩ x).setCell ⟨b, 1, none⟩ y).setCell ⟨b, 2, none⟩ z).setCell ⟨b, 3, none⟩ x2).setCell ⟨b, 4, none⟩ y2).cell? ⟨b, 5, none⟩ = some (.int .i64 f) := by simp [go_sem, c5]
  exact ((h3.setCell x2 (by rw [d3]; rfl)).setCell y2 (by rw [d4]; rfl)).setCell z2 (by rw [d5]; rfl)

set_option maxHeartbeats 60000000 in
set_option maxRecDepth 100000 in
theorem mulP2_any (x y : P2) (A : Option Addr) (ka ca : Nat) (B : Option Addr) (kb cb : Nat) (C : Option Addr) (kc cc : Nat) (D : Option Addr) (kd cd : Nat) (w : World) (hA : BigS w (.slice A ka ca) x.a.m) (hB : BigS w (.slice B kb cb) x.b.m) (hC : BigS w (.slice C kc cc) y.a.m) (hD : BigS w (.slice D kd cd) y.b.m) (ox : x.Ok) (oy : y.Ok) :
    Calls Tryz.prog 101 #[(.agg #[.bool x.a.s, (.slice A ka ca), .int .i64 x.a.e, .bool x.b.s, (.slice B kb cb), .int .i64 x.b.e]), (.agg #[.bool y.a.s, (.slice C kc cc), .int .i64 y.a.e, .bool y.b.s, (.slice D kd cd), .int .i64 y.b.e])] w (PRes (x.mul y) w) := by
  obtain ⟨midT, midLH⟩ := mul_mids ox oy
  have m1 := fun (w1 : World) (h : Below w.heap.size w w1) => NumRes.go (mulQ_any x.a y.a A ka ca C kc cc w1 (hA.at h) (hC.at h) ox.1 oy.1)
  have m2 := fun (w1 : World) (h : Below w.heap.size w w1) => NumRes.go (mulQ_any x.a y.b A ka ca D kd cd w1 (hA.at h) (hD.at h) ox.1 oy.2)
  have m3 := fun (w1 : World) (h : Below w.heap.size w w1) => NumRes.go (mulQ_any x.b y.a B kb cb C kc cc w1 (hB.at h) (hC.at h) ox.2 oy.1)
  have m4 := fun (w1 : World) (h : Below w.heap.size w w1) => NumRes.go (mulQ_any x.b y.b B kb cb D kd cd w1 (hB.at h) (hD.at h) ox.2 oy.2)
  have M1 := Lib.hid m1
  have M2 := Lib.hid m2
  have M3 := Lib.hid m3
  have M4 := Lib.hid m4
  have MID := Lib.hid (show _ ∧ _ from ⟨midT, midLH⟩)
  clear m1 m2 m3 m4 midT midLH hA hB hC hD ox oy
  have hz : P2.of (mulLo x y 3) (mulHi x y 3) = x.mul y := rfl
  obtain ⟨z, hz2⟩ : ∃ z, x.mul y = z := ⟨_, rfl⟩
  rw [hz2] at hz ⊢
  have HZ := Lib.hid hz
  clear hz hz2
  obtain ⟨p1, hp1⟩ : ∃ p, x.a.mul y.a = p := ⟨_, rfl⟩
  obtain ⟨p2, hp2⟩ : ∃ p, x.a.mul y.b = p := ⟨_, rfl⟩
  obtain ⟨p3, hp3⟩ : ∃ p, x.b.mul y.a = p := ⟨_, rfl⟩
  obtain ⟨p4, hp4⟩ : ∃ p, x.b.mul y.b = p := ⟨_, rfl⟩
  rw [hp1] at M1
  rw [hp2] at M2
  rw [hp3] at M3
  rw [hp4] at M4
  have HP := Lib.hid (show _ ∧ _ ∧ _ ∧ _ from ⟨hp1, hp2, hp3, hp4⟩)
  clear hp1 hp2 hp3 hp4
  go_enter Tryz.func101, Tryz.ntmps101
  go_upto_region 3 with (go_at_call 67; with_reducible refine (M1.out _ (by (repeat' first | (with_reducible first | exact Below.refl _ _ | assumption | refine Later.belowOf _ ?_ ?_ | refine Below.alloc ?_ ?_ _ | refine Below.setCell ?_ ?_ _ | refine Below.drewN' _ ?_ | refine Below.drew ?_ | exact Ge.le) | go_size))).mono ?_; rintro _ _ ⟨A2, k2, d2, q2, hq2, rfl, rfl⟩; have hq2' := hq2.out)
  refine cut_worldN (fun W3 hW3 => ?_)
  have bwb : Below w.heap.size w q2.val := by (repeat' first | (with_reducible first | exact Below.refl _ _ | assumption | refine Later.belowOf _ ?_ ?_ | refine Below.alloc ?_ ?_ _ | refine Below.setCell ?_ ?_ _ | refine Below.drewN' _ ?_ | refine Below.drew ?_ | exact Ge.le) | go_size)
  have bb3 : Below q2.val.heap.size q2.val W3 := by rw [← hW3]; exact ((Below.refl _ _).alloc (Nat.le_refl _) _).alloc (by simp) _
  have b3 : Below w.heap.size w W3 := bwb.trans (bb3.mono bwb.size)
  have nb5 : NBox W3 q2.val.heap.size p1 A2 k2 d2 := by
    refine ⟨by rw [← hW3]; exact (Below.heap_alloc _ _ _ (by simp)).trans (heap_alloc_new _ _), ?_⟩
    exact hq2'.below bb3
  have nb6 : NBox W3 (q2.val.heap.size + 1) p1 A2 k2 d2 := by
    refine ⟨by rw [← hW3]; have := heap_alloc_new (q2.val.alloc (Obj.cells #[.bool p1.s, .slice A2 k2 d2, .int .i64 p1.e] 33)) (Obj.cells #[.bool p1.s, .slice A2 k2 d2, .int .i64 p1.e] 33); rwa [World.size_alloc] at this, ?_⟩
    exact hq2'.below bb3
  have x0 : W3.cell? ⟨w.heap.size, 0, none⟩ = some (.bool x.a.s) := by rw [← hW3]; simp [go_sem]
  have x1 : W3.cell? ⟨w.heap.size, 1, none⟩ = some (.slice A ka ca) := by rw [← hW3]; simp [go_sem]
  have x2 : W3.cell? ⟨w.heap.size, 2, none⟩ = some (.int .i64 x.a.e) := by rw [← hW3]; simp [go_sem]
  have x3 : W3.cell? ⟨w.heap.size, 3, none⟩ = some (.bool x.b.s) := by rw [← hW3]; simp [go_sem]
  have x4 : W3.cell? ⟨w.heap.size, 4, none⟩ = some (.slice B kb cb) := by rw [← hW3]; simp [go_sem]
  have x5 : W3.cell? ⟨w.heap.size, 5, none⟩ = some (.int .i64 x.b.e) := by rw [← hW3]; simp [go_sem]
  have y0 : W3.cell? ⟨w.heap.size + 1, 0, none⟩ = some (.bool y.a.s) := by rw [← hW3]; simp [go_sem]
  have y1 : W3.cell? ⟨w.heap.size + 1, 1, none⟩ = some (.slice C kc cc) := by rw [← hW3]; simp [go_sem]
  have y2 : W3.cell? ⟨w.heap.size + 1, 2, none⟩ = some (.int .i64 y.a.e) := by rw [← hW3]; simp [go_sem]
  have y3 : W3.cell? ⟨w.heap.size + 1, 3, none⟩ = some (.bool y.b.s) := by rw [← hW3]; simp [go_sem]
  have y4 : W3.cell? ⟨w.heap.size + 1, 4, none⟩ = some (.slice D kd cd) := by rw [← hW3]; simp [go_sem]
  have y5 : W3.cell? ⟨w.heap.size + 1, 5, none⟩ = some (.int .i64 y.b.e) := by rw [← hW3]; simp [go_sem]
  have z0 : ∀ j, j < 6 → W3.frozen? ⟨w.heap.size + 2, j, none⟩ = false := fun j _ => by rw [← hW3]; simp [go_sem]
  have z1 : W3.cell? ⟨w.heap.size + 2, 0, none⟩ = some (.bool false) ∧ W3.cell? ⟨w.heap.size + 2, 1, none⟩ = some (.slice none 0 0) ∧ W3.cell? ⟨w.heap.size + 2, 2, none⟩ = some (.int .i64 0) ∧ W3.cell? ⟨w.heap.size + 2, 3, none⟩ = some (.bool false) ∧ W3.cell? ⟨w.heap.size + 2, 4, none⟩ = some (.slice none 0 0) ∧ W3.cell? ⟨w.heap.size + 2, 5, none⟩ = some (.int .i64 0) := by rw [← hW3]; simp [go_sem]
  have hs : w.heap.size + 3 ≤ q2.val.heap.size := by have := q2.below.size; simpa using this
  have hs3 : q2.val.heap.size + 2 ≤ W3.heap.size := by rw [← hW3]; simp
  have HB := Lib.hid (show _ ∧ _ ∧ _ ∧ _ ∧ _ ∧ _ ∧ _ from ⟨bwb, bb3, b3, nb5, nb6, z0, z1⟩)
  haveI ge0 : Ge W3 w.heap.size := ⟨by omega⟩
  haveI ge1 : Ge W3 (w.heap.size + 1) := ⟨by omega⟩
  haveI ge2 : Ge W3 (w.heap.size + 1 + 1) := ⟨by omega⟩
  clear hW3 bwb bb3 nb5 nb6 z0 z1 hq2 hq2'
  generalize q2.val.heap.size = b5 at *
  go_region_held3 (fun w' => w'.cell? ⟨w.heap.size, 0, none⟩ = some (.bool x.a.s) ∧ w'.cell? ⟨w.heap.size, 1, none⟩ = some (.slice A ka ca) ∧ w'.cell? ⟨w.heap.size, 2, none⟩ = some (.int .i64 x.a.e) ∧ w'.cell? ⟨w.heap.size, 3, none⟩ = some (.bool x.b.s) ∧ w'.cell? ⟨w.heap.size, 4, none⟩ = some (.slice B kb cb) ∧ w'.cell? ⟨w.heap.size, 5, none⟩ = some (.int .i64 x.b.e) ∧ w'.cell? ⟨w.heap.size + 1, 0, none⟩ = some (.bool y.a.s) ∧ w'.cell? ⟨w.heap.size + 1, 1, none⟩ = some (.slice C kc cc) ∧ w'.cell? ⟨w.heap.size + 1, 2, none⟩ = some (.int .i64 y.a.e) ∧ w'.cell? ⟨w.heap.size + 1, 3, none⟩ = some (.bool y.b.s) ∧ w'.cell? ⟨w.heap.size + 1, 4, none⟩ = some (.slice D kd cd) ∧ w'.cell? ⟨w.heap.size + 1, 5, none⟩ = some (.int .i64 y.b.e))
    (first | (go_simp; done) | go_keep)
    (first
      | (go_at_call 67; with_reducible refine (M2.out _ (by (repeat' first | (with_reducible first | exact Below.refl _ _ | assumption | refine Later.belowOf _ ?_ ?_ | refine Below.alloc ?_ ?_ _ | refine Below.setCell ?_ ?_ _ | refine Below.drewN' _ ?_ | refine Below.drew ?_ | exact Ge.le) | go_size))).mono ?_; rintro _ _ ⟨A3, k3, d3, q3, hq3, rfl, rfl⟩; have hq3' := hq3.out)
      | (go_at_call 67; with_reducible refine (M3.out _ (by (repeat' first | (with_reducible first | exact Below.refl _ _ | assumption | refine Later.belowOf _ ?_ ?_ | refine Below.alloc ?_ ?_ _ | refine Below.setCell ?_ ?_ _ | refine Below.drewN' _ ?_ | refine Below.drew ?_ | exact Ge.le) | go_size))).mono ?_; rintro _ _ ⟨A4, k4, d4, q4, hq4, rfl, rfl⟩; have hq4' := hq4.out)
      | (go_at_call 67; with_reducible refine (M4.out _ (by (repeat' first | (with_reducible first | exact Below.refl _ _ | assumption | refine Later.belowOf _ ?_ ?_ | refine Below.alloc ?_ ?_ _ | refine Below.setCell ?_ ?_ _ | refine Below.drewN' _ ?_ | refine Below.drew ?_ | exact Ge.le) | go_size))).mono ?_; rintro _ _ ⟨A5, k5, d5, q5, hq5, rfl, rfl⟩; have hq5' := hq5.out))
  all_goals
    rename_i hHeld
    clear hHeld
    go_wp2
    refine cut_worldN (fun W5 hW5 => ?_)
    have hth : Three W5 q5.val.heap.size p2 p3 p4 A3 A4 A5 k3 k4 k5 d3 d4 d5 := by
      refine ⟨by rw [← hW5]; exact heap_alloc_new _ _, by rw [← hW5]; (repeat (first | (with_reducible assumption) | (with_reducible refine Big.drew ?_) | (with_reducible refine Big.drewN ?_ _) | (with_reducible refine Big.alloc ?_ _) | (with_reducible refine Big.later ?_ _) | (with_reducible refine Big.setCell ?_ _ (by go_simp)))), by rw [← hW5]; (repeat (first | (with_reducible assumption) | (with_reducible refine Big.drew ?_) | (with_reducible refine Big.drewN ?_ _) | (with_reducible refine Big.alloc ?_ _) | (with_reducible refine Big.later ?_ _) | (with_reducible refine Big.setCell ?_ _ (by go_simp)))), by rw [← hW5]; (repeat (first | (with_reducible assumption) | (with_reducible refine Big.drew ?_) | (with_reducible refine Big.drewN ?_ _) | (with_reducible refine Big.alloc ?_ _) | (with_reducible refine Big.later ?_ _) | (with_reducible refine Big.setCell ?_ _ (by go_simp))))⟩
    have b35 : Below W3.heap.size W3 W5 := by rw [← hW5]; (repeat' first | (with_reducible first | exact Below.refl _ _ | assumption | refine Later.belowOf _ ?_ ?_ | refine Below.alloc ?_ ?_ _ | refine Below.setCell ?_ ?_ _ | refine Below.drewN' _ ?_ | refine Below.drew ?_ | exact Ge.le) | go_size)
    have nb5 := HB.out.2.2.2.1.below b35
    have nb6 := HB.out.2.2.2.2.1.below b35
    have bb5 : Below b5 q2.val W5 := HB.out.2.1.trans (b35.mono (by omega))
    have hsb : b5 + 2 ≤ q5.val.heap.size := by
      have h1 := q5.below.size
      have h2 := b35.size
      have h3 : W5.heap.size = q5.val.heap.size + 1 := by rw [← hW5]; simp
      have h4 : W3.heap.size ≤ q5.val.heap.size := by
        have : Below W3.heap.size W3 q5.val := by (repeat' first | (with_reducible first | exact Below.refl _ _ | assumption | refine Later.belowOf _ ?_ ?_ | refine Below.alloc ?_ ?_ _ | refine Below.setCell ?_ ?_ _ | refine Below.drewN' _ ?_ | refine Below.drew ?_ | exact Ge.le) | go_size)
        exact this.size
      omega
    generalize q5.val.heap.size = sb at *
    clear hW5
    go_loopw [32] (fun i wr => MulInv q2.val b5 (b5 + 1) sb x y p2 p3 p4 A3 A4 A5 k3 k4 k5 d3 d4 d5 i wr) (fun i _ => 3 - (intOf i).toNat)
    case atStart => exact ⟨0, A2, k2, d2, A2, k2, d2, rfl, by omega, by show NBox W5 b5 (x.a.mul y.a) _ _ _; rw [HP.out.1]; exact nb5, by show NBox W5 (b5 + 1) (x.a.mul y.a) _ _ _; rw [HP.out.1]; exact nb6, hth, bb5⟩
    case round =>
      obtain ⟨j, Al, kl, cl', Ah, kh, ch, rfl, hj, hlo, hhi, hth, hbel⟩ := hrel
      have hj2 : (j : Int) ≤ 3 := by omega
      by_cases hj3 : j < 3
      · obtain ⟨t0, t1, t2, t3⟩ := hth.at' hj3
        have hPm : Three.pick p2 p3 p4 j = mulT x y j := by
          rw [mulT_pick x y hj3, HP.out.2.1, HP.out.2.2.1, HP.out.2.2.2]
        have mP := MID.out.1 j
        rw [← hPm] at mP
        obtain ⟨mL, mH⟩ := MID.out.2 j hj
        have eL := mulLo_step x y hj3
        have eH := mulHi_step x y hj3
        rw [← hPm] at eL eH
        generalize Three.pick p2 p3 p4 j = P at *
        generalize Three.pick A3 A4 A5 j = PA at *
        generalize Three.pick k3 k4 k5 j = Pk at *
        generalize Three.pick d3 d4 d5 j = Pc at *
        unfold loQ at eL
        unfold hiQ at eH
        generalize mulLo x y j = L at *
        generalize mulHi x y j = H at *
        have OL := fun (w1 : World) (h1 : Big w1 (.slice PA Pk Pc) P.m) (h2 : Big w1 (.slice Al kl cl') L.m) => IntRes.go (ordQ_any P L PA Pk Pc Al kl cl' w1 h1.stays h2.stays mP mL)
        have OH := fun (w1 : World) (h1 : Big w1 (.slice PA Pk Pc) P.m) (h2 : Big w1 (.slice Ah kh ch) H.m) => IntRes.go (ordQ_any P H PA Pk Pc Ah kh ch w1 h1.stays h2.stays mP mH)
        have a0 := hlo.c0
        have a1 := hlo.c1
        have a2 := hlo.c2
        have a3 := hlo.fz 0 (by omega)
        have a4 := hlo.fz 1 (by omega)
        have a5 := hlo.fz 2 (by omega)
        have h0 := hhi.c0
        have h1 := hhi.c1
        have h2 := hhi.c2
        have h3 := hhi.fz 0 (by omega)
        have h4 := hhi.fz 1 (by omega)
        have h5 := hhi.fz 2 (by omega)
        have gLb := hlo.big
        have gHb := hhi.big
        have ltl := hlo.lt
        have lth := hhi.lt
        have ltt := hth.lt
        haveI gb1 : Ge wr (b5 + 1) := ⟨ltl⟩
        haveI gb2 : Ge wr (b5 + 1 + 1) := ⟨lth⟩
        haveI gb3 : Ge wr (sb + 1) := ⟨ltt⟩
        have hal : Below wr.heap.size wr (wr.alloc (Obj.cells #[.bool P.s, .slice PA Pk Pc, .int .i64 P.e] 33)) := (Below.refl _ _).alloc (Nat.le_refl _) _
        have HH := Lib.hid (show _ ∧ _ ∧ _ ∧ _ ∧ _ from ⟨hlo, hhi, hth, hbel, t3⟩)
        have HE := Lib.hid (show _ ∧ _ from ⟨eL, eH⟩)
        clear eL eH hPm mP mL mH hlo hhi hth hbel
        by_cases o1 : P.ord L < 0
        · by_cases o2 : 0 < P.ord H
          · have HO := Lib.hid (show _ ∧ _ from ⟨o1, o2⟩)
            generalize P.ord L = ol at *
            generalize P.ord H = oh at *
            go_wp2_with (first
              | (go_at_call 89; with_reducible refine (OL _ (by (repeat (first | (with_reducible assumption) | (with_reducible refine Big.drew ?_) | (with_reducible refine Big.drewN ?_ _) | (with_reducible refine Big.alloc ?_ _) | (with_reducible refine Big.later ?_ _) | (with_reducible refine Big.setCell ?_ _ (by go_simp))))) (by (repeat (first | (with_reducible assumption) | (with_reducible refine Big.drew ?_) | (with_reducible refine Big.drewN ?_ _) | (with_reducible refine Big.alloc ?_ _) | (with_reducible refine Big.later ?_ _) | (with_reducible refine Big.setCell ?_ _ (by go_simp)))))).mono ?_; rintro _ _ ⟨n1, rfl, rfl⟩; have b11 : Below wr.heap.size wr n1.val := hal.trans (n1.below.mono hal.size); have lo1 := HH.out.1.below b11; have hi1 := HH.out.2.1.below b11; have th1 := HH.out.2.2.1.below b11; have pb1 := HH.out.2.2.2.2.below b11; have gh1 := hi1.big; have lo2 := lo1.set pb1; have hi2 := hi1.other lo1 (by omega) (.bool P.s) (.slice PA Pk Pc) (.int .i64 P.e); have th2 := th1.other lo1 (by omega) (.bool P.s) (.slice PA Pk Pc) (.int .i64 P.e); have pb2 := Big.set3 pb1 lo1.c0 lo1.c1 lo1.c2 (.bool P.s) (.slice PA Pk Pc) (.int .i64 P.e); have gh2 := hi2.big)
              | (go_at_call 89; with_reducible refine (OH _ (by assumption) (by assumption)).mono ?_; rintro _ _ ⟨n2, rfl, rfl⟩))
            have lo3 := lo2.below n2.below
            have hi3 := hi2.below n2.below
            have th3 := th2.below n2.below
            have pb3 := pb2.below n2.below
            exact ⟨⟨j + 1, _, _, _, _, _, _, by go_num, by omega, by rw [HE.out.1, if_pos (by have := HO.out.1; omega)]; exact lo3.other hi3 (by omega) _ _ _, by rw [HE.out.2, if_pos (by have := HO.out.2; omega)]; exact hi3.set pb3, th3.other hi3 (by omega) _ _ _, NBox.set3b ((NBox.set3b (HH.out.2.2.2.1.trans (b11.mono (by omega))) (Nat.le_refl _) _ _ _).trans (n2.below.mono (by have := b11.size; simp; omega))) (by omega) _ _ _⟩, by simp [intOf]; omega⟩
          · have HO := Lib.hid (show _ ∧ _ from ⟨o1, o2⟩)
            generalize P.ord L = ol at *
            generalize P.ord H = oh at *
            go_wp2_with (first
              | (go_at_call 89; with_reducible refine (OL _ (by (repeat (first | (with_reducible assumption) | (with_reducible refine Big.drew ?_) | (with_reducible refine Big.drewN ?_ _) | (with_reducible refine Big.alloc ?_ _) | (with_reducible refine Big.later ?_ _) | (with_reducible refine Big.setCell ?_ _ (by go_simp))))) (by (repeat (first | (with_reducible assumption) | (with_reducible refine Big.drew ?_) | (with_reducible refine Big.drewN ?_ _) | (with_reducible refine Big.alloc ?_ _) | (with_reducible refine Big.later ?_ _) | (with_reducible refine Big.setCell ?_ _ (by go_simp)))))).mono ?_; rintro _ _ ⟨n1, rfl, rfl⟩; have b11 : Below wr.heap.size wr n1.val := hal.trans (n1.below.mono hal.size); have lo1 := HH.out.1.below b11; have hi1 := HH.out.2.1.below b11; have th1 := HH.out.2.2.1.below b11; have pb1 := HH.out.2.2.2.2.below b11; have gh1 := hi1.big; have lo2 := lo1.set pb1; have hi2 := hi1.other lo1 (by omega) (.bool P.s) (.slice PA Pk Pc) (.int .i64 P.e); have th2 := th1.other lo1 (by omega) (.bool P.s) (.slice PA Pk Pc) (.int .i64 P.e); have pb2 := Big.set3 pb1 lo1.c0 lo1.c1 lo1.c2 (.bool P.s) (.slice PA Pk Pc) (.int .i64 P.e); have gh2 := hi2.big)
              | (go_at_call 89; with_reducible refine (OH _ (by assumption) (by assumption)).mono ?_; rintro _ _ ⟨n2, rfl, rfl⟩))
            exact ⟨⟨j + 1, _, _, _, _, _, _, by go_num, by omega, by rw [HE.out.1, if_pos (by have := HO.out.1; omega)]; exact lo2.below n2.below, by rw [HE.out.2, if_neg (by have := HO.out.2; omega)]; exact hi2.below n2.below, th2.below n2.below, (NBox.set3b (HH.out.2.2.2.1.trans (b11.mono (by omega))) (Nat.le_refl _) _ _ _).trans (n2.below.mono (by have := b11.size; simp; omega))⟩, by simp [intOf]; omega⟩
        · by_cases o2 : 0 < P.ord H
          · have HO := Lib.hid (show _ ∧ _ from ⟨o1, o2⟩)
            generalize P.ord L = ol at *
            generalize P.ord H = oh at *
            go_wp2_with (first
              | (go_at_call 89; with_reducible refine (OL _ (by (repeat (first | (with_reducible assumption) | (with_reducible refine Big.drew ?_) | (with_reducible refine Big.drewN ?_ _) | (with_reducible refine Big.alloc ?_ _) | (with_reducible refine Big.later ?_ _) | (with_reducible refine Big.setCell ?_ _ (by go_simp))))) (by (repeat (first | (with_reducible assumption) | (with_reducible refine Big.drew ?_) | (with_reducible refine Big.drewN ?_ _) | (with_reducible refine Big.alloc ?_ _) | (with_reducible refine Big.later ?_ _) | (with_reducible refine Big.setCell ?_ _ (by go_simp)))))).mono ?_; rintro _ _ ⟨n1, rfl, rfl⟩; have b11 : Below wr.heap.size wr n1.val := hal.trans (n1.below.mono hal.size); have lo1 := HH.out.1.below b11; have hi1 := HH.out.2.1.below b11; have th1 := HH.out.2.2.1.below b11; have pb1 := HH.out.2.2.2.2.below b11; have gh1 := hi1.big)
              | (go_at_call 89; with_reducible refine (OH _ (by assumption) (by assumption)).mono ?_; rintro _ _ ⟨n2, rfl, rfl⟩))
            have lo2 := lo1.below n2.below
            have hi2 := hi1.below n2.below
            have th2 := th1.below n2.below
            have pb2 := pb1.below n2.below
            exact ⟨⟨j + 1, _, _, _, _, _, _, by go_num, by omega, by rw [HE.out.1, if_neg (by have := HO.out.1; omega)]; exact lo2.other hi2 (by omega) _ _ _, by rw [HE.out.2, if_pos (by have := HO.out.2; omega)]; exact hi2.set pb2, th2.other hi2 (by omega) _ _ _, NBox.set3b ((HH.out.2.2.2.1.trans (b11.mono (by omega))).trans (n2.below.mono (by have := b11.size; omega))) (by omega) _ _ _⟩, by simp [intOf]; omega⟩
          · have HO := Lib.hid (show _ ∧ _ from ⟨o1, o2⟩)
            generalize P.ord L = ol at *
            generalize P.ord H = oh at *
            go_wp2_with (first
              | (go_at_call 89; with_reducible refine (OL _ (by (repeat (first | (with_reducible assumption) | (with_reducible refine Big.drew ?_) | (with_reducible refine Big.drewN ?_ _) | (with_reducible refine Big.alloc ?_ _) | (with_reducible refine Big.later ?_ _) | (with_reducible refine Big.setCell ?_ _ (by go_simp))))) (by (repeat (first | (with_reducible assumption) | (with_reducible refine Big.drew ?_) | (with_reducible refine Big.drewN ?_ _) | (with_reducible refine Big.alloc ?_ _) | (with_reducible refine Big.later ?_ _) | (with_reducible refine Big.setCell ?_ _ (by go_simp)))))).mono ?_; rintro _ _ ⟨n1, rfl, rfl⟩; have b11 : Below wr.heap.size wr n1.val := hal.trans (n1.below.mono hal.size); have lo1 := HH.out.1.below b11; have hi1 := HH.out.2.1.below b11; have th1 := HH.out.2.2.1.below b11; have pb1 := HH.out.2.2.2.2.below b11; have gh1 := hi1.big)
              | (go_at_call 89; with_reducible refine (OH _ (by assumption) (by assumption)).mono ?_; rintro _ _ ⟨n2, rfl, rfl⟩))
            exact ⟨⟨j + 1, _, _, _, _, _, _, by go_num, by omega, by rw [HE.out.1, if_neg (by have := HO.out.1; omega)]; exact lo1.below n2.below, by rw [HE.out.2, if_neg (by have := HO.out.2; omega)]; exact hi1.below n2.below, th1.below n2.below, (HH.out.2.2.2.1.trans (b11.mono (by omega))).trans (n2.below.mono (by have := b11.size; omega))⟩, by simp [intOf]; omega⟩
      · obtain rfl : j = 3 := by omega
        have hjn : ¬ ((3 : Nat) : Int) < 3 := by omega
        obtain ⟨mL, mH⟩ := MID.out.2 3 (Nat.le_refl _)
        have hzz := HZ.out
        generalize mulLo x y 3 = L at *
        generalize mulHi x y 3 = H at *
        have c3 := fun (w1 : World) (h1 : Big w1 (.slice Al kl cl') L.m) (h2 : Big w1 (.slice Ah kh ch) H.m) => PairRes.go (pairQ_any L H Al kl cl' Ah kh ch w1 h1.stays h2.stays (Q.mid_wide mL) (Q.mid_wide mH))
        rw [hzz] at c3
        have a0 := hlo.c0
        have a1 := hlo.c1
        have a2 := hlo.c2
        have h0 := hhi.c0
        have h1 := hhi.c1
        have h2 := hhi.c2
        have gLb := hlo.big
        have gHb := hhi.big
        have ltl := hlo.lt
        have lth := hhi.lt
        haveI gb1 : Ge wr (b5 + 1) := ⟨ltl⟩
        haveI gb2 : Ge wr (b5 + 1 + 1) := ⟨lth⟩
        haveI gw3 : Ge wr (w.heap.size + 3) := ⟨by omega⟩
        haveI gw2 : Ge wr (w.heap.size + 2) := ⟨by omega⟩
        have hcar : ∀ j, wr.cell? ⟨w.heap.size + 2, j, none⟩ = W3.cell? ⟨w.heap.size + 2, j, none⟩ := fun j => (hbel.cell (p := ⟨w.heap.size + 2, j, none⟩) (by show w.heap.size + 2 < _; omega)).trans (HB.out.2.1.cell (p := ⟨w.heap.size + 2, j, none⟩) (by show w.heap.size + 2 < _; omega)).symm
        have hcaf : ∀ j, wr.frozen? ⟨w.heap.size + 2, j, none⟩ = W3.frozen? ⟨w.heap.size + 2, j, none⟩ := fun j => (hbel.frozen (p := ⟨w.heap.size + 2, j, none⟩) (by show w.heap.size + 2 < _; omega)).trans (HB.out.2.1.frozen (p := ⟨w.heap.size + 2, j, none⟩) (by show w.heap.size + 2 < _; omega)).symm
        have r0 := (hcar 0).trans HB.out.2.2.2.2.2.2.1
        have r1 := (hcar 1).trans HB.out.2.2.2.2.2.2.2.1
        have r2 := (hcar 2).trans HB.out.2.2.2.2.2.2.2.2.1
        have r3 := (hcar 3).trans HB.out.2.2.2.2.2.2.2.2.2.1
        have r4 := (hcar 4).trans HB.out.2.2.2.2.2.2.2.2.2.2.1
        have r5 := (hcar 5).trans HB.out.2.2.2.2.2.2.2.2.2.2.2
        have rf0 := (hcaf 0).trans (HB.out.2.2.2.2.2.1 0 (by omega))
        have rf1 := (hcaf 1).trans (HB.out.2.2.2.2.2.1 1 (by omega))
        have rf2 := (hcaf 2).trans (HB.out.2.2.2.2.2.1 2 (by omega))
        have rf3 := (hcaf 3).trans (HB.out.2.2.2.2.2.1 3 (by omega))
        have rf4 := (hcaf 4).trans (HB.out.2.2.2.2.2.1 4 (by omega))
        have rf5 := (hcaf 5).trans (HB.out.2.2.2.2.2.1 5 (by omega))
        have hww : Below w.heap.size w wr := HB.out.1.trans (hbel.mono (by omega))
        have C3 := Lib.hid c3
        have HW := Lib.hid hww
        clear c3 hww hcar hcaf hbel hzz mL mH hlo hhi hth x0 x1 x2 x3 x4 x5 y0 y1 y2 y3 y4 y5 b35 nb5 nb6 bb5 hsb hs hs3 b3 ge0 ge1 ge2
        obtain ⟨⟨zs, zm, ze⟩, ⟨zt, zn, zf⟩⟩ := z
        unfold PRes
        simp only at *
        go_wp2_with (go_at_call 178; with_reducible refine (C3.out _ (by (repeat (first | (with_reducible assumption) | (with_reducible refine Big.drew ?_) | (with_reducible refine Big.drewN ?_ _) | (with_reducible refine Big.alloc ?_ _) | (with_reducible refine Big.later ?_ _) | (with_reducible refine Big.setCell ?_ _ (by go_simp))))) (by (repeat (first | (with_reducible assumption) | (with_reducible refine Big.drew ?_) | (with_reducible refine Big.drewN ?_ _) | (with_reducible refine Big.alloc ?_ _) | (with_reducible refine Big.later ?_ _) | (with_reducible refine Big.setCell ?_ _ (by go_simp)))))).mono ?_; rintro _ _ ⟨A7, k7, d7, B7, l7, e7, q7, hq7, hq8, rfl, rfl⟩; have hq7' := hq7.out; have hq8' := hq8.out)
        have hb7 : Below wr.heap.size wr q7.val := by (repeat' first | (with_reducible first | exact Below.refl _ _ | assumption | refine Later.belowOf _ ?_ ?_ | refine Below.alloc ?_ ?_ _ | refine Below.setCell ?_ ?_ _ | refine Below.drewN' _ ?_ | refine Below.drew ?_ | exact Ge.le) | go_size)
        have t0 := (hb7.cell (World.block_lt_of_cell? _ _ r0)).trans r0
        have t1 := (hb7.cell (World.block_lt_of_cell? _ _ r1)).trans r1
        have t2 := (hb7.cell (World.block_lt_of_cell? _ _ r2)).trans r2
        have t3 := (hb7.cell (World.block_lt_of_cell? _ _ r3)).trans r3
        have t4 := (hb7.cell (World.block_lt_of_cell? _ _ r4)).trans r4
        have t5 := (hb7.cell (World.block_lt_of_cell? _ _ r5)).trans r5
        have hww := HW.out
        have hle : w.heap.size ≤ w.heap.size + 1 + 1 := by omega
        refine bodyPost_ret (v := (.agg #[.bool zs, (.slice A7 k7 d7), .int .i64 ze, .bool zt, (.slice B7 l7 e7), .int .i64 zf])) (by simp [results, Tryz.f101, go_sem, t0, t1, t2, t3, t4, t5]) rfl ⟨⟨_, _, _, _, _, _, rfl, Big.set6 hq7' t0 t1 t2 t3 t4 t5 _ _ _ _ _ _, Big.set6 hq8' t0 t1 t2 t3 t4 t5 _ _ _ _ _ _⟩, ((((((hww.trans (hb7.mono hww.size)).setCell (p := ⟨w.heap.size + 1 + 1, 0, none⟩) hle _).setCell (p := ⟨w.heap.size + 1 + 1, 1, none⟩) hle _).setCell (p := ⟨w.heap.size + 1 + 1, 2, none⟩) hle _).setCell (p := ⟨w.heap.size + 1 + 1, 3, none⟩) hle _).setCell (p := ⟨w.heap.size + 1 + 1, 4, none⟩) hle _).setCell (p := ⟨w.heap.size + 1 + 1, 5, none⟩) hle _⟩
end Go.Proofs.YtkmgfbhnioojhaaGreat

/- A pair of the reference's in a block of its own; what odds works out. -/
namespace Go.Proofs.YtkmgfbhnioojhaaGreat
set_option linter.unusedSimpArgs false
set_option linter.unusedVariables false
open Go.RowKit
open Fl

set_option maxHeartbeats 1000000 in
theorem Big.sixth {w : World} {v : Value} {n b : Nat} {s t : Bool} {A B : Option Addr} {k c l d : Nat} {e f : Int} (h : Big w v n) (c0 : w.cell? ⟨b, 0, none⟩ = some (.bool s)) (c1 : w.cell? ⟨b, 1, none⟩ = some (.slice A k c)) (c2 : w.cell? ⟨b, 2, none⟩ = some (.int .i64 e))
    (c3 : w.cell? ⟨b, 3, none⟩ = some (.bool t)) (c4 : w.cell? ⟨b, 4, none⟩ = some (.slice B l d)) (c5 : w.cell? ⟨b, 5, none⟩ = some (.int .i64 f)) (x y z x2 y2 z2 : Value) :
    Big ((((((w.setCell ⟨b, 0, none⟩ x).setCell ⟨b, 1, none⟩ y).setCell ⟨b, 2, none⟩ z).setCell ⟨b, 3, none⟩ x2).setCell ⟨b, 4, none⟩ y2).setCell ⟨b, 5, none⟩ z2) v n := by
  have h3 := Big.set3 h c0 c1 c2 x y z
  have d3 : (((w.setCell ⟨b, 0, none⟩ x).setCell ⟨b, 1, none⟩ y).setCell ⟨b, 2, none⟩ z).cell? ⟨b, 3, none⟩ = some (.bool t) := by simp [go_sem, c3]
  have d4 : ((((w.setCell ⟨b, 0, none⟩ x).setCell ⟨b, 1, none⟩ y).setCell ⟨b, 2, none⟩ z).setCell ⟨b, 3, none⟩ x2).cell? ⟨b, 4, none⟩ = some (.slice B l d) := by simp [go_sem, c4]
  have d5 : (((((w.setCell ⟨b, 0, none⟩ x).setCell ⟨b, 1, none⟩ y).setCell ⟨b, 2, none⟩ z).setCell ⟨b, 3, none⟩ x2).setCell ⟨b, 4, none⟩ y2).cell? ⟨b, 5, none⟩ = some (.int .i64 f) := by simp [go_sem, c5]
  exact ((h3.setCell x2 (by rw [d3]; rfl)).setCell y2 (by rw [d4]; rfl)).setCell z2 (by rw [d5]; rfl)
/-- The world with a pair written into a block. -/
def putP (W : World) (b : Nat) (x : P2) (A : Option Addr) (k c : Nat) (B : Option Addr) (l d : Nat) : World :=
  (((((W.setCell ⟨b, 0, none⟩ (.bool x.a.s)).setCell ⟨b, 1, none⟩ (.slice A k c)).setCell ⟨b, 2, none⟩ (.int .i64 x.a.e)).setCell ⟨b, 3, none⟩ (.bool x.b.s)).setCell ⟨b, 4, none⟩ (.slice B l d)).setCell ⟨b, 5, none⟩ (.int .i64 x.b.e)
/-- A block of a pair, its digits beside it. -/
structure PBox (W : World) (b : Nat) (x : P2) (A : Option Addr) (k c : Nat) (B : Option Addr) (l d : Nat) : Prop where
  blk : W.heap[b]? = some (Obj.cells #[.bool x.a.s, .slice A k c, .int .i64 x.a.e, .bool x.b.s, .slice B l d, .int .i64 x.b.e] 35)
  ga : Big W (.slice A k c) x.a.m
  gb : Big W (.slice B l d) x.b.m
namespace PBox
variable {W W' : World} {b : Nat} {x : P2} {A : Option Addr} {k c : Nat} {B : Option Addr} {l d : Nat}
theorem lt (h : PBox W b x A k c B l d) : b < W.heap.size := (Array.getElem?_eq_some_iff.1 h.blk).1
theorem c0 (h : PBox W b x A k c B l d) : W.cell? ⟨b, 0, none⟩ = some (.bool x.a.s) := by simp [World.cell?, h.blk]
theorem c1 (h : PBox W b x A k c B l d) : W.cell? ⟨b, 1, none⟩ = some (.slice A k c) := by simp [World.cell?, h.blk]
theorem c2 (h : PBox W b x A k c B l d) : W.cell? ⟨b, 2, none⟩ = some (.int .i64 x.a.e) := by simp [World.cell?, h.blk]
theorem c3 (h : PBox W b x A k c B l d) : W.cell? ⟨b, 3, none⟩ = some (.bool x.b.s) := by simp [World.cell?, h.blk]
theorem c4 (h : PBox W b x A k c B l d) : W.cell? ⟨b, 4, none⟩ = some (.slice B l d) := by simp [World.cell?, h.blk]
theorem c5 (h : PBox W b x A k c B l d) : W.cell? ⟨b, 5, none⟩ = some (.int .i64 x.b.e) := by simp [World.cell?, h.blk]
theorem fz (h : PBox W b x A k c B l d) (j : Nat) (hj : j < 6) : W.frozen? ⟨b, j, none⟩ = false := by
  rcases j with _ | _ | _ | _ | _ | _ | j
  all_goals first | (simp [World.frozen?, h.blk]; done) | omega
theorem below (h : PBox W b x A k c B l d) (hb : Below W.heap.size W W') : PBox W' b x A k c B l d := ⟨(hb.block b h.lt).trans h.blk, h.ga.below hb, h.gb.below hb⟩
theorem keep (h : PBox W b x A k c B l d) {v : Value} {n : Nat} (g : Big W v n) (y : P2) (A2 : Option Addr) (k2 c2' : Nat) (B2 : Option Addr) (l2 d2 : Nat) : Big (putP W b y A2 k2 c2' B2 l2 d2) v n :=
  Big.sixth g h.c0 h.c1 h.c2 h.c3 h.c4 h.c5 _ _ _ _ _ _
theorem heap_put {b' : Nat} (hne : b' ≠ b) (y : P2) (A2 : Option Addr) (k2 c2' : Nat) (B2 : Option Addr) (l2 d2 : Nat) : (putP W b' y A2 k2 c2' B2 l2 d2).heap[b]? = W.heap[b]? := by
  unfold putP
  rw [Below.heap_setCell _ _ _ _ (fun e => hne e.symm), Below.heap_setCell _ _ _ _ (fun e => hne e.symm), Below.heap_setCell _ _ _ _ (fun e => hne e.symm), Below.heap_setCell _ _ _ _ (fun e => hne e.symm), Below.heap_setCell _ _ _ _ (fun e => hne e.symm), Below.heap_setCell _ _ _ _ (fun e => hne e.symm)]
/-- Another block is overwritten. -/
theorem other (h : PBox W b x A k c B l d) {b' : Nat} {x' : P2} {A' : Option Addr} {k' c' : Nat} {B' : Option Addr} {l' d' : Nat} (h' : PBox W b' x' A' k' c' B' l' d') (hne : b' ≠ b) (y : P2) (A2 : Option Addr) (k2 c2' : Nat) (B2 : Option Addr) (l2 d2 : Nat) : PBox (putP W b' y A2 k2 c2' B2 l2 d2) b x A k c B l d :=
  ⟨(heap_put hne _ _ _ _ _ _ _).trans h.blk, h'.keep h.ga _ _ _ _ _ _ _, h'.keep h.gb _ _ _ _ _ _ _⟩
/-- A block is overwritten by a pair that lies somewhere. -/
theorem set (h : PBox W b x A k c B l d) {y : P2} {A2 : Option Addr} {k2 c2' : Nat} {B2 : Option Addr} {l2 d2 : Nat} (ga : Big W (.slice A2 k2 c2') y.a.m) (gb : Big W (.slice B2 l2 d2) y.b.m) : PBox (putP W b y A2 k2 c2' B2 l2 d2) b y A2 k2 c2' B2 l2 d2 := by
  refine ⟨?_, h.keep ga _ _ _ _ _ _ _, h.keep gb _ _ _ _ _ _ _⟩
  have hb := h.blk
  unfold putP World.setCell
  simp [Array.getElem?_modify, hb]
theorem put_below {B0 : Nat} {W0 : World} (h : Below B0 W0 W) (hb : B0 ≤ b) (y : P2) (A2 : Option Addr) (k2 c2' : Nat) (B2 : Option Addr) (l2 d2 : Nat) : Below B0 W0 (putP W b y A2 k2 c2' B2 l2 d2) :=
  (((((h.setCell (p := ⟨b, 0, none⟩) hb _).setCell (p := ⟨b, 1, none⟩) hb _).setCell (p := ⟨b, 2, none⟩) hb _).setCell (p := ⟨b, 3, none⟩) hb _).setCell (p := ⟨b, 4, none⟩) hb _).setCell (p := ⟨b, 5, none⟩) hb _
theorem put_size (y : P2) (A2 : Option Addr) (k2 c2' : Nat) (B2 : Option Addr) (l2 d2 : Nat) : (putP W b y A2 k2 c2' B2 l2 d2).heap.size = W.heap.size := by
  unfold putP World.setCell
  simp
end PBox
theorem PRes.go {g : FuncId} {args : Array Value} {p : P2} {w : World} (h : Calls Tryz.prog g args w (PRes p w)) : Calls Tryz.prog g args w fun E w' => ∃ (A : Option Addr) (k c : Nat) (B : Option Addr) (l d : Nat) (q : Later w), Hid (Big q.val (.slice A k c) p.a.m) ∧ Hid (Big q.val (.slice B l d) p.b.m) ∧ E = .returned (.agg #[.bool p.a.s, (.slice A k c), .int .i64 p.a.e, .bool p.b.s, (.slice B l d), .int .i64 p.b.e]) ∧ w' = q.val :=
  PairRes.go h

/-- What odds has come to before its i-th round: the sum, the power. -/
def P2.int (n : Nat) : P2 := ⟨⟨false, n, 0⟩, ⟨false, n, 0⟩⟩
def oddSt (q : P2) : Nat → P2 × P2
  | 0 => (P2.int 0, P2.int 1)
  | i + 1 => ((oddSt q i).1.add ((oddSt q i).2.over (2 * i + 1)), (oddSt q i).2.mul q)
def P2.odds (q : P2) : P2 := (oddSt q 52).1.around (-180)
def P2.Fit (x : P2) : Prop := blen x.a.m ≤ 224 ∧ blen x.b.m ≤ 224
def OddOk (q : P2) : Prop := ∀ i, i ≤ 52 → (oddSt q i).1.Ok ∧ (oddSt q i).2.Ok ∧ (oddSt q i).2.Fit ∧ ((oddSt q i).2.over (2 * i + 1)).Ok
end Go.Proofs.YtkmgfbhnioojhaaGreat
