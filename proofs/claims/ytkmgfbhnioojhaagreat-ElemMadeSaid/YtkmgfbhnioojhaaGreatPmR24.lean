/- Contracts: orreryref01.Float; orrerylaw03.num, notAbove, notBelow. -/
import Derived.Test.YtkmgfbhnioojhaaGreatPmW27
import Derived.Test.YtkmgfbhnioojhaaGreatPmR1x
import Derived.Test.YtkmgfbhnioojhaaGreatPmR10x
import Derived.Test.YtkmgfbhnioojhaaGreatPmTail2
namespace Go.Proofs.YtkmgfbhnioojhaaGreat
set_option linter.unusedSimpArgs false
set_option linter.unusedVariables false
open Go.RowKit
open Fl

/-- A float's number. -/
def floQ (x : Nat) : Q := ⟨qNeg x, (qM x).toNat, qE x⟩
theorem floQ_mid (x : Nat) : (floQ x).Mid := by
  have h1 := qM_range x
  have h2 := qE_range x
  have e : 9007199254740992 ≤ bp 2 := by unfold bp; decide
  refine ⟨?_, by show -60000 ≤ qE x; omega, by show qE x ≤ 60000; omega⟩
  show (qM x).toNat < bp 16
  exact Nat.lt_of_lt_of_le (by omega : (qM x).toNat < 9007199254740992) (Nat.le_trans e (bp_le (by decide)))
def QRes (q : Q) (w : World) (E : Ending) (w' : World) : Prop := NumRes q.s q.m q.e w E w'

set_option maxHeartbeats 4000000 in
set_option maxRecDepth 100000 in
theorem floQ_any (x : Nat) (hx : x < 18446744073709551616) (w : World) : Calls Tryz.prog 62 #[(.float .f64 x)] w (QRes (floQ x) w) := by
  exact float_any x hx w

/-- The law's own: beyond the greatest float 2^2000. -/
def numQ (x : Nat) : Q := if flt 9218868437227405311 x then ⟨false, 1, 2000⟩ else if flt x 18442240474082181119 then ⟨true, 1, 2000⟩ else floQ x
theorem numQ_mid (x : Nat) : (numQ x).Mid := by
  unfold numQ
  have e : 1 < bp 16 := Nat.lt_of_lt_of_le (by unfold bp; decide) (bp_le (show 1 ≤ 16 by decide))
  split
  · exact ⟨e, by decide, by decide⟩
  · split
    · exact ⟨e, by decide, by decide⟩
    · exact floQ_mid x

set_option maxHeartbeats 4000000 in
set_option maxRecDepth 100000 in
theorem num3_any (x : Nat) (hx : x < 18446744073709551616) (w : World) : Calls Tryz.prog 90 #[(.float .f64 x)] w (QRes (numQ x) w) := by
  have o1 := fun w => (show Calls Tryz.prog 23 #[.int .u64 1] w _ from BigRes.go (of_any 1 (by decide) w))
  have f1 := fun w => NumRes.go (floQ_any x hx w)
  unfold numQ QRes
  generalize floQ x = f at *
  have O1 := Lib.hid o1
  have F1 := Lib.hid f1
  clear o1 f1
  rcases fot (flt 9218868437227405311 x) with h1 | h1
  · rw [h1]
    simp only [Bool.false_eq_true, if_false]
    rcases fot (flt x 18442240474082181119) with h2 | h2
    · rw [h2]
      simp only [Bool.false_eq_true, if_false]
      go_enter Tryz.func90, Tryz.ntmps90
      go_wp2_with (go_at_call 62; (with_reducible refine (F1.out _).mono ?_); rintro _ _ ⟨A2, k2, c2, q2, hq3, rfl, rfl⟩; have hq3' := hq3.out)
      go_returns
      exact ⟨⟨_, _, _, rfl, by (repeat (first | (with_reducible assumption) | (with_reducible refine Big.drew ?_) | (with_reducible refine Big.drewN ?_ _) | (with_reducible refine Big.alloc ?_ _) | (with_reducible refine Big.later ?_ _) | (with_reducible refine Big.setCell ?_ _ (by go_simp))))⟩, by (repeat' first | (with_reducible first | exact Below.refl _ _ | assumption | refine Later.belowOf _ ?_ ?_ | refine Below.alloc ?_ ?_ _ | refine Below.setCell ?_ ?_ _ | refine Below.drewN' _ ?_ | refine Below.drew ?_ | exact Ge.le) | go_size)⟩
    · rw [h2]
      simp only [if_true]
      go_enter Tryz.func90, Tryz.ntmps90
      go_wp2_with (go_at_call 23; (with_reducible refine (O1.out _).mono ?_); rintro _ _ ⟨A2, k2, c2, q2, hq3, hk3, hk4, rfl, rfl⟩; have hq3' := hq3.out)
      go_returns
      exact ⟨⟨_, _, _, rfl, by (repeat (first | (with_reducible assumption) | (with_reducible refine Big.drew ?_) | (with_reducible refine Big.drewN ?_ _) | (with_reducible refine Big.alloc ?_ _) | (with_reducible refine Big.later ?_ _) | (with_reducible refine Big.setCell ?_ _ (by go_simp))))⟩, by (repeat' first | (with_reducible first | exact Below.refl _ _ | assumption | refine Later.belowOf _ ?_ ?_ | refine Below.alloc ?_ ?_ _ | refine Below.setCell ?_ ?_ _ | refine Below.drewN' _ ?_ | refine Below.drew ?_ | exact Ge.le) | go_size)⟩
  · rw [h1]
    simp only [if_true]
    go_enter Tryz.func90, Tryz.ntmps90
    go_wp2_with (go_at_call 23; (with_reducible refine (O1.out _).mono ?_); rintro _ _ ⟨A2, k2, c2, q2, hq3, hk3, hk4, rfl, rfl⟩; have hq3' := hq3.out)
    go_returns
    exact ⟨⟨_, _, _, rfl, by (repeat (first | (with_reducible assumption) | (with_reducible refine Big.drew ?_) | (with_reducible refine Big.drewN ?_ _) | (with_reducible refine Big.alloc ?_ _) | (with_reducible refine Big.later ?_ _) | (with_reducible refine Big.setCell ?_ _ (by go_simp))))⟩, by (repeat' first | (with_reducible first | exact Below.refl _ _ | assumption | refine Later.belowOf _ ?_ ?_ | refine Below.alloc ?_ ?_ _ | refine Below.setCell ?_ ?_ _ | refine Below.drewN' _ ?_ | refine Below.drew ?_ | exact Ge.le) | go_size)⟩

set_option maxHeartbeats 4000000 in
set_option maxRecDepth 100000 in
theorem notAbove_any (v : Nat) (hv : v < 18446744073709551616) (x : P2) (A : Option Addr) (ka ca : Nat) (B : Option Addr) (kb cb : Nat) (w : World) (hA : BigS w (.slice A ka ca) x.a.m) (hB : BigS w (.slice B kb cb) x.b.m) (ox : x.b.Mid) :
    Calls Tryz.prog 39 #[(.float .f64 v), (.agg #[.bool x.a.s, (.slice A ka ca), .int .i64 x.a.e, .bool x.b.s, (.slice B kb cb), .int .i64 x.b.e])] w (BoolRes (decide ((numQ v).ord x.b ≤ 0)) w) := by
  have n1 := fun w => NumRes.go (num3_any v hv w)
  have od := fun (w1 : World) (h : Below w.heap.size w w1) (A7 : Option Addr) (k7 c7 : Nat) (g1 : Big w1 (.slice A7 k7 c7) (numQ v).m) => IntRes.go (ordQ_any (numQ v) x.b A7 k7 c7 B kb cb w1 g1.stays (hB.at h) (numQ_mid v) ox)
  generalize numQ v = q at *
  generalize q.ord x.b = o at *
  have N1 := Lib.hid n1
  have OD := Lib.hid od
  clear n1 od hA hB ox
  obtain ⟨⟨xs, xm, xe⟩, ⟨xt, xn, xf⟩⟩ := x
  simp only at *
  go_enter Tryz.func39, Tryz.ntmps39
  go_wp2_with (fail)
  go_region_held3 (fun w' => w'.cell? ⟨w.heap.size, 3, none⟩ = some (.bool xt) ∧ w'.cell? ⟨w.heap.size, 4, none⟩ = some (.slice B kb cb) ∧ w'.cell? ⟨w.heap.size, 5, none⟩ = some (.int .i64 xf))
    (first | (go_simp; done) | go_keep)
    (first
      | (go_at_call 90; (with_reducible refine (N1.out _).mono ?_); rintro _ _ ⟨A2, k2, d2, q2, hq2, rfl, rfl⟩; have hq2' := hq2.out)
      | (go_at_call 89; (with_reducible refine (OD.out _ (by (repeat' first | (with_reducible first | exact Below.refl _ _ | assumption | refine Later.belowOf _ ?_ ?_ | refine Below.alloc ?_ ?_ _ | refine Below.setCell ?_ ?_ _ | refine Below.drewN' _ ?_ | refine Below.drew ?_ | exact Ge.le) | go_size)) _ _ _ (by (repeat (first | (with_reducible assumption) | (with_reducible refine Big.drew ?_) | (with_reducible refine Big.drewN ?_ _) | (with_reducible refine Big.alloc ?_ _) | (with_reducible refine Big.later ?_ _) | (with_reducible refine Big.setCell ?_ _ (by go_simp)))))).mono ?_); rintro _ _ ⟨q3, rfl, rfl⟩))
  all_goals
    rename_i hHeld
    clear hHeld
    go_wp2
    go_returns
    exact ⟨rfl, by (repeat' first | (with_reducible first | exact Below.refl _ _ | assumption | refine Later.belowOf _ ?_ ?_ | refine Below.alloc ?_ ?_ _ | refine Below.setCell ?_ ?_ _ | refine Below.drewN' _ ?_ | refine Below.drew ?_ | exact Ge.le) | go_size)⟩

set_option maxHeartbeats 4000000 in
set_option maxRecDepth 100000 in
theorem notBelow_any (v : Nat) (hv : v < 18446744073709551616) (x : P2) (A : Option Addr) (ka ca : Nat) (B : Option Addr) (kb cb : Nat) (w : World) (hA : BigS w (.slice A ka ca) x.a.m) (hB : BigS w (.slice B kb cb) x.b.m) (ox : x.a.Mid) :
    Calls Tryz.prog 40 #[(.float .f64 v), (.agg #[.bool x.a.s, (.slice A ka ca), .int .i64 x.a.e, .bool x.b.s, (.slice B kb cb), .int .i64 x.b.e])] w (BoolRes (decide (0 ≤ (numQ v).ord x.a)) w) := by
  have n1 := fun w => NumRes.go (num3_any v hv w)
  have od := fun (w1 : World) (h : Below w.heap.size w w1) (A7 : Option Addr) (k7 c7 : Nat) (g1 : Big w1 (.slice A7 k7 c7) (numQ v).m) => IntRes.go (ordQ_any (numQ v) x.a A7 k7 c7 A ka ca w1 g1.stays (hA.at h) (numQ_mid v) ox)
  generalize numQ v = q at *
  generalize q.ord x.a = o at *
  have N1 := Lib.hid n1
  have OD := Lib.hid od
  clear n1 od hA hB ox
  obtain ⟨⟨xs, xm, xe⟩, ⟨xt, xn, xf⟩⟩ := x
  simp only at *
  go_enter Tryz.func40, Tryz.ntmps40
  go_wp2_with (fail)
  go_region_held3 (fun w' => w'.cell? ⟨w.heap.size, 0, none⟩ = some (.bool xs) ∧ w'.cell? ⟨w.heap.size, 1, none⟩ = some (.slice A ka ca) ∧ w'.cell? ⟨w.heap.size, 2, none⟩ = some (.int .i64 xe))
    (first | (go_simp; done) | go_keep)
    (first
      | (go_at_call 90; (with_reducible refine (N1.out _).mono ?_); rintro _ _ ⟨A2, k2, d2, q2, hq2, rfl, rfl⟩; have hq2' := hq2.out)
      | (go_at_call 89; (with_reducible refine (OD.out _ (by (repeat' first | (with_reducible first | exact Below.refl _ _ | assumption | refine Later.belowOf _ ?_ ?_ | refine Below.alloc ?_ ?_ _ | refine Below.setCell ?_ ?_ _ | refine Below.drewN' _ ?_ | refine Below.drew ?_ | exact Ge.le) | go_size)) _ _ _ (by (repeat (first | (with_reducible assumption) | (with_reducible refine Big.drew ?_) | (with_reducible refine Big.drewN ?_ _) | (with_reducible refine Big.alloc ?_ _) | (with_reducible refine Big.later ?_ _) | (with_reducible refine Big.setCell ?_ _ (by go_simp)))))).mono ?_); rintro _ _ ⟨q3, rfl, rfl⟩))
  all_goals
    rename_i hHeld
    clear hHeld
    go_wp2
    go_returns
    exact ⟨rfl, by (repeat' first | (with_reducible first | exact Below.refl _ _ | assumption | refine Later.belowOf _ ?_ ?_ | refine Below.alloc ?_ ?_ _ | refine Below.setCell ?_ ?_ _ | refine Below.drewN' _ ?_ | refine Below.drew ?_ | exact Ge.le) | go_size)⟩
end Go.Proofs.YtkmgfbhnioojhaaGreat
