/- Contracts: orreryref03.atanh, slope. -/
import Derived.Test.YtkmgfbhnioojhaaGreatPmR20
import Derived.Test.YtkmgfbhnioojhaaGreatPmR15x
import Derived.Test.YtkmgfbhnioojhaaGreatPmR17x
namespace Go.Proofs.YtkmgfbhnioojhaaGreat
set_option linter.unusedSimpArgs false
set_option linter.unusedVariables false
open Go.RowKit
open Fl

def P2.atanh (s : P2) : P2 := s.mul (s.mul s).odds
def AtanhOk (s : P2) : Prop := s.Ok ∧ (s.mul s).Ok ∧ OddOk (s.mul s) ∧ (s.mul s).odds.Ok

set_option maxHeartbeats 8000000 in
set_option maxRecDepth 100000 in
theorem atanhP2_any (x : P2) (A : Option Addr) (ka ca : Nat) (B : Option Addr) (kb cb : Nat) (w : World) (hA : BigS w (.slice A ka ca) x.a.m) (hB : BigS w (.slice B kb cb) x.b.m) (ok : AtanhOk x) :
    Calls Tryz.prog 100 #[(.agg #[.bool x.a.s, (.slice A ka ca), .int .i64 x.a.e, .bool x.b.s, (.slice B kb cb), .int .i64 x.b.e])] w (PRes x.atanh w) := by
  obtain ⟨ox, oq, oo, od⟩ := ok
  have c1 := fun (w1 : World) (h : Below w.heap.size w w1) => PRes.go (mulP2_any x x A ka ca B kb cb A ka ca B kb cb w1 (hA.at h) (hB.at h) (hA.at h) (hB.at h) ox ox)
  have c2 := fun (w1 : World) (A' : Option Addr) (k' c' : Nat) (B' : Option Addr) (l' d' : Nat) (h1 : Big w1 (.slice A' k' c') (x.mul x).a.m) (h2 : Big w1 (.slice B' l' d') (x.mul x).b.m) => PRes.go (oddsP2_any (x.mul x) A' k' c' B' l' d' w1 h1.stays h2.stays oq oo)
  have c3 := fun (w1 : World) (h : Below w.heap.size w w1) (A' : Option Addr) (k' c' : Nat) (B' : Option Addr) (l' d' : Nat) (h1 : Big w1 (.slice A' k' c') (x.mul x).odds.a.m) (h2 : Big w1 (.slice B' l' d') (x.mul x).odds.b.m) => PRes.go (mulP2_any x (x.mul x).odds A ka ca B kb cb A' k' c' B' l' d' w1 (hA.at h) (hB.at h) h1.stays h2.stays ox od)
  have e0 : x.mul (x.mul x).odds = x.atanh := rfl
  rw [e0] at c3
  generalize x.atanh = z at *
  generalize (x.mul x).odds = o at *
  generalize x.mul x = p at *
  have C1 := Lib.hid c1
  have C2 := Lib.hid c2
  have C3 := Lib.hid c3
  clear c1 c2 c3 hA hB ox oq oo od e0
  obtain ⟨⟨zs, zm, ze⟩, ⟨zt, zn, zf⟩⟩ := z
  unfold PRes
  simp only
  simp only at C3
  go_enter Tryz.func100, Tryz.ntmps100
  go_wp2_with (fail)
  go_region_held3 (fun w' => w'.cell? ⟨w.heap.size, 0, none⟩ = some (.bool x.a.s) ∧ w'.cell? ⟨w.heap.size, 1, none⟩ = some (.slice A ka ca) ∧ w'.cell? ⟨w.heap.size, 2, none⟩ = some (.int .i64 x.a.e) ∧ w'.cell? ⟨w.heap.size, 3, none⟩ = some (.bool x.b.s) ∧ w'.cell? ⟨w.heap.size, 4, none⟩ = some (.slice B kb cb) ∧ w'.cell? ⟨w.heap.size, 5, none⟩ = some (.int .i64 x.b.e))
    (first | (go_simp; done) | go_keep)
    (first
      | (go_at_call 101; (with_reducible refine (C1.out _ (by (repeat' first | (with_reducible first | exact Below.refl _ _ | assumption | refine Later.belowOf _ ?_ ?_ | refine Below.alloc ?_ ?_ _ | refine Below.setCell ?_ ?_ _ | refine Below.drewN' _ ?_ | refine Below.drew ?_ | exact Ge.le) | go_size))).mono ?_); rintro _ _ ⟨A2, k2, d2, B2, l2, e2, q2, hq2, hr2, rfl, rfl⟩; have hq2' := hq2.out; have hr2' := hr2.out)
      | (go_at_call 179; (with_reducible refine (C2.out _ _ _ _ _ _ _ (by (repeat (first | (with_reducible assumption) | (with_reducible refine Big.drew ?_) | (with_reducible refine Big.drewN ?_ _) | (with_reducible refine Big.alloc ?_ _) | (with_reducible refine Big.later ?_ _) | (with_reducible refine Big.setCell ?_ _ (by go_simp))))) (by (repeat (first | (with_reducible assumption) | (with_reducible refine Big.drew ?_) | (with_reducible refine Big.drewN ?_ _) | (with_reducible refine Big.alloc ?_ _) | (with_reducible refine Big.later ?_ _) | (with_reducible refine Big.setCell ?_ _ (by go_simp)))))).mono ?_); rintro _ _ ⟨A3, k3, d3, B3, l3, e3, q3, hq3, hr3, rfl, rfl⟩; have hq3' := hq3.out; have hr3' := hr3.out)
      | (go_at_call 101; (with_reducible refine (C3.out _ (by (repeat' first | (with_reducible first | exact Below.refl _ _ | assumption | refine Later.belowOf _ ?_ ?_ | refine Below.alloc ?_ ?_ _ | refine Below.setCell ?_ ?_ _ | refine Below.drewN' _ ?_ | refine Below.drew ?_ | exact Ge.le) | go_size)) _ _ _ _ _ _ (by (repeat (first | (with_reducible assumption) | (with_reducible refine Big.drew ?_) | (with_reducible refine Big.drewN ?_ _) | (with_reducible refine Big.alloc ?_ _) | (with_reducible refine Big.later ?_ _) | (with_reducible refine Big.setCell ?_ _ (by go_simp))))) (by (repeat (first | (with_reducible assumption) | (with_reducible refine Big.drew ?_) | (with_reducible refine Big.drewN ?_ _) | (with_reducible refine Big.alloc ?_ _) | (with_reducible refine Big.later ?_ _) | (with_reducible refine Big.setCell ?_ _ (by go_simp)))))).mono ?_); rintro _ _ ⟨A4, k4, d4, B4, l4, e4, q4, hq4, hr4, rfl, rfl⟩; have hq4' := hq4.out; have hr4' := hr4.out))
  all_goals
    rename_i hHeld
    clear hHeld
    go_wp2
    go_returns
    exact ⟨⟨_, _, _, _, _, _, rfl, by (repeat (first | (with_reducible assumption) | (with_reducible refine Big.drew ?_) | (with_reducible refine Big.drewN ?_ _) | (with_reducible refine Big.alloc ?_ _) | (with_reducible refine Big.later ?_ _) | (with_reducible refine Big.setCell ?_ _ (by go_simp)))), by (repeat (first | (with_reducible assumption) | (with_reducible refine Big.drew ?_) | (with_reducible refine Big.drewN ?_ _) | (with_reducible refine Big.alloc ?_ _) | (with_reducible refine Big.later ?_ _) | (with_reducible refine Big.setCell ?_ _ (by go_simp))))⟩, by (repeat' first | (with_reducible first | exact Below.refl _ _ | assumption | refine Later.belowOf _ ?_ ?_ | refine Below.alloc ?_ ?_ _ | refine Below.setCell ?_ ?_ _ | refine Below.drewN' _ ?_ | refine Below.drew ?_ | exact Ge.le) | go_size)⟩

def rSlopeStep (x : P2) : P2 := x.div ((P2.int 1).add ((P2.int 1).add (x.mul x)).sqrt)
def rSlopeSt (x : P2) : Nat → P2
  | 0 => x
  | i + 1 => rSlopeStep (rSlopeSt x i)
def rSlopeEnd (y : P2) : P2 := (y.mul (y.mul y).neg.odds).shift 3
def P2.slope (x : P2) : P2 := rSlopeEnd (rSlopeSt x 3)
def StepOk (y : P2) : Prop := y.Ok ∧ (y.mul y).Ok ∧ ((P2.int 1).add (y.mul y)).Ok ∧ ((P2.int 1).add (y.mul y)).sqrt.Ok ∧ ((P2.int 1).add ((P2.int 1).add (y.mul y)).sqrt).Ok ∧ blen y.a.m ≤ 200 ∧ blen y.b.m ≤ 200 ∧
  ((P2.int 1).add ((P2.int 1).add (y.mul y)).sqrt).a.m ≠ 0 ∧ ((P2.int 1).add ((P2.int 1).add (y.mul y)).sqrt).b.m ≠ 0
def EndOk (y : P2) : Prop := y.Ok ∧ (y.mul y).Ok ∧ (y.mul y).neg.Ok ∧ OddOk (y.mul y).neg ∧ (y.mul y).neg.odds.Ok ∧ (y.mul (y.mul y).neg.odds).Ok
def SlopeOk (x : P2) : Prop := (∀ i, i < 3 → StepOk (rSlopeSt x i)) ∧ EndOk (rSlopeSt x 3)
theorem ok_int1 : (P2.int 1).Ok := ⟨ok_one (by decide) (by decide), ok_one (by decide) (by decide)⟩

def RSlopeInv (Wb : World) (b1 : Nat) (x : P2) (i : Value) (wr : World) : Prop :=
  ∃ (j : Nat) (A : Option Addr) (k c : Nat) (B : Option Addr) (l d : Nat), i = .int .i64 j ∧ j ≤ 3 ∧ PBox wr b1 (rSlopeSt x j) A k c B l d ∧ wr.heap[b1 + 1]? = some (Obj.cells #[.bool false, .slice none 0 0, .int .i64 0, .bool false, .slice none 0 0, .int .i64 0] 35) ∧ Below b1 Wb wr

set_option maxHeartbeats 60000000 in
set_option maxRecDepth 100000 in
theorem slopeP2_any (x : P2) (A : Option Addr) (ka ca : Nat) (B : Option Addr) (kb cb : Nat) (w : World) (hA : BigS w (.slice A ka ca) x.a.m) (hB : BigS w (.slice B kb cb) x.b.m) (ok : SlopeOk x) :
    Calls Tryz.prog 103 #[(.agg #[.bool x.a.s, (.slice A ka ca), .int .i64 x.a.e, .bool x.b.s, (.slice B kb cb), .int .i64 x.b.e])] w (PRes x.slope w) := by
  have HA := Lib.hid (show _ ∧ _ from ⟨hA, hB⟩)
  have HO := Lib.hid ok
  clear hA hB ok
  have I1 := fun (w1 : World) => (show Calls Tryz.prog 98 #[.int .i64 1] w1 _ from PRes.go (intP2_any 1 (by decide) w1))
  have HI := Lib.hid I1
  clear I1
  go_enter Tryz.func103, Tryz.ntmps103
  go_upto_region 2 with (fail)
  refine cut_worldN (fun W3 hW3 => ?_)
  have b03 : Below w.heap.size w W3 := by rw [← hW3]; (repeat' first | (with_reducible first | exact Below.refl _ _ | assumption | refine Later.belowOf _ ?_ ?_ | refine Below.alloc ?_ ?_ _ | refine Below.setCell ?_ ?_ _ | refine Below.drewN' _ ?_ | refine Below.drew ?_ | exact Ge.le) | go_size)
  have p1 : PBox W3 w.heap.size x A ka ca B kb cb := by
    refine ⟨?_, HA.out.1 _ b03, HA.out.2 _ b03⟩
    rw [← hW3, Below.heap_alloc _ _ _ (by simp)]
    exact heap_alloc_new _ _
  have z1 : W3.heap[w.heap.size + 1]? = some (Obj.cells #[.bool false, .slice none 0 0, .int .i64 0, .bool false, .slice none 0 0, .int .i64 0] 35) := by
    rw [← hW3]
    have := heap_alloc_new (w.alloc (Obj.cells #[.bool x.a.s, .slice A ka ca, .int .i64 x.a.e, .bool x.b.s, .slice B kb cb, .int .i64 x.b.e] 35)) (Obj.cells #[.bool false, .slice none 0 0, .int .i64 0, .bool false, .slice none 0 0, .int .i64 0] 35)
    rwa [World.size_alloc] at this
  clear hW3 HA
  go_loopw [3] (fun i wr => RSlopeInv w w.heap.size x i wr) (fun i _ => 3 - (intOf i).toNat)
  case atStart => exact ⟨0, _, _, _, _, _, _, rfl, by omega, p1, z1, b03⟩
  case round =>
    obtain ⟨j, As, ks, cs, Bs, ls, ds, rfl, hj, hs, zb, hbel⟩ := hrel
    have lts := hs.lt
    have ltz : w.heap.size + 1 < wr.heap.size := (Array.getElem?_eq_some_iff.1 zb).1
    haveI gr0 : Ge wr (w.heap.size + 1) := ⟨by omega⟩
    haveI gr1 : Ge wr (w.heap.size + 1 + 1) := ⟨by omega⟩
    have a0 := hs.c0
    have a1 := hs.c1
    have a2 := hs.c2
    have a3 := hs.c3
    have a4 := hs.c4
    have a5 := hs.c5
    by_cases hj2 : j < 3
    · have hj3 : (j : Int) < 3 := by omega
      have hj4 : (0 : Int) ≤ (j : Int) := by omega
      obtain ⟨o1, o2, o3, o4, o5, f1, f2, n1, n2⟩ := HO.out.1 j hj2
      have hst : rSlopeSt x (j + 1) = rSlopeStep (rSlopeSt x j) := rfl
      obtain ⟨Y, hY⟩ : ∃ Y, rSlopeSt x (j + 1) = Y := ⟨_, rfl⟩
      rw [hY] at hst
      generalize rSlopeSt x j = X at *
      have hst2 : Y = X.div ((P2.int 1).add ((P2.int 1).add (X.mul X)).sqrt) := hst
      have ml := fun (w1 : World) (h : Below wr.heap.size wr w1) => PRes.go (mulP2_any X X As ks cs Bs ls ds As ks cs Bs ls ds w1 (hs.ga.stays.at h) (hs.gb.stays.at h) (hs.ga.stays.at h) (hs.gb.stays.at h) o1 o1)
      have ad := fun (w1 : World) (A5 : Option Addr) (k5 c5 : Nat) (B5 : Option Addr) (l5 d5 : Nat) (A7 : Option Addr) (k7 c7 : Nat) (B7 : Option Addr) (l7 d7 : Nat) (g3 : Big w1 (.slice A5 k5 c5) 1) (g4 : Big w1 (.slice B5 l5 d5) 1) (g1 : Big w1 (.slice A7 k7 c7) (X.mul X).a.m) (g2 : Big w1 (.slice B7 l7 d7) (X.mul X).b.m) => PRes.go (addP2_any (P2.int 1) (X.mul X) A5 k5 c5 B5 l5 d5 A7 k7 c7 B7 l7 d7 w1 g3.stays g4.stays g1.stays g2.stays ok_int1 o2)
      have sq := fun (w1 : World) (A7 : Option Addr) (k7 c7 : Nat) (B7 : Option Addr) (l7 d7 : Nat) (g1 : Big w1 (.slice A7 k7 c7) ((P2.int 1).add (X.mul X)).a.m) (g2 : Big w1 (.slice B7 l7 d7) ((P2.int 1).add (X.mul X)).b.m) => PRes.go (sqrtP2_any ((P2.int 1).add (X.mul X)) A7 k7 c7 B7 l7 d7 w1 g1.stays g2.stays o3)
      have ae := fun (w1 : World) (A5 : Option Addr) (k5 c5 : Nat) (B5 : Option Addr) (l5 d5 : Nat) (A7 : Option Addr) (k7 c7 : Nat) (B7 : Option Addr) (l7 d7 : Nat) (g3 : Big w1 (.slice A5 k5 c5) 1) (g4 : Big w1 (.slice B5 l5 d5) 1) (g1 : Big w1 (.slice A7 k7 c7) ((P2.int 1).add (X.mul X)).sqrt.a.m) (g2 : Big w1 (.slice B7 l7 d7) ((P2.int 1).add (X.mul X)).sqrt.b.m) => PRes.go (addP2_any (P2.int 1) ((P2.int 1).add (X.mul X)).sqrt A5 k5 c5 B5 l5 d5 A7 k7 c7 B7 l7 d7 w1 g3.stays g4.stays g1.stays g2.stays ok_int1 o4)
      have dv := fun (w1 : World) (h : Below wr.heap.size wr w1) (A7 : Option Addr) (k7 c7 : Nat) (B7 : Option Addr) (l7 d7 : Nat) (g1 : Big w1 (.slice A7 k7 c7) ((P2.int 1).add ((P2.int 1).add (X.mul X)).sqrt).a.m) (g2 : Big w1 (.slice B7 l7 d7) ((P2.int 1).add ((P2.int 1).add (X.mul X)).sqrt).b.m) => PRes.go (divP2_any X ((P2.int 1).add ((P2.int 1).add (X.mul X)).sqrt) As ks cs Bs ls ds A7 k7 c7 B7 l7 d7 w1 (hs.ga.stays.at h) (hs.gb.stays.at h) g1.stays g2.stays o1 o5 f1 f2 n1 n2)
      rw [← hst2] at dv
      generalize (P2.int 1).add ((P2.int 1).add (X.mul X)).sqrt = Z4 at *
      generalize ((P2.int 1).add (X.mul X)).sqrt = Z3 at *
      generalize (P2.int 1).add (X.mul X) = Z2 at *
      generalize X.mul X = Z1 at *
      simp only [P2.int] at ad ae
      have ML := Lib.hid ml
      have AD := Lib.hid ad
      have SQ := Lib.hid sq
      have AE := Lib.hid ae
      have DV := Lib.hid dv
      have HW := Lib.hid (show _ ∧ _ ∧ _ ∧ _ from ⟨hs, zb, hbel, hY⟩)
      clear ml ad sq ae dv o1 o2 o3 o4 o5 f1 f2 n1 n2 hst hst2 hs zb hbel HO hY
      go_wp2_with (fail)
      refine wp_region_held_tail 10 (fun w' => w'.cell? ⟨w.heap.size, 0, none⟩ = some (.bool X.a.s) ∧ w'.cell? ⟨w.heap.size, 1, none⟩ = some (.slice As ks cs) ∧ w'.cell? ⟨w.heap.size, 2, none⟩ = some (.int .i64 X.a.e) ∧ w'.cell? ⟨w.heap.size, 3, none⟩ = some (.bool X.b.s) ∧ w'.cell? ⟨w.heap.size, 4, none⟩ = some (.slice Bs ls ds) ∧ w'.cell? ⟨w.heap.size, 5, none⟩ = some (.int .i64 X.b.e)) (by kernel_rfl) (by kernel_rfl) (by first | (go_simp; done) | go_keep) (fun hHeld => ?_)
      (refine AnyT.take (i := 0) rfl (by kernel_rfl) (by kernel_rfl) (by kernel_rfl) (by kernel_rfl) (fun _ _ _ h => h) (Or.inl ⟨by rfl, (by intro w hSw; (try dsimp only at hSw); go_simp; try with_reducible rfl)⟩) (by assumption) ?_; try simp only [Act.put, List.setIfInBounds_toArray, List.set_cons_zero, List.set_cons_succ])
      (refine AnyT.take (i := 3) rfl (by kernel_rfl) (by kernel_rfl) (by kernel_rfl) (by kernel_rfl) (fun _ _ _ h => h) (Or.inl ⟨by rfl, (by intro w hSw; (try dsimp only at hSw); go_simp; try with_reducible rfl)⟩) (by assumption) ?_; try simp only [Act.put, List.setIfInBounds_toArray, List.set_cons_zero, List.set_cons_succ])
      (refine AnyT.take (i := 4) rfl (by kernel_rfl) (by kernel_rfl) (by kernel_rfl) (by kernel_rfl) (fun _ _ _ h => h) (Or.inl ⟨by rfl, (by intro w hSw; (try dsimp only at hSw); go_simp; try with_reducible rfl)⟩) (by assumption) ?_; try simp only [Act.put, List.setIfInBounds_toArray, List.set_cons_zero, List.set_cons_succ])
      (refine AnyT.one (i := 1) rfl (by kernel_rfl) (by kernel_rfl) (fun K hK => ?_); go_simp)
      go_at_call 98; (with_reducible refine (HI.out _).mono ?_); rintro _ _ ⟨A1, k1, d1, B1, l1, e1, q1, hq1, hr1, rfl, rfl⟩; have hq1' := hq1.out; have hr1' := hr1.out
      (refine hK.out _ _ (by first | (go_simp; done) | go_keep) (fun hHeld => ?_); clear hK K; try simp only [Act.put, List.setIfInBounds_toArray, List.set_cons_zero, List.set_cons_succ])
      (refine AnyT.one (i := 2) rfl (by kernel_rfl) (by kernel_rfl) (fun K hK => ?_); go_simp)
      go_at_call 98; (with_reducible refine (HI.out _).mono ?_); rintro _ _ ⟨A2, k2, d2, B2, l2, e2, q2, hq2, hr2, rfl, rfl⟩; have hq2' := hq2.out; have hr2' := hr2.out
      (refine hK.out _ _ (by first | (go_simp; done) | go_keep) (fun hHeld => ?_); clear hK K; try simp only [Act.put, List.setIfInBounds_toArray, List.set_cons_zero, List.set_cons_succ])
      (refine AnyT.one (i := 5) rfl (by kernel_rfl) (by kernel_rfl) (fun K hK => ?_); go_simp)
      go_at_call 101; (with_reducible refine (ML.out _ (by (repeat' first | (with_reducible first | exact Below.refl _ _ | assumption | refine Later.belowOf _ ?_ ?_ | refine Below.alloc ?_ ?_ _ | refine Below.setCell ?_ ?_ _ | refine Below.drewN' _ ?_ | refine Below.drew ?_ | exact Ge.le) | go_size))).mono ?_); rintro _ _ ⟨A3, k3, d3, B3, l3, e3, q3, hq3, hr3, rfl, rfl⟩; have hq3' := hq3.out; have hr3' := hr3.out
      (refine hK.out _ _ (by first | (go_simp; done) | go_keep) (fun hHeld => ?_); clear hK K; try simp only [Act.put, List.setIfInBounds_toArray, List.set_cons_zero, List.set_cons_succ])
      (refine AnyT.one (i := 6) rfl (by kernel_rfl) (by kernel_rfl) (fun K hK => ?_); go_simp)
      go_at_call 99; (with_reducible refine (AD.out _ _ _ _ _ _ _ _ _ _ _ _ _ (by (repeat (first | (with_reducible assumption) | (with_reducible refine Big.drew ?_) | (with_reducible refine Big.drewN ?_ _) | (with_reducible refine Big.alloc ?_ _) | (with_reducible refine Big.later ?_ _) | (with_reducible refine Big.setCell ?_ _ (by go_simp))))) (by (repeat (first | (with_reducible assumption) | (with_reducible refine Big.drew ?_) | (with_reducible refine Big.drewN ?_ _) | (with_reducible refine Big.alloc ?_ _) | (with_reducible refine Big.later ?_ _) | (with_reducible refine Big.setCell ?_ _ (by go_simp))))) (by (repeat (first | (with_reducible assumption) | (with_reducible refine Big.drew ?_) | (with_reducible refine Big.drewN ?_ _) | (with_reducible refine Big.alloc ?_ _) | (with_reducible refine Big.later ?_ _) | (with_reducible refine Big.setCell ?_ _ (by go_simp))))) (by (repeat (first | (with_reducible assumption) | (with_reducible refine Big.drew ?_) | (with_reducible refine Big.drewN ?_ _) | (with_reducible refine Big.alloc ?_ _) | (with_reducible refine Big.later ?_ _) | (with_reducible refine Big.setCell ?_ _ (by go_simp)))))).mono ?_); rintro _ _ ⟨A4, k4, d4, B4, l4, e4, q4, hq4, hr4, rfl, rfl⟩; have hq4' := hq4.out; have hr4' := hr4.out
      (refine hK.out _ _ (by first | (go_simp; done) | go_keep) (fun hHeld => ?_); clear hK K; try simp only [Act.put, List.setIfInBounds_toArray, List.set_cons_zero, List.set_cons_succ])
      (refine AnyT.one (i := 7) rfl (by kernel_rfl) (by kernel_rfl) (fun K hK => ?_); go_simp)
      go_at_call 181; (with_reducible refine (SQ.out _ _ _ _ _ _ _ (by (repeat (first | (with_reducible assumption) | (with_reducible refine Big.drew ?_) | (with_reducible refine Big.drewN ?_ _) | (with_reducible refine Big.alloc ?_ _) | (with_reducible refine Big.later ?_ _) | (with_reducible refine Big.setCell ?_ _ (by go_simp))))) (by (repeat (first | (with_reducible assumption) | (with_reducible refine Big.drew ?_) | (with_reducible refine Big.drewN ?_ _) | (with_reducible refine Big.alloc ?_ _) | (with_reducible refine Big.later ?_ _) | (with_reducible refine Big.setCell ?_ _ (by go_simp)))))).mono ?_); rintro _ _ ⟨A5, k5, d5, B5, l5, e5, q5, hq5, hr5, rfl, rfl⟩; have hq5' := hq5.out; have hr5' := hr5.out
      (refine hK.out _ _ (by first | (go_simp; done) | go_keep) (fun hHeld => ?_); clear hK K; try simp only [Act.put, List.setIfInBounds_toArray, List.set_cons_zero, List.set_cons_succ])
      (refine AnyT.one (i := 8) rfl (by kernel_rfl) (by kernel_rfl) (fun K hK => ?_); go_simp)
      go_at_call 99; (with_reducible refine (AE.out _ _ _ _ _ _ _ _ _ _ _ _ _ (by (repeat (first | (with_reducible assumption) | (with_reducible refine Big.drew ?_) | (with_reducible refine Big.drewN ?_ _) | (with_reducible refine Big.alloc ?_ _) | (with_reducible refine Big.later ?_ _) | (with_reducible refine Big.setCell ?_ _ (by go_simp))))) (by (repeat (first | (with_reducible assumption) | (with_reducible refine Big.drew ?_) | (with_reducible refine Big.drewN ?_ _) | (with_reducible refine Big.alloc ?_ _) | (with_reducible refine Big.later ?_ _) | (with_reducible refine Big.setCell ?_ _ (by go_simp))))) (by (repeat (first | (with_reducible assumption) | (with_reducible refine Big.drew ?_) | (with_reducible refine Big.drewN ?_ _) | (with_reducible refine Big.alloc ?_ _) | (with_reducible refine Big.later ?_ _) | (with_reducible refine Big.setCell ?_ _ (by go_simp))))) (by (repeat (first | (with_reducible assumption) | (with_reducible refine Big.drew ?_) | (with_reducible refine Big.drewN ?_ _) | (with_reducible refine Big.alloc ?_ _) | (with_reducible refine Big.later ?_ _) | (with_reducible refine Big.setCell ?_ _ (by go_simp)))))).mono ?_); rintro _ _ ⟨A6, k6, d6, B6, l6, e6, q6, hq6, hr6, rfl, rfl⟩; have hq6' := hq6.out; have hr6' := hr6.out
      (refine hK.out _ _ (by first | (go_simp; done) | go_keep) (fun hHeld => ?_); clear hK K; try simp only [Act.put, List.setIfInBounds_toArray, List.set_cons_zero, List.set_cons_succ])
      (refine AnyT.one (i := 9) rfl (by kernel_rfl) (by kernel_rfl) (fun K hK => ?_); go_simp)
      go_at_call 96; (with_reducible refine (DV.out _ (by (repeat' first | (with_reducible first | exact Below.refl _ _ | assumption | refine Later.belowOf _ ?_ ?_ | refine Below.alloc ?_ ?_ _ | refine Below.setCell ?_ ?_ _ | refine Below.drewN' _ ?_ | refine Below.drew ?_ | exact Ge.le) | go_size)) _ _ _ _ _ _ (by (repeat (first | (with_reducible assumption) | (with_reducible refine Big.drew ?_) | (with_reducible refine Big.drewN ?_ _) | (with_reducible refine Big.alloc ?_ _) | (with_reducible refine Big.later ?_ _) | (with_reducible refine Big.setCell ?_ _ (by go_simp))))) (by (repeat (first | (with_reducible assumption) | (with_reducible refine Big.drew ?_) | (with_reducible refine Big.drewN ?_ _) | (with_reducible refine Big.alloc ?_ _) | (with_reducible refine Big.later ?_ _) | (with_reducible refine Big.setCell ?_ _ (by go_simp)))))).mono ?_); rintro _ _ ⟨A7, k7, d7, B7, l7, e7, q7, hq7, hr7, rfl, rfl⟩; have hq7' := hq7.out; have hr7' := hr7.out
      (refine hK.out _ _ (by first | (go_simp; done) | go_keep) (fun hHeld => ?_); clear hK K; try simp only [Act.put, List.setIfInBounds_toArray, List.set_cons_zero, List.set_cons_succ])
      (refine AnyT.done (by kernel_rfl) ?_; simp only [List.drop_succ_cons, List.drop_zero])
      clear hHeld a0 a1 a2 a3 a4 a5
      have b4 : Below wr.heap.size wr q7.val := by (repeat' first | (with_reducible first | exact Below.refl _ _ | assumption | refine Later.belowOf _ ?_ ?_ | refine Below.alloc ?_ ?_ _ | refine Below.setCell ?_ ?_ _ | refine Below.drewN' _ ?_ | refine Below.drew ?_ | exact Ge.le) | go_size)
      have hs4 := HW.out.1.below b4
      have a0 := hs4.c0
      have a1 := hs4.c1
      have a2 := hs4.c2
      have a3 := hs4.c3
      have a4 := hs4.c4
      have a5 := hs4.c5
      have af0 := hs4.fz 0 (by omega)
      have af1 := hs4.fz 1 (by omega)
      have af2 := hs4.fz 2 (by omega)
      have af3 := hs4.fz 3 (by omega)
      have af4 := hs4.fz 4 (by omega)
      have af5 := hs4.fz 5 (by omega)
      have HS4 := Lib.hid (show _ ∧ _ from ⟨hs4, b4⟩)
      clear hs4 b4
      go_wp2
      have bb := HS4.out.2.size
      refine ⟨⟨j + 1, A7, k7, d7, B7, l7, e7, by go_num, by omega, ?_, ?_, ?_⟩, by simp [intOf]; omega⟩
      · rw [HW.out.2.2.2]
        exact HS4.out.1.set hq7' hr7'
      · exact (PBox.heap_put (b' := w.heap.size) (b := w.heap.size + 1) (by omega) Y A7 k7 d7 B7 l7 e7).trans ((HS4.out.2.block _ ltz).trans HW.out.2.1)
      · exact PBox.put_below (HW.out.2.2.1.trans (HS4.out.2.mono (by omega))) (Nat.le_refl _) Y A7 k7 d7 B7 l7 e7
    · obtain rfl : j = 3 := by omega
      have hjn : ¬ ((3 : Nat) : Int) < 3 := by omega
      obtain ⟨o1, o2, o3, o4, o5, o6⟩ := HO.out.2
      have hst : rSlopeEnd (rSlopeSt x 3) = x.slope := rfl
      generalize rSlopeSt x 3 = X at *
      have hst2 : (X.mul (X.mul X).neg.odds).shift 3 = x.slope := hst
      have ml := fun (w1 : World) (h : Below wr.heap.size wr w1) => PRes.go (mulP2_any X X As ks cs Bs ls ds As ks cs Bs ls ds w1 (hs.ga.stays.at h) (hs.gb.stays.at h) (hs.ga.stays.at h) (hs.gb.stays.at h) o1 o1)
      have ng := fun (w1 : World) (A7 : Option Addr) (k7 c7 : Nat) (B7 : Option Addr) (l7 d7 : Nat) (g1 : Big w1 (.slice A7 k7 c7) (X.mul X).a.m) (g2 : Big w1 (.slice B7 l7 d7) (X.mul X).b.m) => PRes.go (negP2_any (X.mul X) A7 k7 c7 B7 l7 d7 w1 g1.stays g2.stays)
      have od := fun (w1 : World) (A7 : Option Addr) (k7 c7 : Nat) (B7 : Option Addr) (l7 d7 : Nat) (g1 : Big w1 (.slice A7 k7 c7) (X.mul X).neg.a.m) (g2 : Big w1 (.slice B7 l7 d7) (X.mul X).neg.b.m) => PRes.go (oddsP2_any (X.mul X).neg A7 k7 c7 B7 l7 d7 w1 g1.stays g2.stays o3 o4)
      have mo := fun (w1 : World) (h : Below wr.heap.size wr w1) (A7 : Option Addr) (k7 c7 : Nat) (B7 : Option Addr) (l7 d7 : Nat) (g1 : Big w1 (.slice A7 k7 c7) (X.mul X).neg.odds.a.m) (g2 : Big w1 (.slice B7 l7 d7) (X.mul X).neg.odds.b.m) => PRes.go (mulP2_any X (X.mul X).neg.odds As ks cs Bs ls ds A7 k7 c7 B7 l7 d7 w1 (hs.ga.stays.at h) (hs.gb.stays.at h) g1.stays g2.stays o1 o5)
      have sh := fun (w1 : World) (A7 : Option Addr) (k7 c7 : Nat) (B7 : Option Addr) (l7 d7 : Nat) (g1 : Big w1 (.slice A7 k7 c7) (X.mul (X.mul X).neg.odds).a.m) (g2 : Big w1 (.slice B7 l7 d7) (X.mul (X.mul X).neg.odds).b.m) => PRes.go (shiftP2_any (X.mul (X.mul X).neg.odds) 3 A7 k7 c7 B7 l7 d7 w1 g1.stays g2.stays o6 (by omega) (by omega))
      rw [hst2] at sh
      generalize X.mul (X.mul X).neg.odds = Z4 at *
      generalize (X.mul X).neg.odds = Z3 at *
      generalize (X.mul X).neg = Z2 at *
      generalize X.mul X = Z1 at *
      have zc : ∀ k v, (#[Value.bool false, .slice none 0 0, .int .i64 0, .bool false, .slice none 0 0, .int .i64 0] : Array Value)[k]? = some v → wr.cell? ⟨w.heap.size + 1, k, none⟩ = some v := fun k v hv => by simp [World.cell?, zb]; simpa using hv
      have z0 := zc 0 _ rfl
      have z1 := zc 1 _ rfl
      have z2 := zc 2 _ rfl
      have z3 := zc 3 _ rfl
      have z4 := zc 4 _ rfl
      have z5 := zc 5 _ rfl
      have zf : ∀ k, k < 6 → wr.frozen? ⟨w.heap.size + 1, k, none⟩ = false := fun k hk => by
        rcases k with _ | _ | _ | _ | _ | _ | k
        all_goals first | (simp [World.frozen?, zb]; done) | omega
      have zf0 := zf 0 (by omega)
      have zf1 := zf 1 (by omega)
      have zf2 := zf 2 (by omega)
      have zf3 := zf 3 (by omega)
      have zf4 := zf 4 (by omega)
      have zf5 := zf 5 (by omega)
      have ML := Lib.hid ml
      have NG := Lib.hid ng
      have OD := Lib.hid od
      have MO := Lib.hid mo
      have HW := Lib.hid hbel
      generalize x.slope = z at *
      obtain ⟨⟨zs, zm, ze⟩, ⟨zt, zn, zg⟩⟩ := z
      simp only at sh
      have SH := Lib.hid sh
      clear ml ng od mo sh zc zf hs zb hbel o1 o2 o3 o4 o5 o6 HO hst hst2 p1 b03
      unfold PRes
      simp only
      go_wp2_with (fail)
      refine wp_region_held_tail 8 (fun w' => w'.cell? ⟨w.heap.size, 0, none⟩ = some (.bool X.a.s) ∧ w'.cell? ⟨w.heap.size, 1, none⟩ = some (.slice As ks cs) ∧ w'.cell? ⟨w.heap.size, 2, none⟩ = some (.int .i64 X.a.e) ∧ w'.cell? ⟨w.heap.size, 3, none⟩ = some (.bool X.b.s) ∧ w'.cell? ⟨w.heap.size, 4, none⟩ = some (.slice Bs ls ds) ∧ w'.cell? ⟨w.heap.size, 5, none⟩ = some (.int .i64 X.b.e)) (by kernel_rfl) (by kernel_rfl) (by first | (go_simp; done) | go_keep) (fun hHeld => ?_)
      (refine AnyT.take (i := 0) rfl (by kernel_rfl) (by kernel_rfl) (by kernel_rfl) (by kernel_rfl) (fun _ _ _ h => h) (Or.inl ⟨by rfl, (by intro w hSw; (try dsimp only at hSw); go_simp; try with_reducible rfl)⟩) (by assumption) ?_; try simp only [Act.put, List.setIfInBounds_toArray, List.set_cons_zero, List.set_cons_succ])
      (refine AnyT.take (i := 1) rfl (by kernel_rfl) (by kernel_rfl) (by kernel_rfl) (by kernel_rfl) (fun _ _ _ h => h) (Or.inl ⟨by rfl, (by intro w hSw; (try dsimp only at hSw); go_simp; try with_reducible rfl)⟩) (by assumption) ?_; try simp only [Act.put, List.setIfInBounds_toArray, List.set_cons_zero, List.set_cons_succ])
      (refine AnyT.take (i := 2) rfl (by kernel_rfl) (by kernel_rfl) (by kernel_rfl) (by kernel_rfl) (fun _ _ _ h => h) (Or.inl ⟨by rfl, (by intro w hSw; (try dsimp only at hSw); go_simp; try with_reducible rfl)⟩) (by assumption) ?_; try simp only [Act.put, List.setIfInBounds_toArray, List.set_cons_zero, List.set_cons_succ])
      (refine AnyT.one (i := 3) rfl (by kernel_rfl) (by kernel_rfl) (fun K hK => ?_); go_simp)
      go_at_call 101; (with_reducible refine (ML.out _ (by (repeat' first | (with_reducible first | exact Below.refl _ _ | assumption | refine Later.belowOf _ ?_ ?_ | refine Below.alloc ?_ ?_ _ | refine Below.setCell ?_ ?_ _ | refine Below.drewN' _ ?_ | refine Below.drew ?_ | exact Ge.le) | go_size))).mono ?_); rintro _ _ ⟨A3, k3, d3, B3, l3, e3, q3, hq3, hr3, rfl, rfl⟩; have hq3' := hq3.out; have hr3' := hr3.out
      (refine hK.out _ _ (by first | (go_simp; done) | go_keep) (fun hHeld => ?_); clear hK K; try simp only [Act.put, List.setIfInBounds_toArray, List.set_cons_zero, List.set_cons_succ])
      (refine AnyT.one (i := 4) rfl (by kernel_rfl) (by kernel_rfl) (fun K hK => ?_); go_simp)
      go_at_call 24; (with_reducible refine (NG.out _ _ _ _ _ _ _ (by (repeat (first | (with_reducible assumption) | (with_reducible refine Big.drew ?_) | (with_reducible refine Big.drewN ?_ _) | (with_reducible refine Big.alloc ?_ _) | (with_reducible refine Big.later ?_ _) | (with_reducible refine Big.setCell ?_ _ (by go_simp))))) (by (repeat (first | (with_reducible assumption) | (with_reducible refine Big.drew ?_) | (with_reducible refine Big.drewN ?_ _) | (with_reducible refine Big.alloc ?_ _) | (with_reducible refine Big.later ?_ _) | (with_reducible refine Big.setCell ?_ _ (by go_simp)))))).mono ?_); rintro _ _ ⟨A4, k4, d4, B4, l4, e4, q4, hq4, hr4, rfl, rfl⟩; have hq4' := hq4.out; have hr4' := hr4.out
      (refine hK.out _ _ (by first | (go_simp; done) | go_keep) (fun hHeld => ?_); clear hK K; try simp only [Act.put, List.setIfInBounds_toArray, List.set_cons_zero, List.set_cons_succ])
      (refine AnyT.one (i := 5) rfl (by kernel_rfl) (by kernel_rfl) (fun K hK => ?_); go_simp)
      go_at_call 179; (with_reducible refine (OD.out _ _ _ _ _ _ _ (by (repeat (first | (with_reducible assumption) | (with_reducible refine Big.drew ?_) | (with_reducible refine Big.drewN ?_ _) | (with_reducible refine Big.alloc ?_ _) | (with_reducible refine Big.later ?_ _) | (with_reducible refine Big.setCell ?_ _ (by go_simp))))) (by (repeat (first | (with_reducible assumption) | (with_reducible refine Big.drew ?_) | (with_reducible refine Big.drewN ?_ _) | (with_reducible refine Big.alloc ?_ _) | (with_reducible refine Big.later ?_ _) | (with_reducible refine Big.setCell ?_ _ (by go_simp)))))).mono ?_); rintro _ _ ⟨A5, k5, d5, B5, l5, e5, q5, hq5, hr5, rfl, rfl⟩; have hq5' := hq5.out; have hr5' := hr5.out
      (refine hK.out _ _ (by first | (go_simp; done) | go_keep) (fun hHeld => ?_); clear hK K; try simp only [Act.put, List.setIfInBounds_toArray, List.set_cons_zero, List.set_cons_succ])
      (refine AnyT.one (i := 6) rfl (by kernel_rfl) (by kernel_rfl) (fun K hK => ?_); go_simp)
      go_at_call 101; (with_reducible refine (MO.out _ (by (repeat' first | (with_reducible first | exact Below.refl _ _ | assumption | refine Later.belowOf _ ?_ ?_ | refine Below.alloc ?_ ?_ _ | refine Below.setCell ?_ ?_ _ | refine Below.drewN' _ ?_ | refine Below.drew ?_ | exact Ge.le) | go_size)) _ _ _ _ _ _ (by (repeat (first | (with_reducible assumption) | (with_reducible refine Big.drew ?_) | (with_reducible refine Big.drewN ?_ _) | (with_reducible refine Big.alloc ?_ _) | (with_reducible refine Big.later ?_ _) | (with_reducible refine Big.setCell ?_ _ (by go_simp))))) (by (repeat (first | (with_reducible assumption) | (with_reducible refine Big.drew ?_) | (with_reducible refine Big.drewN ?_ _) | (with_reducible refine Big.alloc ?_ _) | (with_reducible refine Big.later ?_ _) | (with_reducible refine Big.setCell ?_ _ (by go_simp)))))).mono ?_); rintro _ _ ⟨A6, k6, d6, B6, l6, e6, q6, hq6, hr6, rfl, rfl⟩; have hq6' := hq6.out; have hr6' := hr6.out
      (refine hK.out _ _ (by first | (go_simp; done) | go_keep) (fun hHeld => ?_); clear hK K; try simp only [Act.put, List.setIfInBounds_toArray, List.set_cons_zero, List.set_cons_succ])
      (refine AnyT.one (i := 7) rfl (by kernel_rfl) (by kernel_rfl) (fun K hK => ?_); go_simp)
      go_at_call 27; (with_reducible refine (SH.out _ _ _ _ _ _ _ (by (repeat (first | (with_reducible assumption) | (with_reducible refine Big.drew ?_) | (with_reducible refine Big.drewN ?_ _) | (with_reducible refine Big.alloc ?_ _) | (with_reducible refine Big.later ?_ _) | (with_reducible refine Big.setCell ?_ _ (by go_simp))))) (by (repeat (first | (with_reducible assumption) | (with_reducible refine Big.drew ?_) | (with_reducible refine Big.drewN ?_ _) | (with_reducible refine Big.alloc ?_ _) | (with_reducible refine Big.later ?_ _) | (with_reducible refine Big.setCell ?_ _ (by go_simp)))))).mono ?_); rintro _ _ ⟨A7, k7, d7, B7, l7, e7, q7, hq7, hq8, rfl, rfl⟩; have hq7' := hq7.out; have hq8' := hq8.out
      (refine hK.out _ _ (by first | (go_simp; done) | go_keep) (fun hHeld => ?_); clear hK K; try simp only [Act.put, List.setIfInBounds_toArray, List.set_cons_zero, List.set_cons_succ])
      (refine AnyT.done (by kernel_rfl) ?_; simp only [List.drop_succ_cons, List.drop_zero])
      clear hHeld a0 a1 a2 a3 a4 a5
      have hb7 : Below wr.heap.size wr q7.val := by (repeat' first | (with_reducible first | exact Below.refl _ _ | assumption | refine Later.belowOf _ ?_ ?_ | refine Below.alloc ?_ ?_ _ | refine Below.setCell ?_ ?_ _ | refine Below.drewN' _ ?_ | refine Below.drew ?_ | exact Ge.le) | go_size)
      have t0 := (hb7.cell (World.block_lt_of_cell? _ _ z0)).trans z0
      have t1 := (hb7.cell (World.block_lt_of_cell? _ _ z1)).trans z1
      have t2 := (hb7.cell (World.block_lt_of_cell? _ _ z2)).trans z2
      have t3 := (hb7.cell (World.block_lt_of_cell? _ _ z3)).trans z3
      have t4 := (hb7.cell (World.block_lt_of_cell? _ _ z4)).trans z4
      have t5 := (hb7.cell (World.block_lt_of_cell? _ _ z5)).trans z5
      go_wp2
      have hww := HW.out
      have hle : w.heap.size ≤ w.heap.size + 1 := by omega
      refine bodyPost_ret (v := (.agg #[.bool zs, (.slice A7 k7 d7), .int .i64 ze, .bool zt, (.slice B7 l7 e7), .int .i64 zg])) (by simp [results, Tryz.f103, go_sem, t0, t1, t2, t3, t4, t5]) rfl ⟨⟨_, _, _, _, _, _, rfl, Big.sixth hq7' t0 t1 t2 t3 t4 t5 _ _ _ _ _ _, Big.sixth hq8' t0 t1 t2 t3 t4 t5 _ _ _ _ _ _⟩, ((((((hww.trans (hb7.mono hww.size)).setCell (p := ⟨w.heap.size + 1, 0, none⟩) hle _).setCell (p := ⟨w.heap.size + 1, 1, none⟩) hle _).setCell (p := ⟨w.heap.size + 1, 2, none⟩) hle _).setCell (p := ⟨w.heap.size + 1, 3, none⟩) hle _).setCell (p := ⟨w.heap.size + 1, 4, none⟩) hle _).setCell (p := ⟨w.heap.size + 1, 5, none⟩) hle _⟩
end Go.Proofs.YtkmgfbhnioojhaaGreat

/- Contracts: orreryref03.Pi, Ln2. -/
namespace Go.Proofs.YtkmgfbhnioojhaaGreat
set_option linter.unusedSimpArgs false
set_option linter.unusedVariables false
open Go.RowKit
open Fl

def P2.pi : P2 := (P2.int 1).slope.shift 2
def PiOk : Prop := SlopeOk (P2.int 1) ∧ (P2.int 1).slope.Ok
def P2.inv (n : Nat) : P2 := (P2.int 1).div (P2.int n)
def P2.ln2 : P2 := ((P2.inv 5).atanh.add (P2.inv 7).atanh).shift 1
def LnOk : Prop := AtanhOk (P2.inv 5) ∧ AtanhOk (P2.inv 7) ∧ (P2.inv 5).atanh.Ok ∧ (P2.inv 7).atanh.Ok ∧ ((P2.inv 5).atanh.add (P2.inv 7).atanh).Ok

set_option maxHeartbeats 8000000 in
set_option maxRecDepth 100000 in
theorem piP2_any (ok : PiOk) (w : World) : Calls Tryz.prog 28 #[] w (PRes P2.pi w) := by
  obtain ⟨o1, o2⟩ := ok
  have i1 := fun (w1 : World) => (show Calls Tryz.prog 98 #[.int .i64 1] w1 _ from PRes.go (intP2_any 1 (by decide) w1))
  have sl := fun (w1 : World) (A7 : Option Addr) (k7 c7 : Nat) (B7 : Option Addr) (l7 d7 : Nat) (g1 : Big w1 (.slice A7 k7 c7) 1) (g2 : Big w1 (.slice B7 l7 d7) 1) => PRes.go (show Calls Tryz.prog 103 #[(.agg #[.bool false, (.slice A7 k7 c7), .int .i64 0, .bool false, (.slice B7 l7 d7), .int .i64 0])] w1 _ from slopeP2_any (P2.int 1) A7 k7 c7 B7 l7 d7 w1 g1.stays g2.stays o1)
  have sh := fun (w1 : World) (A7 : Option Addr) (k7 c7 : Nat) (B7 : Option Addr) (l7 d7 : Nat) (g1 : Big w1 (.slice A7 k7 c7) (P2.int 1).slope.a.m) (g2 : Big w1 (.slice B7 l7 d7) (P2.int 1).slope.b.m) => PRes.go (shiftP2_any (P2.int 1).slope 2 A7 k7 c7 B7 l7 d7 w1 g1.stays g2.stays o2 (by omega) (by omega))
  have e0 : (P2.int 1).slope.shift 2 = P2.pi := rfl
  rw [e0] at sh
  clear o1 o2 e0
  generalize (P2.int 1).slope = X at *
  obtain ⟨z, hz⟩ : ∃ z, P2.pi = z := ⟨_, rfl⟩
  rw [hz] at sh ⊢
  clear hz
  obtain ⟨⟨zs, zm, ze⟩, ⟨zt, zn, zg⟩⟩ := z
  simp only at sh
  have I1 := Lib.hid i1
  have SL := Lib.hid sl
  have SH := Lib.hid sh
  clear i1 sl sh
  unfold PRes
  simp only
  go_enter Tryz.func28, Tryz.ntmps28
  go_wp2_with (first
    | (go_at_call 98; (with_reducible refine (I1.out _).mono ?_); rintro _ _ ⟨A1, k1, d1, B1, l1, e1, q1, hq1, hr1, rfl, rfl⟩; have hq1' := hq1.out; have hr1' := hr1.out)
    | (go_at_call 103; (with_reducible refine (SL.out _ _ _ _ _ _ _ (by (repeat (first | (with_reducible assumption) | (with_reducible refine Big.drew ?_) | (with_reducible refine Big.drewN ?_ _) | (with_reducible refine Big.alloc ?_ _) | (with_reducible refine Big.later ?_ _) | (with_reducible refine Big.setCell ?_ _ (by go_simp))))) (by (repeat (first | (with_reducible assumption) | (with_reducible refine Big.drew ?_) | (with_reducible refine Big.drewN ?_ _) | (with_reducible refine Big.alloc ?_ _) | (with_reducible refine Big.later ?_ _) | (with_reducible refine Big.setCell ?_ _ (by go_simp)))))).mono ?_); rintro _ _ ⟨A2, k2, d2, B2, l2, e2, q2, hq2, hr2, rfl, rfl⟩; have hq2' := hq2.out; have hr2' := hr2.out)
    | (go_at_call 27; (with_reducible refine (SH.out _ _ _ _ _ _ _ (by (repeat (first | (with_reducible assumption) | (with_reducible refine Big.drew ?_) | (with_reducible refine Big.drewN ?_ _) | (with_reducible refine Big.alloc ?_ _) | (with_reducible refine Big.later ?_ _) | (with_reducible refine Big.setCell ?_ _ (by go_simp))))) (by (repeat (first | (with_reducible assumption) | (with_reducible refine Big.drew ?_) | (with_reducible refine Big.drewN ?_ _) | (with_reducible refine Big.alloc ?_ _) | (with_reducible refine Big.later ?_ _) | (with_reducible refine Big.setCell ?_ _ (by go_simp)))))).mono ?_); rintro _ _ ⟨A3, k3, d3, B3, l3, e3, q3, hq3, hr3, rfl, rfl⟩; have hq3' := hq3.out; have hr3' := hr3.out))
  go_returns
  exact ⟨⟨_, _, _, _, _, _, rfl, by (repeat (first | (with_reducible assumption) | (with_reducible refine Big.drew ?_) | (with_reducible refine Big.drewN ?_ _) | (with_reducible refine Big.alloc ?_ _) | (with_reducible refine Big.later ?_ _) | (with_reducible refine Big.setCell ?_ _ (by go_simp)))), by (repeat (first | (with_reducible assumption) | (with_reducible refine Big.drew ?_) | (with_reducible refine Big.drewN ?_ _) | (with_reducible refine Big.alloc ?_ _) | (with_reducible refine Big.later ?_ _) | (with_reducible refine Big.setCell ?_ _ (by go_simp))))⟩, by (repeat' first | (with_reducible first | exact Below.refl _ _ | assumption | refine Later.belowOf _ ?_ ?_ | refine Below.alloc ?_ ?_ _ | refine Below.setCell ?_ ?_ _ | refine Below.drewN' _ ?_ | refine Below.drew ?_ | exact Ge.le) | go_size)⟩

set_option maxHeartbeats 8000000 in
set_option maxRecDepth 100000 in
theorem ln2P2_any (ok : LnOk) (w : World) : Calls Tryz.prog 38 #[] w (PRes P2.ln2 w) := by
  obtain ⟨o1, o2, o3, o4, o5⟩ := ok
  have i1 := fun (w1 : World) => (show Calls Tryz.prog 98 #[.int .i64 1] w1 _ from PRes.go (intP2_any 1 (by decide) w1))
  have i5 := fun (w1 : World) => (show Calls Tryz.prog 98 #[.int .i64 5] w1 _ from PRes.go (intP2_any 5 (by decide) w1))
  have i7 := fun (w1 : World) => (show Calls Tryz.prog 98 #[.int .i64 7] w1 _ from PRes.go (intP2_any 7 (by decide) w1))
  have oi : ∀ n, n < 100 → (P2.int n).Ok := fun n hn => ⟨⟨Nat.lt_of_lt_of_le (show n < bp 1 by unfold bp; omega) (bp_le (by decide)), show (-30000 : Int) ≤ 0 by decide, show (0 : Int) ≤ 30000 by decide⟩, ⟨Nat.lt_of_lt_of_le (show n < bp 1 by unfold bp; omega) (bp_le (by decide)), show (-30000 : Int) ≤ 0 by decide, show (0 : Int) ≤ 30000 by decide⟩⟩
  have b1 : blen 1 ≤ 200 := Nat.le_trans (blen_le (k := 1) (by decide)) (by decide)
  have dv := fun (n : Nat) (n0 : n ≠ 0) (n1 : n < 100) (w1 : World) (A6 : Option Addr) (k6 c6 : Nat) (B6 : Option Addr) (l6 d6 : Nat) (A7 : Option Addr) (k7 c7 : Nat) (B7 : Option Addr) (l7 d7 : Nat) (g3 : Big w1 (.slice A6 k6 c6) 1) (g4 : Big w1 (.slice B6 l6 d6) 1) (g1 : Big w1 (.slice A7 k7 c7) n) (g2 : Big w1 (.slice B7 l7 d7) n) => PRes.go (show Calls Tryz.prog 96 #[(.agg #[.bool false, (.slice A6 k6 c6), .int .i64 0, .bool false, (.slice B6 l6 d6), .int .i64 0]), (.agg #[.bool false, (.slice A7 k7 c7), .int .i64 0, .bool false, (.slice B7 l7 d7), .int .i64 0])] w1 (PRes (P2.inv n) w1) from divP2_any (P2.int 1) (P2.int n) A6 k6 c6 B6 l6 d6 A7 k7 c7 B7 l7 d7 w1 g3.stays g4.stays g1.stays g2.stays ok_int1 (oi n n1) b1 b1 n0 n0)
  have d5 := dv 5 (by decide) (by decide)
  have d7 := dv 7 (by decide) (by decide)
  have t5 := fun (w1 : World) (A7 : Option Addr) (k7 c7 : Nat) (B7 : Option Addr) (l7 d7 : Nat) (g1 : Big w1 (.slice A7 k7 c7) (P2.inv 5).a.m) (g2 : Big w1 (.slice B7 l7 d7) (P2.inv 5).b.m) => PRes.go (atanhP2_any (P2.inv 5) A7 k7 c7 B7 l7 d7 w1 g1.stays g2.stays o1)
  have t7 := fun (w1 : World) (A7 : Option Addr) (k7 c7 : Nat) (B7 : Option Addr) (l7 d7 : Nat) (g1 : Big w1 (.slice A7 k7 c7) (P2.inv 7).a.m) (g2 : Big w1 (.slice B7 l7 d7) (P2.inv 7).b.m) => PRes.go (atanhP2_any (P2.inv 7) A7 k7 c7 B7 l7 d7 w1 g1.stays g2.stays o2)
  have ad := fun (w1 : World) (A6 : Option Addr) (k6 c6 : Nat) (B6 : Option Addr) (l6 d6 : Nat) (A7 : Option Addr) (k7 c7 : Nat) (B7 : Option Addr) (l7 d7 : Nat) (g3 : Big w1 (.slice A6 k6 c6) (P2.inv 5).atanh.a.m) (g4 : Big w1 (.slice B6 l6 d6) (P2.inv 5).atanh.b.m) (g1 : Big w1 (.slice A7 k7 c7) (P2.inv 7).atanh.a.m) (g2 : Big w1 (.slice B7 l7 d7) (P2.inv 7).atanh.b.m) => PRes.go (addP2_any (P2.inv 5).atanh (P2.inv 7).atanh A6 k6 c6 B6 l6 d6 A7 k7 c7 B7 l7 d7 w1 g3.stays g4.stays g1.stays g2.stays o3 o4)
  have sh := fun (w1 : World) (A7 : Option Addr) (k7 c7 : Nat) (B7 : Option Addr) (l7 d7 : Nat) (g1 : Big w1 (.slice A7 k7 c7) ((P2.inv 5).atanh.add (P2.inv 7).atanh).a.m) (g2 : Big w1 (.slice B7 l7 d7) ((P2.inv 5).atanh.add (P2.inv 7).atanh).b.m) => PRes.go (shiftP2_any ((P2.inv 5).atanh.add (P2.inv 7).atanh) 1 A7 k7 c7 B7 l7 d7 w1 g1.stays g2.stays o5 (by omega) (by omega))
  have e0 : ((P2.inv 5).atanh.add (P2.inv 7).atanh).shift 1 = P2.ln2 := rfl
  rw [e0] at sh
  clear o1 o2 o3 o4 o5 e0 dv oi
  generalize (P2.inv 5).atanh.add (P2.inv 7).atanh = X at *
  generalize (P2.inv 5).atanh = X1 at *
  generalize (P2.inv 7).atanh = X2 at *
  generalize P2.inv 5 = X3 at *
  generalize P2.inv 7 = X4 at *
  obtain ⟨z, hz⟩ : ∃ z, P2.ln2 = z := ⟨_, rfl⟩
  rw [hz] at sh ⊢
  clear hz
  obtain ⟨⟨zs, zm, ze⟩, ⟨zt, zn, zg⟩⟩ := z
  simp only at sh
  have I1 := Lib.hid i1
  have I5 := Lib.hid i5
  have I7 := Lib.hid i7
  have D5 := Lib.hid d5
  have D7 := Lib.hid d7
  have T5 := Lib.hid t5
  have T7 := Lib.hid t7
  have AD := Lib.hid ad
  have SH := Lib.hid sh
  clear i1 i5 i7 d5 d7 t5 t7 ad sh
  unfold PRes
  simp only
  go_enter Tryz.func38, Tryz.ntmps38
  go_upto_region 2 with (first
    | (go_at_call 98; (with_reducible refine (I1.out _).mono ?_); rintro _ _ ⟨A1, k1, d1, B1, l1, e1, q1, hq1, hr1, rfl, rfl⟩; have hq1' := hq1.out; have hr1' := hr1.out)
    | (go_at_call 98; (with_reducible refine (I5.out _).mono ?_); rintro _ _ ⟨A2, k2, d2, B2, l2, e2, q2, hq2, hr2, rfl, rfl⟩; have hq2' := hq2.out; have hr2' := hr2.out)
    | (go_at_call 96; (with_reducible refine (D5.out _ _ _ _ _ _ _ _ _ _ _ _ _ (by (repeat (first | (with_reducible assumption) | (with_reducible refine Big.drew ?_) | (with_reducible refine Big.drewN ?_ _) | (with_reducible refine Big.alloc ?_ _) | (with_reducible refine Big.later ?_ _) | (with_reducible refine Big.setCell ?_ _ (by go_simp))))) (by (repeat (first | (with_reducible assumption) | (with_reducible refine Big.drew ?_) | (with_reducible refine Big.drewN ?_ _) | (with_reducible refine Big.alloc ?_ _) | (with_reducible refine Big.later ?_ _) | (with_reducible refine Big.setCell ?_ _ (by go_simp))))) (by (repeat (first | (with_reducible assumption) | (with_reducible refine Big.drew ?_) | (with_reducible refine Big.drewN ?_ _) | (with_reducible refine Big.alloc ?_ _) | (with_reducible refine Big.later ?_ _) | (with_reducible refine Big.setCell ?_ _ (by go_simp))))) (by (repeat (first | (with_reducible assumption) | (with_reducible refine Big.drew ?_) | (with_reducible refine Big.drewN ?_ _) | (with_reducible refine Big.alloc ?_ _) | (with_reducible refine Big.later ?_ _) | (with_reducible refine Big.setCell ?_ _ (by go_simp)))))).mono ?_); rintro _ _ ⟨A3, k3, d3, B3, l3, e3, q3, hq3, hr3, rfl, rfl⟩; have hq3' := hq3.out; have hr3' := hr3.out))
  go_wp2_with (first
    | (go_at_call 98; (with_reducible refine (I1.out _).mono ?_); rintro _ _ ⟨A1x, k1x, d1x, B1x, l1x, e1x, q1x, hq1x, hr1x, rfl, rfl⟩; have hq1x' := hq1x.out; have hr1x' := hr1x.out)
    | (go_at_call 98; (with_reducible refine (I7.out _).mono ?_); rintro _ _ ⟨A6, k6, d6, B6, l6, e6, q6, hq6, hr6, rfl, rfl⟩; have hq6' := hq6.out; have hr6' := hr6.out)
    | (go_at_call 96; (with_reducible refine (D7.out _ _ _ _ _ _ _ _ _ _ _ _ _ (by (repeat (first | (with_reducible assumption) | (with_reducible refine Big.drew ?_) | (with_reducible refine Big.drewN ?_ _) | (with_reducible refine Big.alloc ?_ _) | (with_reducible refine Big.later ?_ _) | (with_reducible refine Big.setCell ?_ _ (by go_simp))))) (by (repeat (first | (with_reducible assumption) | (with_reducible refine Big.drew ?_) | (with_reducible refine Big.drewN ?_ _) | (with_reducible refine Big.alloc ?_ _) | (with_reducible refine Big.later ?_ _) | (with_reducible refine Big.setCell ?_ _ (by go_simp))))) (by (repeat (first | (with_reducible assumption) | (with_reducible refine Big.drew ?_) | (with_reducible refine Big.drewN ?_ _) | (with_reducible refine Big.alloc ?_ _) | (with_reducible refine Big.later ?_ _) | (with_reducible refine Big.setCell ?_ _ (by go_simp))))) (by (repeat (first | (with_reducible assumption) | (with_reducible refine Big.drew ?_) | (with_reducible refine Big.drewN ?_ _) | (with_reducible refine Big.alloc ?_ _) | (with_reducible refine Big.later ?_ _) | (with_reducible refine Big.setCell ?_ _ (by go_simp)))))).mono ?_); rintro _ _ ⟨A7, k7, d7, B7, l7, e7, q7, hq7, hr7, rfl, rfl⟩; have hq7' := hq7.out; have hr7' := hr7.out)
    | (go_at_call 100; (with_reducible refine (T5.out _ _ _ _ _ _ _ (by (repeat (first | (with_reducible assumption) | (with_reducible refine Big.drew ?_) | (with_reducible refine Big.drewN ?_ _) | (with_reducible refine Big.alloc ?_ _) | (with_reducible refine Big.later ?_ _) | (with_reducible refine Big.setCell ?_ _ (by go_simp))))) (by (repeat (first | (with_reducible assumption) | (with_reducible refine Big.drew ?_) | (with_reducible refine Big.drewN ?_ _) | (with_reducible refine Big.alloc ?_ _) | (with_reducible refine Big.later ?_ _) | (with_reducible refine Big.setCell ?_ _ (by go_simp)))))).mono ?_); rintro _ _ ⟨A5, k5, d5, B5, l5, e5, q5, hq5, hr5, rfl, rfl⟩; have hq5' := hq5.out; have hr5' := hr5.out)
    | (go_at_call 100; (with_reducible refine (T7.out _ _ _ _ _ _ _ (by (repeat (first | (with_reducible assumption) | (with_reducible refine Big.drew ?_) | (with_reducible refine Big.drewN ?_ _) | (with_reducible refine Big.alloc ?_ _) | (with_reducible refine Big.later ?_ _) | (with_reducible refine Big.setCell ?_ _ (by go_simp))))) (by (repeat (first | (with_reducible assumption) | (with_reducible refine Big.drew ?_) | (with_reducible refine Big.drewN ?_ _) | (with_reducible refine Big.alloc ?_ _) | (with_reducible refine Big.later ?_ _) | (with_reducible refine Big.setCell ?_ _ (by go_simp)))))).mono ?_); rintro _ _ ⟨A8, k8, d8, B8, l8, e8, q8, hq8, hr8, rfl, rfl⟩; have hq8' := hq8.out; have hr8' := hr8.out)
    | (go_at_call 99; (with_reducible refine (AD.out _ _ _ _ _ _ _ _ _ _ _ _ _ (by (repeat (first | (with_reducible assumption) | (with_reducible refine Big.drew ?_) | (with_reducible refine Big.drewN ?_ _) | (with_reducible refine Big.alloc ?_ _) | (with_reducible refine Big.later ?_ _) | (with_reducible refine Big.setCell ?_ _ (by go_simp))))) (by (repeat (first | (with_reducible assumption) | (with_reducible refine Big.drew ?_) | (with_reducible refine Big.drewN ?_ _) | (with_reducible refine Big.alloc ?_ _) | (with_reducible refine Big.later ?_ _) | (with_reducible refine Big.setCell ?_ _ (by go_simp))))) (by (repeat (first | (with_reducible assumption) | (with_reducible refine Big.drew ?_) | (with_reducible refine Big.drewN ?_ _) | (with_reducible refine Big.alloc ?_ _) | (with_reducible refine Big.later ?_ _) | (with_reducible refine Big.setCell ?_ _ (by go_simp))))) (by (repeat (first | (with_reducible assumption) | (with_reducible refine Big.drew ?_) | (with_reducible refine Big.drewN ?_ _) | (with_reducible refine Big.alloc ?_ _) | (with_reducible refine Big.later ?_ _) | (with_reducible refine Big.setCell ?_ _ (by go_simp)))))).mono ?_); rintro _ _ ⟨A9, k9, d9, B9, l9, e9, q9, hq9, hr9, rfl, rfl⟩; have hq9' := hq9.out; have hr9' := hr9.out)
    | (go_at_call 27; (with_reducible refine (SH.out _ _ _ _ _ _ _ (by (repeat (first | (with_reducible assumption) | (with_reducible refine Big.drew ?_) | (with_reducible refine Big.drewN ?_ _) | (with_reducible refine Big.alloc ?_ _) | (with_reducible refine Big.later ?_ _) | (with_reducible refine Big.setCell ?_ _ (by go_simp))))) (by (repeat (first | (with_reducible assumption) | (with_reducible refine Big.drew ?_) | (with_reducible refine Big.drewN ?_ _) | (with_reducible refine Big.alloc ?_ _) | (with_reducible refine Big.later ?_ _) | (with_reducible refine Big.setCell ?_ _ (by go_simp)))))).mono ?_); rintro _ _ ⟨A0, k0, d0, B0, l0, e0, q0, hq0, hr0, rfl, rfl⟩; have hq0' := hq0.out; have hr0' := hr0.out))
  go_returns
  exact ⟨⟨_, _, _, _, _, _, rfl, by (repeat (first | (with_reducible assumption) | (with_reducible refine Big.drew ?_) | (with_reducible refine Big.drewN ?_ _) | (with_reducible refine Big.alloc ?_ _) | (with_reducible refine Big.later ?_ _) | (with_reducible refine Big.setCell ?_ _ (by go_simp)))), by (repeat (first | (with_reducible assumption) | (with_reducible refine Big.drew ?_) | (with_reducible refine Big.drewN ?_ _) | (with_reducible refine Big.alloc ?_ _) | (with_reducible refine Big.later ?_ _) | (with_reducible refine Big.setCell ?_ _ (by go_simp))))⟩, by (repeat' first | (with_reducible first | exact Below.refl _ _ | assumption | refine Later.belowOf _ ?_ ?_ | refine Below.alloc ?_ ?_ _ | refine Below.setCell ?_ ?_ _ | refine Below.drewN' _ ?_ | refine Below.drew ?_ | exact Ge.le) | go_size)⟩
end Go.Proofs.YtkmgfbhnioojhaaGreat
