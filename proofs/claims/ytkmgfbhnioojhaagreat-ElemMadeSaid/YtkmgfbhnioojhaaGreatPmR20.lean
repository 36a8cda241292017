/- Contract: orreryref03.odds: the walk. -/
import Derived.Test.YtkmgfbhnioojhaaGreatPmR10x
import Derived.Test.YtkmgfbhnioojhaaGreatPmTail2
namespace Go.Proofs.YtkmgfbhnioojhaaGreat
set_option linter.unusedSimpArgs false
set_option linter.unusedVariables false
open Go.RowKit
open Fl

def OddInv (Wb : World) (b1 b2 : Nat) (x : P2) (i : Value) (wr : World) : Prop :=
  ∃ (j : Nat) (A : Option Addr) (k c : Nat) (B : Option Addr) (l d : Nat) (A' : Option Addr) (k' c' : Nat) (B' : Option Addr) (l' d' : Nat), i = .int .i64 j ∧ j ≤ 52 ∧ PBox wr b1 (oddSt x j).1 A k c B l d ∧ PBox wr b2 (oddSt x j).2 A' k' c' B' l' d' ∧ Below b1 Wb wr

set_option maxHeartbeats 60000000 in
set_option maxRecDepth 100000 in
theorem oddsP2_any (x : P2) (A : Option Addr) (ka ca : Nat) (B : Option Addr) (kb cb : Nat) (w : World) (hA : BigS w (.slice A ka ca) x.a.m) (hB : BigS w (.slice B kb cb) x.b.m) (ox : x.Ok) (ok : OddOk x) :
    Calls Tryz.prog 179 #[(.agg #[.bool x.a.s, (.slice A ka ca), .int .i64 x.a.e, .bool x.b.s, (.slice B kb cb), .int .i64 x.b.e])] w (PRes x.odds w) := by
  have HA := Lib.hid (show _ ∧ _ ∧ _ from ⟨hA, hB, ox⟩)
  have HO := Lib.hid ok
  clear hA hB ox ok
  have I0 := fun (w1 : World) => (show Calls Tryz.prog 98 #[.int .i64 0] w1 _ from PRes.go (intP2_any 0 (by decide) w1))
  have I1 := fun (w1 : World) => (show Calls Tryz.prog 98 #[.int .i64 1] w1 _ from PRes.go (intP2_any 1 (by decide) w1))
  go_enter Tryz.func179, Tryz.ntmps179
  go_wp2_with (first
    | (go_at_call 98; (with_reducible refine (I0 _).mono ?_); rintro _ _ ⟨A1, k1, d1, B1, l1, e1, q1, hq1, hr1, rfl, rfl⟩; have hq1' := hq1.out; have hr1' := hr1.out)
    | (go_at_call 98; (with_reducible refine (I1 _).mono ?_); rintro _ _ ⟨A2, k2, d2, B2, l2, e2, q2, hq2, hr2, rfl, rfl⟩; have hq2' := hq2.out; have hr2' := hr2.out))
  clear I0 I1
  refine cut_worldN (fun W3 hW3 => ?_)
  have bq1 : Below w.heap.size w q1.val := by (repeat' first | (with_reducible first | exact Below.refl _ _ | assumption | refine Later.belowOf _ ?_ ?_ | refine Below.alloc ?_ ?_ _ | refine Below.setCell ?_ ?_ _ | refine Below.drewN' _ ?_ | refine Below.drew ?_ | exact Ge.le) | go_size)
  have b13 : Below q1.val.heap.size q1.val W3 := by rw [← hW3]; (repeat' first | (with_reducible first | exact Below.refl _ _ | assumption | refine Later.belowOf _ ?_ ?_ | refine Below.alloc ?_ ?_ _ | refine Below.setCell ?_ ?_ _ | refine Below.drewN' _ ?_ | refine Below.drew ?_ | exact Ge.le) | go_size)
  have p1 : PBox W3 q1.val.heap.size (P2.int 0) A1 k1 d1 B1 l1 e1 := by
    refine ⟨?_, by rw [← hW3]; show Big _ _ 0; (repeat (first | (with_reducible assumption) | (with_reducible refine Big.drew ?_) | (with_reducible refine Big.drewN ?_ _) | (with_reducible refine Big.alloc ?_ _) | (with_reducible refine Big.later ?_ _) | (with_reducible refine Big.setCell ?_ _ (by go_simp)))), by rw [← hW3]; show Big _ _ 0; (repeat (first | (with_reducible assumption) | (with_reducible refine Big.drew ?_) | (with_reducible refine Big.drewN ?_ _) | (with_reducible refine Big.alloc ?_ _) | (with_reducible refine Big.later ?_ _) | (with_reducible refine Big.setCell ?_ _ (by go_simp))))⟩
    rw [← hW3, Below.heap_alloc _ _ _ (by have := q2.below.size; simp at this; omega), q2.below.block _ (by simp)]
    exact heap_alloc_new _ _
  have p2 : PBox W3 q2.val.heap.size (P2.int 1) A2 k2 d2 B2 l2 e2 := by
    refine ⟨?_, by rw [← hW3]; show Big _ _ 1; (repeat (first | (with_reducible assumption) | (with_reducible refine Big.drew ?_) | (with_reducible refine Big.drewN ?_ _) | (with_reducible refine Big.alloc ?_ _) | (with_reducible refine Big.later ?_ _) | (with_reducible refine Big.setCell ?_ _ (by go_simp)))), by rw [← hW3]; show Big _ _ 1; (repeat (first | (with_reducible assumption) | (with_reducible refine Big.drew ?_) | (with_reducible refine Big.drewN ?_ _) | (with_reducible refine Big.alloc ?_ _) | (with_reducible refine Big.later ?_ _) | (with_reducible refine Big.setCell ?_ _ (by go_simp))))⟩
    rw [← hW3]
    exact heap_alloc_new _ _
  have hs1 : w.heap.size + 2 ≤ q1.val.heap.size := by have := q1.below.size; simpa using this
  have hs2 : q1.val.heap.size < q2.val.heap.size := by have := q2.below.size; simp at this; omega
  have xb : PBox q1.val w.heap.size x A ka ca B kb cb := by
    refine ⟨?_, HA.out.1 _ bq1, HA.out.2.1 _ bq1⟩
    rw [q1.below.block _ (by simp; omega), Below.heap_alloc _ _ _ (by simp)]
    exact heap_alloc_new _ _
  have zb : q1.val.heap[w.heap.size + 1]? = some (Obj.cells #[.bool false, .slice none 0 0, .int .i64 0, .bool false, .slice none 0 0, .int .i64 0] 35) := by
    rw [q1.below.block _ (by simp)]
    have := heap_alloc_new (w.alloc (Obj.cells #[.bool x.a.s, .slice A ka ca, .int .i64 x.a.e, .bool x.b.s, .slice B kb cb, .int .i64 x.b.e] 35)) (Obj.cells #[.bool false, .slice none 0 0, .int .i64 0, .bool false, .slice none 0 0, .int .i64 0] 35)
    rwa [World.size_alloc] at this
  have hs3 : q2.val.heap.size < W3.heap.size := p2.lt
  generalize q2.val.heap.size = b2 at *
  generalize hb1 : q1.val.heap.size = b1 at *
  have HB := Lib.hid (show _ ∧ _ ∧ _ ∧ _ ∧ _ from ⟨bq1, b13, xb, zb, hb1⟩)
  clear hW3 bq1 xb zb hq1 hr1 hq2 hr2 hq1' hr1' hq2' hr2'
  go_loopw [5] (fun i wr => OddInv q1.val b1 b2 x i wr) (fun i _ => 52 - (intOf i).toNat)
  case atStart => exact ⟨0, _, _, _, _, _, _, _, _, _, _, _, _, rfl, by omega, p1, p2, b13⟩
  case round =>
    obtain ⟨j, As, ks, cs, Bs, ls, ds, Ap, kp, cp, Bp, lp, dp, rfl, hj, hs, hp, hbel⟩ := hrel
    have xb := HB.out.2.2.1.below ((hbel.mono (by have := HB.out.2.2.2.2; omega)))
    have zb := (hbel.block (w.heap.size + 1) (by omega)).trans HB.out.2.2.2.1
    have hbw : Below w.heap.size w wr := HB.out.1.trans (hbel.mono (by omega))
    obtain ⟨okS, okP, fit, okT⟩ := HO.out j hj
    have lts := hs.lt
    have ltp := hp.lt
    haveI gr0 : Ge wr (w.heap.size + 1) := ⟨by omega⟩
    haveI gr1 : Ge wr (w.heap.size + 1 + 1) := ⟨by omega⟩
    haveI gr2 : Ge wr (b1 + 1) := ⟨by omega⟩
    haveI gr3 : Ge wr (b2 + 1) := ⟨by omega⟩
    by_cases hj2 : j < 52
    · have hj3 : (j : Int) < 52 := by omega
      have hj4 : (0 : Int) ≤ (j : Int) := by omega
      obtain ⟨okS', okP', fit', okT'⟩ := HO.out (j + 1) (by omega)
      have hn : ((2 * j + 1 : Nat) : Int) = IntKind.i64.wrap (IntKind.i64.wrap (2 * (j : Int)) + 1) := by rw [IntWalk.i64_in (2 * (j : Int)) (by omega), IntWalk.i64_in _ (by omega)]; omega
      have ov := fun (w1 : World) (h : Below wr.heap.size wr w1) => PRes.go (overP2_any (oddSt x j).2 (2 * j + 1) Ap kp cp Bp lp dp w1 (hp.ga.stays.at h) (hp.gb.stays.at h) okP fit.1 fit.2 (by omega) (by omega))
      simp only [hn] at ov
      have ad := fun (w1 : World) (h : Below wr.heap.size wr w1) (A7 : Option Addr) (k7 c7 : Nat) (B7 : Option Addr) (l7 d7 : Nat) (g1 : Big w1 (.slice A7 k7 c7) ((oddSt x j).2.over (2 * j + 1)).a.m) (g2 : Big w1 (.slice B7 l7 d7) ((oddSt x j).2.over (2 * j + 1)).b.m) => PRes.go (addP2_any (oddSt x j).1 ((oddSt x j).2.over (2 * j + 1)) As ks cs Bs ls ds A7 k7 c7 B7 l7 d7 w1 (hs.ga.stays.at h) (hs.gb.stays.at h) g1.stays g2.stays okS okT)
      have e1 : (oddSt x j).1.add ((oddSt x j).2.over (2 * j + 1)) = (oddSt x (j + 1)).1 := rfl
      have e2 : (oddSt x j).2.mul x = (oddSt x (j + 1)).2 := rfl
      have ml := fun (w1 : World) (g1 : Big w1 (.slice Ap kp cp) (oddSt x j).2.a.m) (g2 : Big w1 (.slice Bp lp dp) (oddSt x j).2.b.m) (g3 : Big w1 (.slice A ka ca) x.a.m) (g4 : Big w1 (.slice B kb cb) x.b.m) => PRes.go (mulP2_any (oddSt x j).2 x Ap kp cp Bp lp dp A ka ca B kb cb w1 g1.stays g2.stays g3.stays g4.stays okP HA.out.2.2)
      rw [e1] at ad
      rw [e2] at ml
      have HE := Lib.hid (show _ ∧ _ from ⟨(rfl : (oddSt x (j + 1)).1 = (oddSt x (j + 1)).1), (rfl : (oddSt x (j + 1)).2 = (oddSt x (j + 1)).2)⟩)
      generalize (oddSt x j).2.over (2 * j + 1) = T at *
      generalize (oddSt x j).1 = S at *
      generalize (oddSt x j).2 = P at *
      obtain ⟨S', hS'⟩ : ∃ S', (oddSt x (j + 1)).1 = S' := ⟨_, rfl⟩
      obtain ⟨P', hP'⟩ : ∃ P', (oddSt x (j + 1)).2 = P' := ⟨_, rfl⟩
      rw [hS'] at ad
      rw [hP'] at ml
      have OV := Lib.hid ov
      have AD := Lib.hid ad
      have ML := Lib.hid ml
      have HQ := Lib.hid (show _ ∧ _ from ⟨hS', hP'⟩)
      clear ov ad ml HE e1 e2 okS okP fit okT okS' okP' fit' okT' hn hS' hP'
      have a0 := hs.c0
      have a1 := hs.c1
      have a2 := hs.c2
      have a3 := hs.c3
      have a4 := hs.c4
      have a5 := hs.c5
      have af0 := hs.fz 0 (by omega)
      have af1 := hs.fz 1 (by omega)
      have af2 := hs.fz 2 (by omega)
      have af3 := hs.fz 3 (by omega)
      have af4 := hs.fz 4 (by omega)
      have af5 := hs.fz 5 (by omega)
      have r0 := hp.c0
      have r1 := hp.c1
      have r2 := hp.c2
      have r3 := hp.c3
      have r4 := hp.c4
      have r5 := hp.c5
      have HW := Lib.hid (show _ ∧ _ ∧ _ ∧ _ ∧ _ ∧ _ from ⟨hs, hp, xb, zb, hbw, hbel⟩)
      clear hs hp xb zb hbw hbel
      go_wp2_with (fail)
      refine wp_region_held_tail 7 (fun w' => w'.cell? ⟨b1, 0, none⟩ = some (.bool S.a.s) ∧ w'.cell? ⟨b1, 1, none⟩ = some (.slice As ks cs) ∧ w'.cell? ⟨b1, 2, none⟩ = some (.int .i64 S.a.e) ∧ w'.cell? ⟨b1, 3, none⟩ = some (.bool S.b.s) ∧ w'.cell? ⟨b1, 4, none⟩ = some (.slice Bs ls ds) ∧ w'.cell? ⟨b1, 5, none⟩ = some (.int .i64 S.b.e) ∧ w'.cell? ⟨b2, 0, none⟩ = some (.bool P.a.s) ∧ w'.cell? ⟨b2, 1, none⟩ = some (.slice Ap kp cp) ∧ w'.cell? ⟨b2, 2, none⟩ = some (.int .i64 P.a.e) ∧ w'.cell? ⟨b2, 3, none⟩ = some (.bool P.b.s) ∧ w'.cell? ⟨b2, 4, none⟩ = some (.slice Bp lp dp) ∧ w'.cell? ⟨b2, 5, none⟩ = some (.int .i64 P.b.e)) (by kernel_rfl) (by kernel_rfl) (by first | (go_simp; done) | go_keep) (fun hHeld => ?_)
      (refine AnyT.take (i := 0) rfl (by kernel_rfl) (by kernel_rfl) (by kernel_rfl) (by kernel_rfl) (fun _ _ _ h => h) (Or.inl ⟨by rfl, (by intro w hSw; (try dsimp only at hSw); go_simp; try with_reducible rfl)⟩) (by assumption) ?_; try simp only [Act.put, List.setIfInBounds_toArray, List.set_cons_zero, List.set_cons_succ])
      (refine AnyT.take (i := 1) rfl (by kernel_rfl) (by kernel_rfl) (by kernel_rfl) (by kernel_rfl) (fun _ _ _ h => h) (Or.inl ⟨by rfl, (by intro w hSw; (try dsimp only at hSw); go_simp; try with_reducible rfl)⟩) (by assumption) ?_; try simp only [Act.put, List.setIfInBounds_toArray, List.set_cons_zero, List.set_cons_succ])
      (refine AnyT.take (i := 2) rfl (by kernel_rfl) (by kernel_rfl) (by kernel_rfl) (by kernel_rfl) (fun _ _ _ h => h) (Or.inl ⟨by rfl, (by intro w hSw; (try dsimp only at hSw); go_simp; try with_reducible rfl)⟩) (by assumption) ?_; try simp only [Act.put, List.setIfInBounds_toArray, List.set_cons_zero, List.set_cons_succ])
      (refine AnyT.take (i := 3) rfl (by kernel_rfl) (by kernel_rfl) (by kernel_rfl) (by kernel_rfl) (fun _ _ _ h => h) (Or.inl ⟨by rfl, (by intro w hSw; (try dsimp only at hSw); go_simp; try with_reducible rfl)⟩) (by assumption) ?_; try simp only [Act.put, List.setIfInBounds_toArray, List.set_cons_zero, List.set_cons_succ])
      (refine AnyT.take (i := 4) rfl (by kernel_rfl) (by kernel_rfl) (by kernel_rfl) (by kernel_rfl) (fun _ _ _ h => h) (Or.inl ⟨by rfl, (by intro w hSw; (try dsimp only at hSw); go_simp; try with_reducible rfl)⟩) (by assumption) ?_; try simp only [Act.put, List.setIfInBounds_toArray, List.set_cons_zero, List.set_cons_succ])
      (refine AnyT.one (i := 5) rfl (by kernel_rfl) (by kernel_rfl) (fun K hK => ?_); go_simp)
      go_at_call 106; (with_reducible refine (OV.out _ (by (repeat' first | (with_reducible first | exact Below.refl _ _ | assumption | refine Later.belowOf _ ?_ ?_ | refine Below.alloc ?_ ?_ _ | refine Below.setCell ?_ ?_ _ | refine Below.drewN' _ ?_ | refine Below.drew ?_ | exact Ge.le) | go_size))).mono ?_); rintro _ _ ⟨A3, k3, d3, B3, l3, e3, q3, hq3, hr3, rfl, rfl⟩; have hq3' := hq3.out; have hr3' := hr3.out
      (refine hK.out _ _ (by first | (go_simp; done) | go_keep) (fun hHeld => ?_); clear hK K; try simp only [Act.put, List.setIfInBounds_toArray, List.set_cons_zero, List.set_cons_succ])
      (refine AnyT.one (i := 6) rfl (by kernel_rfl) (by kernel_rfl) (fun K hK => ?_); go_simp)
      go_at_call 99; (with_reducible refine (AD.out _ (by (repeat' first | (with_reducible first | exact Below.refl _ _ | assumption | refine Later.belowOf _ ?_ ?_ | refine Below.alloc ?_ ?_ _ | refine Below.setCell ?_ ?_ _ | refine Below.drewN' _ ?_ | refine Below.drew ?_ | exact Ge.le) | go_size)) _ _ _ _ _ _ (by (repeat (first | (with_reducible assumption) | (with_reducible refine Big.drew ?_) | (with_reducible refine Big.drewN ?_ _) | (with_reducible refine Big.alloc ?_ _) | (with_reducible refine Big.later ?_ _) | (with_reducible refine Big.setCell ?_ _ (by go_simp))))) (by (repeat (first | (with_reducible assumption) | (with_reducible refine Big.drew ?_) | (with_reducible refine Big.drewN ?_ _) | (with_reducible refine Big.alloc ?_ _) | (with_reducible refine Big.later ?_ _) | (with_reducible refine Big.setCell ?_ _ (by go_simp)))))).mono ?_); rintro _ _ ⟨A4, k4, d4, B4, l4, e4, q4, hq4, hr4, rfl, rfl⟩; have hq4' := hq4.out; have hr4' := hr4.out
      (refine hK.out _ _ (by first | (go_simp; done) | go_keep) (fun hHeld => ?_); clear hK K; try simp only [Act.put, List.setIfInBounds_toArray, List.set_cons_zero, List.set_cons_succ])
      (refine AnyT.done (by kernel_rfl) ?_; simp only [List.drop_succ_cons, List.drop_zero])
      clear hHeld a0 a1 a2 a3 a4 a5 af0 af1 af2 af3 af4 af5 r0 r1 r2 r3 r4 r5
      have b4 : Below wr.heap.size wr q4.val := by (repeat' first | (with_reducible first | exact Below.refl _ _ | assumption | refine Later.belowOf _ ?_ ?_ | refine Below.alloc ?_ ?_ _ | refine Below.setCell ?_ ?_ _ | refine Below.drewN' _ ?_ | refine Below.drew ?_ | exact Ge.le) | go_size)
      have hs4 := HW.out.1.below b4
      have a0 := hs4.c0
      have a1 := hs4.c1
      have a2 := hs4.c2
      have a3 := hs4.c3
      have a4 := hs4.c4
      have a5 := hs4.c5
      have af0 := hs4.fz 0 (by omega)
      have af1 := hs4.fz 1 (by omega)
      have af2 := hs4.fz 2 (by omega)
      have af3 := hs4.fz 3 (by omega)
      have af4 := hs4.fz 4 (by omega)
      have af5 := hs4.fz 5 (by omega)
      have HS4 := Lib.hid (show _ ∧ _ from ⟨hs4, b4⟩)
      clear hs4 b4
      go_upto_region 7 with (fail)
      refine cut_worldN (fun W6 hW6 => ?_)
      have hne : b1 ≠ b2 := by have := HB.out.2.2.2.2; omega
      have e6 : putP q4.val b1 S' A4 k4 d4 B4 l4 e4 = W6 := hW6
      have b4 := HS4.out.2
      have hs6 : PBox W6 b1 S' A4 k4 d4 B4 l4 e4 := e6 ▸ HS4.out.1.set hq4' hr4'
      have hp6 : PBox W6 b2 P Ap kp cp Bp lp dp := e6 ▸ (HW.out.2.1.below b4).other HS4.out.1 hne _ _ _ _ _ _ _
      have xb6 : PBox W6 w.heap.size x A ka ca B kb cb := e6 ▸ (HW.out.2.2.1.below b4).other HS4.out.1 (by omega) _ _ _ _ _ _ _
      have bel6 : Below b1 q1.val W6 := e6 ▸ PBox.put_below (HW.out.2.2.2.2.2.trans (b4.mono (by omega))) (Nat.le_refl _) _ _ _ _ _ _ _
      have sz6 : W6.heap.size = q4.val.heap.size := by rw [← e6]; exact PBox.put_size _ _ _ _ _ _ _
      have sz4 := b4.size
      clear hW6 e6 a0 a1 a2 a3 a4 a5 af0 af1 af2 af3 af4 af5 hq3 hr3 hq4 hr4 hq3' hr3' hq4' hr4' b4
      have r0 := hp6.c0
      have r1 := hp6.c1
      have r2 := hp6.c2
      have r3 := hp6.c3
      have r4 := hp6.c4
      have r5 := hp6.c5
      have x0 := xb6.c0
      have x1 := xb6.c1
      have x2 := xb6.c2
      have x3 := xb6.c3
      have x4 := xb6.c4
      have x5 := xb6.c5
      have rf0 := hp6.fz 0 (by omega)
      have rf1 := hp6.fz 1 (by omega)
      have rf2 := hp6.fz 2 (by omega)
      have rf3 := hp6.fz 3 (by omega)
      have rf4 := hp6.fz 4 (by omega)
      have rf5 := hp6.fz 5 (by omega)
      have gpa := hp6.ga
      have gpb := hp6.gb
      have gxa := xb6.ga
      have gxb := xb6.gb
      have HW6 := Lib.hid (show _ ∧ _ ∧ _ ∧ _ ∧ _ from ⟨hs6, hp6, xb6, bel6, hne⟩)
      have lt6 := hp6.lt
      haveI gr6 : Ge W6 (b2 + 1) := ⟨by omega⟩
      haveI gr7 : Ge W6 (b1 + 1) := ⟨by omega⟩
      clear hs6 hp6 xb6 bel6 hne
      go_wp2_with (go_at_call 101; (with_reducible refine (ML.out _ (by (repeat (first | (with_reducible assumption) | (with_reducible refine Big.drew ?_) | (with_reducible refine Big.drewN ?_ _) | (with_reducible refine Big.alloc ?_ _) | (with_reducible refine Big.later ?_ _) | (with_reducible refine Big.setCell ?_ _ (by go_simp))))) (by (repeat (first | (with_reducible assumption) | (with_reducible refine Big.drew ?_) | (with_reducible refine Big.drewN ?_ _) | (with_reducible refine Big.alloc ?_ _) | (with_reducible refine Big.later ?_ _) | (with_reducible refine Big.setCell ?_ _ (by go_simp))))) (by (repeat (first | (with_reducible assumption) | (with_reducible refine Big.drew ?_) | (with_reducible refine Big.drewN ?_ _) | (with_reducible refine Big.alloc ?_ _) | (with_reducible refine Big.later ?_ _) | (with_reducible refine Big.setCell ?_ _ (by go_simp))))) (by (repeat (first | (with_reducible assumption) | (with_reducible refine Big.drew ?_) | (with_reducible refine Big.drewN ?_ _) | (with_reducible refine Big.alloc ?_ _) | (with_reducible refine Big.later ?_ _) | (with_reducible refine Big.setCell ?_ _ (by go_simp)))))).mono ?_); rintro _ _ ⟨A5, k5, d5, B5, l5, e5, q5, hq5, hr5, rfl, rfl⟩; have hq5' := hq5.out; have hr5' := hr5.out)
      have b65 : Below W6.heap.size W6 q5.val := by (repeat' first | (with_reducible first | exact Below.refl _ _ | assumption | refine Later.belowOf _ ?_ ?_ | refine Below.alloc ?_ ?_ _ | refine Below.setCell ?_ ?_ _ | refine Below.drewN' _ ?_ | refine Below.drew ?_ | exact Ge.le) | go_size)
      have hp7 := HW6.out.2.1.below b65
      have hs7 := HW6.out.1.below b65
      have bel7 := HW6.out.2.2.2.1.trans (b65.mono (by omega))
      refine ⟨⟨j + 1, A4, k4, d4, B4, l4, e4, A5, k5, d5, B5, l5, e5, by go_num, by omega, ?_, ?_, ?_⟩, by simp [intOf]; omega⟩
      · rw [HQ.out.1]
        exact hs7.other hp7 (by have := HW6.out.2.2.2.2; omega) P' A5 k5 d5 B5 l5 e5
      · rw [HQ.out.2]
        exact hp7.set hq5' hr5'
      · exact PBox.put_below bel7 (by omega) P' A5 k5 d5 B5 l5 e5
    · obtain rfl : j = 52 := by omega
      have hjn : ¬ ((52 : Nat) : Int) < 52 := by omega
      have ar := fun (w1 : World) (h : Below wr.heap.size wr w1) => PRes.go (aroundP2_any (oddSt x 52).1 (-180) As ks cs Bs ls ds w1 (hs.ga.stays.at h) (hs.gb.stays.at h) okS (by omega) (by omega))
      have e0 : (oddSt x 52).1.around (-180) = x.odds := rfl
      rw [e0] at ar
      have a0 := hs.c0
      have a1 := hs.c1
      have a2 := hs.c2
      have a3 := hs.c3
      have a4 := hs.c4
      have a5 := hs.c5
      have zc : ∀ k v, (#[Value.bool false, .slice none 0 0, .int .i64 0, .bool false, .slice none 0 0, .int .i64 0] : Array Value)[k]? = some v → wr.cell? ⟨w.heap.size + 1, k, none⟩ = some v := fun k v hv => by simp [World.cell?, zb]; simpa using hv
      have z0 := zc 0 _ rfl
      have z1 := zc 1 _ rfl
      have z2 := zc 2 _ rfl
      have z3 := zc 3 _ rfl
      have z4 := zc 4 _ rfl
      have z5 := zc 5 _ rfl
      have zf : ∀ k, k < 6 → wr.frozen? ⟨w.heap.size + 1, k, none⟩ = false := fun k hk => by
        rcases k with _ | _ | _ | _ | _ | _ | k
        all_goals first | (simp [World.frozen?, zb]; done) | omega
      have zf0 := zf 0 (by omega)
      have zf1 := zf 1 (by omega)
      have zf2 := zf 2 (by omega)
      have zf3 := zf 3 (by omega)
      have zf4 := zf 4 (by omega)
      have zf5 := zf 5 (by omega)
      have AR := Lib.hid ar
      have HW := Lib.hid hbw
      generalize (oddSt x 52).1 = S at *
      generalize x.odds = z at *
      clear ar e0 zc zf hs hp xb zb hbw hbel okS okP fit okT HO HA HB
      obtain ⟨⟨zs, zm, ze⟩, ⟨zt, zn, zg⟩⟩ := z
      unfold PRes
      simp only at *
      go_wp2_with (go_at_call 104; with_reducible refine (AR.out _ (by (repeat' first | (with_reducible first | exact Below.refl _ _ | assumption | refine Later.belowOf _ ?_ ?_ | refine Below.alloc ?_ ?_ _ | refine Below.setCell ?_ ?_ _ | refine Below.drewN' _ ?_ | refine Below.drew ?_ | exact Ge.le) | go_size))).mono ?_; rintro _ _ ⟨A7, k7, d7, B7, l7, e7, q7, hq7, hq8, rfl, rfl⟩; have hq7' := hq7.out; have hq8' := hq8.out)
      have hb7 : Below wr.heap.size wr q7.val := by (repeat' first | (with_reducible first | exact Below.refl _ _ | assumption | refine Later.belowOf _ ?_ ?_ | refine Below.alloc ?_ ?_ _ | refine Below.setCell ?_ ?_ _ | refine Below.drewN' _ ?_ | refine Below.drew ?_ | exact Ge.le) | go_size)
      have t0 := (hb7.cell (World.block_lt_of_cell? _ _ z0)).trans z0
      have t1 := (hb7.cell (World.block_lt_of_cell? _ _ z1)).trans z1
      have t2 := (hb7.cell (World.block_lt_of_cell? _ _ z2)).trans z2
      have t3 := (hb7.cell (World.block_lt_of_cell? _ _ z3)).trans z3
      have t4 := (hb7.cell (World.block_lt_of_cell? _ _ z4)).trans z4
      have t5 := (hb7.cell (World.block_lt_of_cell? _ _ z5)).trans z5
      have hww := HW.out
      have hle : w.heap.size ≤ w.heap.size + 1 := by omega
      refine bodyPost_ret (v := (.agg #[.bool zs, (.slice A7 k7 d7), .int .i64 ze, .bool zt, (.slice B7 l7 e7), .int .i64 zg])) (by simp [results, Tryz.f179, go_sem, t0, t1, t2, t3, t4, t5]) rfl ⟨⟨_, _, _, _, _, _, rfl, Big.sixth hq7' t0 t1 t2 t3 t4 t5 _ _ _ _ _ _, Big.sixth hq8' t0 t1 t2 t3 t4 t5 _ _ _ _ _ _⟩, ((((((hww.trans (hb7.mono hww.size)).setCell (p := ⟨w.heap.size + 1, 0, none⟩) hle _).setCell (p := ⟨w.heap.size + 1, 1, none⟩) hle _).setCell (p := ⟨w.heap.size + 1, 2, none⟩) hle _).setCell (p := ⟨w.heap.size + 1, 3, none⟩) hle _).setCell (p := ⟨w.heap.size + 1, 4, none⟩) hle _).setCell (p := ⟨w.heap.size + 1, 5, none⟩) hle _⟩
end Go.Proofs.YtkmgfbhnioojhaaGreat
