/- TapeGrads: for every tape and slice of intervals the law returns true. -/
import Derived.Test.YtpkgpkabmechkaaGreatPgG3x
namespace Go.Proofs.YtpkgpkabmechkaaGreat
set_option linter.unusedSimpArgs false
set_option linter.unusedVariables false
open Go.ChangeShapes Go.WideShapes Go.ChangeAt Go.RowKit Go.Joins
open Fl

set_option maxHeartbeats 4000000 in
set_option maxRecDepth 100000 in
/-- Two slices of rows of the same intervals. -/
theorem sameAll_c {v v' : Value} {n m : Nat} {D : Nat → Nat → Nat × Nat} {w : World} (hx : RowsAt w v D n m) (hy : RowsAt w v' D n m) :
    Calls Tryz.prog 37 #[v, v'] w fun e w' => ∃ q : Later w, e = .returned (.bool true) ∧ w' = q.val := by
  obtain ⟨A, c, rfl, hn, hx⟩ := hx
  obtain ⟨B, d, rfl, _, hy⟩ := hy
  have HX := Lib.hid hx
  have HY := Lib.hid hy
  clear hx hy
  go_enter Tryz.func37, Tryz.ntmps37
  go_wp2
  go_loopw [13] (fun i wr => SameInv w n i wr) (fun i _ => n - (intOf i).toNat)
  case atStart => exact ⟨0, rfl, Nat.zero_le _, Below.refl _ _⟩
  case round =>
    obtain ⟨k, rfl, hk, hbel⟩ := hrel
    by_cases h1 : k < n
    · obtain ⟨b1, o1, r1, e1, x0, hr1⟩ := HX.out k h1
      obtain ⟨b2, o2, r2, e2, y0, hr2⟩ := HY.out k h1
      subst e1 e2
      have x0 := cellBelow hbel x0
      have y0 := cellBelow hbel y0
      haveI g1 : Ge wr (b1 + 1) := ⟨World.block_lt_of_cell? wr _ x0⟩
      haveI g2 : Ge wr (b2 + 1) := ⟨World.block_lt_of_cell? wr _ y0⟩
      have SM : ∀ q : Later wr, Calls Tryz.prog 35 #[r1, r2] q.val fun e w'' => e = .returned (.bool true) ∧ ∃ z : Later wr, w'' = z.val := fun q => by
        refine (same4_c ((hr1.below hbel).below q.below) ((hr2.below hbel).below q.below)).mono ?_
        rintro _ _ ⟨z, rfl, rfl⟩
        exact ⟨rfl, ⟨z.val, q.below.trans (z.below.mono q.below.size)⟩, rfl⟩
      have HB := Lib.hid hbel
      obtain ⟨A1, c1, rfl, _, _⟩ := hr1
      obtain ⟨A2, c2, rfl, _, _⟩ := hr2
      clear hbel
      have k0 : (0 : Int) ≤ (k : Int) := by omega
      have k1 : (k : Int) < (n : Int) := by omega
      have k2 : (k : Int) ≤ 9223372036854775807 := by omega
      go_wp2_with (fail)
      refine wp_region_later (by kernel_rfl) (by kernel_rfl) ?_
      repeat (go_big_quiet_step (first | (go_at_call 35; (with_reducible exact SM _))))
      (refine wpQuiet_nil ?_; rintro _ ⟨nq, rfl⟩)
      go_wp2
      go_roundw
      case rel => exact ⟨k + 1, by go_num, h1, HB.out.trans (nq.below.mono HB.out.size)⟩
      case measure => simp [intOf]; omega
    · obtain rfl : k = n := by omega
      go_wp2
      go_ret
      first
        | exact ⟨⟨_, hbel⟩, rfl, rfl⟩
        | exact ⟨rfl, ⟨_, hbel⟩, rfl⟩

set_option maxHeartbeats 4000000 in
set_option maxRecDepth 100000 in
theorem tapeGrads_walk (V : Int) (vO vN : Value) (ops : Nat → OpT) (nO : Nat) (outs : Nat → Int) (nN : Nat) (vx : Value) (xs : Nat → Nat × Nat) (nx : Nat) (w : World) (hO : OpsAt w vO ops nO) (hN : OutsAt w vN outs nN) (hx : IvsAt w vx xs nx) :
    Calls Tryz.prog 5 #[.agg #[.int .i64 V, vO, vN], vx] w fun e w' => e = .returned (.bool true) ∧ Below w.heap.size w w' := by
  have EV : ∀ W, Below w.heap.size w W → Calls Tryz.prog 36 #[.agg #[.int .i64 V, vO, vN], vx] W (GradRes W (gradE V nO ops nN outs xs nx) (outF ops outs xs) (outD ops outs xs) nN nx) := fun W hW => grad_c (hO.below hW) (hN.below hW) (hx.below hW)
  have RN : ∀ W, Below w.heap.size w W → Calls Tryz.prog 34 #[.agg #[.int .i64 V, vO, vN], vx, .bool true] W (GradRes W (gradE V nO ops nN outs xs nx) (outF ops outs xs) (outD ops outs xs) nN nx) := fun W hW => rung_c (hO.below hW) (hN.below hW) (hx.below hW)
  obtain ⟨AO, cO, rfl, hO⟩ := hO
  obtain ⟨AN, cN, rfl, hN⟩ := hN
  clear hO hN hx
  have b0 : Below w.heap.size w (w.alloc (Obj.cells #[.int .i64 V, .slice AO nO cO, .slice AN nN cN] 45)) := (Below.refl _ _).alloc (Nat.le_refl _) _
  have SC := to_later (short_c (V := V) (AO := AO) (AN := AN) (nO := nO) (nN := nN) (cO := cO) (cN := cN) (w.alloc (Obj.cells #[.int .i64 V, .slice AO nO cO, .slice AN nN cN] 45)))
  generalize gradE V nO ops nN outs xs nx = E at *
  generalize outF ops outs xs = ys at *
  generalize outD ops outs xs = D at *
  generalize (decide ((nO : Int) ≤ 120) && decide ((nN : Int) ≤ 40)) = sh at *
  clear b0
  cases sh
  · clear EV RN
    go_enter Tryz.func5, Tryz.ntmps5
    go_wp2_with (go_at_call 32; (with_reducible refine SC.mono ?_); rintro _ _ ⟨n1, rfl, rfl⟩)
    go_ret
    exact ⟨rfl, by (repeat' first | (with_reducible first | exact Below.refl _ _ | assumption | refine Later.belowOf _ ?_ ?_ | refine Below.alloc ?_ ?_ _ | refine Below.setCell ?_ ?_ _ | refine Below.drewN' _ ?_ | refine Below.drew ?_ | exact Ge.le) | go_size)⟩
  by_cases hV : 8 < V
  · clear EV RN
    go_enter Tryz.func5, Tryz.ntmps5
    go_wp2_with (go_at_call 32; (with_reducible refine SC.mono ?_); rintro _ _ ⟨n1, rfl, rfl⟩)
    go_ret
    exact ⟨rfl, by (repeat' first | (with_reducible first | exact Below.refl _ _ | assumption | refine Later.belowOf _ ?_ ?_ | refine Below.alloc ?_ ?_ _ | refine Below.setCell ?_ ?_ _ | refine Below.drewN' _ ?_ | refine Below.drew ?_ | exact Ge.le) | go_size)⟩
  have hV2 : V ≤ 8 := by omega
  clear hV
  by_cases hE : E = 0
  · subst hE
    go_enter Tryz.func5, Tryz.ntmps5
    go_wp2_with (first
      | (go_at_call 32; (with_reducible refine SC.mono ?_); rintro _ _ ⟨n1, rfl, rfl⟩)
      | (go_at_call 36; refine (EV _ (by (repeat' first | (with_reducible first | exact Below.refl _ _ | assumption | refine Later.belowOf _ ?_ ?_ | refine Below.alloc ?_ ?_ _ | refine Below.setCell ?_ ?_ _ | refine Below.drewN' _ ?_ | refine Below.drew ?_ | exact Ge.le) | go_size))).mono ?_; rintro _ w2 ⟨va, vc, rfl, ha1, ha2, hb2⟩; replace ha2 := ha2 rfl; clear ha1 EV; obtain ⟨n2, rfl⟩ : ∃ n2 : Later n1.val, w2 = n2.val := ⟨⟨w2, hb2⟩, rfl⟩; clear hb2)
      | (go_at_call 34; refine (RN _ (by (repeat' first | (with_reducible first | exact Below.refl _ _ | assumption | refine Later.belowOf _ ?_ ?_ | refine Below.alloc ?_ ?_ _ | refine Below.setCell ?_ ?_ _ | refine Below.drewN' _ ?_ | refine Below.drew ?_ | exact Ge.le) | go_size))).mono ?_; rintro _ w3 ⟨vb, vd, rfl, hc1, hc2, hb3⟩; replace hc2 := hc2 rfl; have SM := same4_c (ha2.1.below hb3) hc2.1; have SA := fun (q : Later w3) => sameAll_c ((ha2.2.below hb3).below q.below) (hc2.2.below q.below); clear hc1 RN ha2 hc2; obtain ⟨n3, rfl⟩ : ∃ n3 : Later n2.val, w3 = n3.val := ⟨⟨w3, hb3⟩, rfl⟩; clear hb3)
      | (go_at_call 35; (with_reducible refine SM.mono ?_); rintro _ _ ⟨n4, rfl, rfl⟩)
      | (go_at_call 37; (with_reducible refine (SA _).mono ?_); rintro _ _ ⟨n5, rfl, rfl⟩))
    go_ret
    exact ⟨rfl, by (repeat' first | (with_reducible first | exact Below.refl _ _ | assumption | refine Later.belowOf _ ?_ ?_ | refine Below.alloc ?_ ?_ _ | refine Below.setCell ?_ ?_ _ | refine Below.drewN' _ ?_ | refine Below.drew ?_ | exact Ge.le) | go_size)⟩
  · go_enter Tryz.func5, Tryz.ntmps5
    go_wp2_with (first
      | (go_at_call 32; (with_reducible refine SC.mono ?_); rintro _ _ ⟨n1, rfl, rfl⟩)
      | (go_at_call 36; refine (EV _ (by (repeat' first | (with_reducible first | exact Below.refl _ _ | assumption | refine Later.belowOf _ ?_ ?_ | refine Below.alloc ?_ ?_ _ | refine Below.setCell ?_ ?_ _ | refine Below.drewN' _ ?_ | refine Below.drew ?_ | exact Ge.le) | go_size))).mono ?_; rintro _ w2 ⟨va, vc, rfl, ha1, ha2, hb2⟩; obtain ⟨rfl, rfl⟩ := ha1 hE; clear ha1 ha2 EV; obtain ⟨n2, rfl⟩ : ∃ n2 : Later n1.val, w2 = n2.val := ⟨⟨w2, hb2⟩, rfl⟩; clear hb2)
      | (go_at_call 34; refine (RN _ (by (repeat' first | (with_reducible first | exact Below.refl _ _ | assumption | refine Later.belowOf _ ?_ ?_ | refine Below.alloc ?_ ?_ _ | refine Below.setCell ?_ ?_ _ | refine Below.drewN' _ ?_ | refine Below.drew ?_ | exact Ge.le) | go_size))).mono ?_; rintro _ w3 ⟨vb, vd, rfl, hc1, hc2, hb3⟩; obtain ⟨rfl, rfl⟩ := hc1 hE; have SM := same4_c (ivs_nil w3 ys) (ivs_nil w3 ys); have SA := fun (q : Later w3) => sameAll_c (rows_nil q.val D nx) (rows_nil q.val D nx); clear hc1 hc2 RN; obtain ⟨n3, rfl⟩ : ∃ n3 : Later n2.val, w3 = n3.val := ⟨⟨w3, hb3⟩, rfl⟩; clear hb3)
      | (go_at_call 35; (with_reducible refine SM.mono ?_); rintro _ _ ⟨n4, rfl, rfl⟩)
      | (go_at_call 37; (with_reducible refine (SA _).mono ?_); rintro _ _ ⟨n5, rfl, rfl⟩))
    go_ret
    exact ⟨rfl, by (repeat' first | (with_reducible first | exact Below.refl _ _ | assumption | refine Later.belowOf _ ?_ ?_ | refine Below.alloc ?_ ?_ _ | refine Below.setCell ?_ ?_ _ | refine Below.drewN' _ ?_ | refine Below.drew ?_ | exact Ge.le) | go_size)⟩

theorem tapeGrads_go (V : Int) (vO vN : Value) (ops : Nat → OpT) (nO : Nat) (outs : Nat → Int) (nN : Nat) (A : Option Addr) (nx c : Nat) (xs : Nat → Nat × Nat) {w0 : World} (hO : OpsAt w0 vO ops nO) (hN : OutsAt w0 vN outs nN) (hx : IvsAt w0 (.slice A nx c) xs nx) (w : World) (e : w = w0 := by rfl) :
    Calls Tryz.prog 5 #[.agg #[.int .i64 V, vO, vN], .slice A nx c] w fun e w' => e = .returned (.bool true) ∧ Below w.heap.size w w' := by
  subst e
  exact tapeGrads_walk V vO vN ops nO outs nN _ xs nx w hO hN hx

set_option maxRecDepth 100000 in
theorem tapeGrads_lifted (os : Os) (started : os.Started) (H : Type) (enc : TypeId × Value → H) :
    ReturnsInHanded {} Tryz.checked os 5 .any (Rows.tapeGradsSpec.pre6 enc Tryz.prog Tryz.f5 Rows.tapeGradsRow.domain false) (Rows.tapeGradsSpec.post enc Tryz.prog Tryz.f5 false true false false) := by
  refine returnsInHanded_of_change (C := Tryz.checked) Tryz.own started (by kernel_rfl) Tryz.func5
    (ChangeSpec.witness6 (enc := enc) (C := Tryz.checked) false ⟨#[], #[(.agg #[.int .i64 0, .slice none 0 0, .slice none 0 0]), (.slice none 0 0)], []⟩ 8 (by kernel_rfl) (by kernel_rfl) (by kernel_rfl) (by kernel_rfl)) ?_
  intro W base args ds gs before hval0 hW hcnd _
  have hval : ∀ (j : Nat) t v, Tryz.f5.params[j]? = some t → args[j]? = some v → Value.okWide Tryz.prog W .any base t v := hval0
  have hW' := hW
  obtain ⟨p, q, hA0, hV, rfl, hfz, hnd⟩ := hW
  have hA : DataW.TrodAll enc Tryz.prog W 0 (fun _ => true) true Tryz.f5.params.toList args.toList ds p := hA0
  rw [Tryz.params5] at hA hval
  obtain ⟨v0, v1, d0, d1, p0, p1, rfl, rfl, rfl, h0, h1⟩ := trodAll_two hA
  obtain ⟨rfl, rfl⟩ := trodVars_none hV
  obtain ⟨x0_0, x0_1, x0_2, x0_3, x0_4, x0_5, x0_6, rfl, k0_0, k0_1⟩ := arg_tape (hval 0 45 v0 rfl rfl) h0
  obtain ⟨x1_0, x1_1, x1_2, x1_3, rfl, k1_0⟩ := arg_ivs (hval 1 46 v1 rfl rfl) h1
  refine (tapeGrads_go x0_0 x0_1 x0_2 x0_3 x0_4 x0_5 x0_6 x1_0 x1_1 x1_2 x1_3 k0_0 k0_1 k1_0 W).mono fun e W' ⟨he, hb⟩ => ?_
  subst he
  exact ⟨_, rfl, law_post rfl hW' (by kernel_rfl) (by kernel_rfl) rfl hb⟩

theorem tapeGrads_holds : Rows.TapeGradsSaid :=
  OpenClaim.holds_of_wide 5 Tryz.f5 rfl rfl rfl rfl rfl rfl rfl ⟨rfl, rfl, rfl, rfl, rfl⟩ rfl rfl rfl rfl rfl (by kernel_rfl) Tryz.func5 (by kernel_rfl)
    (of_decide_eq_true (by kernel_rfl)) (by unfold Func.isWrapper; rw [if_neg (of_decide_eq_false (by kernel_rfl))]; exact ⟨rfl, rfl⟩)
    (fun os started H enc _ => tapeGrads_lifted os started H enc)
end Go.Proofs.YtpkgpkabmechkaaGreat
