/- TapeEvals: for every tape and slice of intervals the law returns true. -/
import Derived.Test.YtpkgpkabmechkaaGreatV12
import Derived.Test.YtpkgpkabmechkaaGreatV6
namespace Go.Proofs.YtpkgpkabmechkaaGreat
set_option linter.unusedSimpArgs false
set_option linter.unusedVariables false
open Go.ChangeShapes Go.WideShapes Go.ChangeAt Go.RowKit Go.Joins
open Fl

set_option maxHeartbeats 4000000 in
set_option maxRecDepth 100000 in
theorem tapeEvals_walk (V : Int) (vO vN : Value) (ops : Nat → OpT) (nO : Nat) (outs : Nat → Int) (nN : Nat) (vx : Value) (xs : Nat → Nat × Nat) (nx : Nat) (w : World) (hO : OpsAt w vO ops nO) (hN : OutsAt w vN outs nN) (hx : IvsAt w vx xs nx) :
    Calls Tryz.prog 4 #[.agg #[.int .i64 V, vO, vN], vx] w fun e w' => e = .returned (.bool true) ∧ Below w.heap.size w w' := by
  have EV : ∀ W, Below w.heap.size w W → Calls Tryz.prog 33 #[.agg #[.int .i64 V, vO, vN], vx] W (EvalRes W (evalE V nO ops nN outs xs nx) (outF ops outs xs) nN) := fun W hW => eval_c (hO.below hW) (hN.below hW) (hx.below hW)
  have RN : ∀ W, Below w.heap.size w W → Calls Tryz.prog 34 #[.agg #[.int .i64 V, vO, vN], vx, .bool false] W (RunRes W (evalE V nO ops nN outs xs nx) (outF ops outs xs) nN) := fun W hW => run_c (hO.below hW) (hN.below hW) (hx.below hW)
  obtain ⟨AO, cO, rfl, hO⟩ := hO
  obtain ⟨AN, cN, rfl, hN⟩ := hN
  clear hO hN hx
  have b0 : Below w.heap.size w (w.alloc (Obj.cells #[.int .i64 V, .slice AO nO cO, .slice AN nN cN] 45)) := (Below.refl _ _).alloc (Nat.le_refl _) _
  have SC := to_later (short_c (V := V) (AO := AO) (AN := AN) (nO := nO) (nN := nN) (cO := cO) (cN := cN) (w.alloc (Obj.cells #[.int .i64 V, .slice AO nO cO, .slice AN nN cN] 45)))
  generalize evalE V nO ops nN outs xs nx = E at *
  generalize outF ops outs xs = ys at *
  generalize (decide ((nO : Int) ≤ 120) && decide ((nN : Int) ≤ 40)) = sh at *
  clear b0
  cases sh
  · clear EV RN
    go_enter Tryz.func4, Tryz.ntmps4
    go_wp2_with (go_at_call 32; (with_reducible refine SC.mono ?_); rintro _ _ ⟨n1, rfl, rfl⟩)
    go_ret
    exact ⟨rfl, by (repeat' (first | (with_reducible exact Below.refl _ _) | (with_reducible assumption) | (with_reducible refine Later.belowOf _ ?_ ?_) | (with_reducible refine Below.alloc ?_ ?_ _) | (with_reducible refine Below.setCell ?_ ?_ _) | (with_reducible refine Below.drewN' _ ?_) | (with_reducible refine Below.drew ?_) | (with_reducible exact Ge.le) | go_size))⟩
  · by_cases hE : E = 0
    · subst hE
      go_enter Tryz.func4, Tryz.ntmps4
      go_wp2_with (first
        | (go_at_call 32; (with_reducible refine SC.mono ?_); rintro _ _ ⟨n1, rfl, rfl⟩)
        | (go_at_call 33; refine (EV _ (by (repeat' (first | (with_reducible exact Below.refl _ _) | (with_reducible assumption) | (with_reducible refine Later.belowOf _ ?_ ?_) | (with_reducible refine Below.alloc ?_ ?_ _) | (with_reducible refine Below.setCell ?_ ?_ _) | (with_reducible refine Below.drewN' _ ?_) | (with_reducible refine Below.drew ?_) | (with_reducible exact Ge.le) | go_size)))).mono ?_; rintro _ w2 ⟨va, rfl, ha1, ha2, hb2⟩; replace ha2 := (ha2 rfl).ivs; clear ha1 EV; obtain ⟨n2, rfl⟩ : ∃ n2 : Later n1.val, w2 = n2.val := ⟨⟨w2, hb2⟩, rfl⟩; clear hb2)
        | (go_at_call 34; refine (RN _ (by (repeat' (first | (with_reducible exact Below.refl _ _) | (with_reducible assumption) | (with_reducible refine Later.belowOf _ ?_ ?_) | (with_reducible refine Below.alloc ?_ ?_ _) | (with_reducible refine Below.setCell ?_ ?_ _) | (with_reducible refine Below.drewN' _ ?_) | (with_reducible refine Below.drew ?_) | (with_reducible exact Ge.le) | go_size)))).mono ?_; rintro _ w3 ⟨vb, vd, rfl, hc1, hc2, hb3⟩; replace hc2 := (hc2 rfl).ivs; replace ha2 := ha2.below hb3; have SM := same4_c ha2 hc2; clear hc1 RN ha2 hc2; obtain ⟨n3, rfl⟩ : ∃ n3 : Later n2.val, w3 = n3.val := ⟨⟨w3, hb3⟩, rfl⟩; clear hb3)
        | (go_at_call 35; (with_reducible refine SM.mono ?_); rintro _ _ ⟨n4, rfl, rfl⟩))
      go_ret
      exact ⟨rfl, by (repeat' (first | (with_reducible exact Below.refl _ _) | (with_reducible assumption) | (with_reducible refine Later.belowOf _ ?_ ?_) | (with_reducible refine Below.alloc ?_ ?_ _) | (with_reducible refine Below.setCell ?_ ?_ _) | (with_reducible refine Below.drewN' _ ?_) | (with_reducible refine Below.drew ?_) | (with_reducible exact Ge.le) | go_size))⟩
    · go_enter Tryz.func4, Tryz.ntmps4
      go_wp2_with (first
        | (go_at_call 32; (with_reducible refine SC.mono ?_); rintro _ _ ⟨n1, rfl, rfl⟩)
        | (go_at_call 33; refine (EV _ (by (repeat' (first | (with_reducible exact Below.refl _ _) | (with_reducible assumption) | (with_reducible refine Later.belowOf _ ?_ ?_) | (with_reducible refine Below.alloc ?_ ?_ _) | (with_reducible refine Below.setCell ?_ ?_ _) | (with_reducible refine Below.drewN' _ ?_) | (with_reducible refine Below.drew ?_) | (with_reducible exact Ge.le) | go_size)))).mono ?_; rintro _ w2 ⟨va, rfl, ha1, ha2, hb2⟩; obtain rfl := ha1 hE; clear ha1 ha2 EV; obtain ⟨n2, rfl⟩ : ∃ n2 : Later n1.val, w2 = n2.val := ⟨⟨w2, hb2⟩, rfl⟩; clear hb2)
        | (go_at_call 34; refine (RN _ (by (repeat' (first | (with_reducible exact Below.refl _ _) | (with_reducible assumption) | (with_reducible refine Later.belowOf _ ?_ ?_) | (with_reducible refine Below.alloc ?_ ?_ _) | (with_reducible refine Below.setCell ?_ ?_ _) | (with_reducible refine Below.drewN' _ ?_) | (with_reducible refine Below.drew ?_) | (with_reducible exact Ge.le) | go_size)))).mono ?_; rintro _ w3 ⟨vb, vd, rfl, hc1, hc2, hb3⟩; obtain rfl := hc1 hE; have SM := same4_c (ivs_nil w3 ys) (ivs_nil w3 ys); clear hc1 hc2 RN; obtain ⟨n3, rfl⟩ : ∃ n3 : Later n2.val, w3 = n3.val := ⟨⟨w3, hb3⟩, rfl⟩; clear hb3)
        | (go_at_call 35; (with_reducible refine SM.mono ?_); rintro _ _ ⟨n4, rfl, rfl⟩))
      go_ret
      exact ⟨rfl, by (repeat' (first | (with_reducible exact Below.refl _ _) | (with_reducible assumption) | (with_reducible refine Later.belowOf _ ?_ ?_) | (with_reducible refine Below.alloc ?_ ?_ _) | (with_reducible refine Below.setCell ?_ ?_ _) | (with_reducible refine Below.drewN' _ ?_) | (with_reducible refine Below.drew ?_) | (with_reducible exact Ge.le) | go_size))⟩

theorem tapeEvals_go (V : Int) (vO vN : Value) (ops : Nat → OpT) (nO : Nat) (outs : Nat → Int) (nN : Nat) (A : Option Addr) (nx c : Nat) (xs : Nat → Nat × Nat) {w0 : World} (hO : OpsAt w0 vO ops nO) (hN : OutsAt w0 vN outs nN) (hx : IvsAt w0 (.slice A nx c) xs nx) (w : World) (e : w = w0 := by rfl) :
    Calls Tryz.prog 4 #[.agg #[.int .i64 V, vO, vN], .slice A nx c] w fun e w' => e = .returned (.bool true) ∧ Below w.heap.size w w' := by
  subst e
  exact tapeEvals_walk V vO vN ops nO outs nN _ xs nx w hO hN hx

set_option maxRecDepth 100000 in
theorem tapeEvals_lifted (os : Os) (started : os.Started) (H : Type) (enc : TypeId × Value → H) :
    ReturnsInHanded {} Tryz.checked os 4 .any (Rows.tapeEvalsSpec.pre6 enc Tryz.prog Tryz.f4 Rows.tapeEvalsRow.domain false) (Rows.tapeEvalsSpec.post enc Tryz.prog Tryz.f4 false true false false) := by
  refine returnsInHanded_of_change (C := Tryz.checked) Tryz.own started (by kernel_rfl) Tryz.func4
    (ChangeSpec.witness6 (enc := enc) (C := Tryz.checked) false ⟨#[], #[(.agg #[.int .i64 0, .slice none 0 0, .slice none 0 0]), (.slice none 0 0)], []⟩ 8 (by kernel_rfl) (by kernel_rfl) (by kernel_rfl) (by kernel_rfl)) ?_
  intro W base args ds gs before hval0 hW hcnd _
  have hval : ∀ (j : Nat) t v, Tryz.f4.params[j]? = some t → args[j]? = some v → Value.okWide Tryz.prog W .any base t v := hval0
  have hW' := hW
  obtain ⟨p, q, hA0, hV, rfl, hfz, hnd⟩ := hW
  have hA : DataW.TrodAll enc Tryz.prog W 0 (fun _ => true) true Tryz.f4.params.toList args.toList ds p := hA0
  rw [Tryz.params4] at hA hval
  obtain ⟨v0, v1, d0, d1, p0, p1, rfl, rfl, rfl, h0, h1⟩ := trodAll_two hA
  obtain ⟨rfl, rfl⟩ := trodVars_none hV
  obtain ⟨x0_0, x0_1, x0_2, x0_3, x0_4, x0_5, x0_6, rfl, k0_0, k0_1⟩ := arg_tape (hval 0 45 v0 rfl rfl) h0
  obtain ⟨x1_0, x1_1, x1_2, x1_3, rfl, k1_0⟩ := arg_ivs (hval 1 46 v1 rfl rfl) h1
  refine (tapeEvals_go x0_0 x0_1 x0_2 x0_3 x0_4 x0_5 x0_6 x1_0 x1_1 x1_2 x1_3 k0_0 k0_1 k1_0 W).mono fun e W' ⟨he, hb⟩ => ?_
  subst he
  exact ⟨_, rfl, law_post rfl hW' (by kernel_rfl) (by kernel_rfl) rfl hb⟩

theorem tapeEvals_holds : Rows.TapeEvalsSaid :=
  OpenClaim.holds_of_wide 4 Tryz.f4 rfl rfl rfl rfl rfl rfl rfl ⟨rfl, rfl, rfl, rfl, rfl⟩ rfl rfl rfl rfl rfl (by kernel_rfl) Tryz.func4 (by kernel_rfl)
    (of_decide_eq_true (by kernel_rfl)) (by unfold Func.isWrapper; rw [if_neg (of_decide_eq_false (by kernel_rfl))]; exact ⟨rfl, rfl⟩)
    (fun os started H enc _ => tapeEvals_lifted os started H enc)
end Go.Proofs.YtpkgpkabmechkaaGreat
