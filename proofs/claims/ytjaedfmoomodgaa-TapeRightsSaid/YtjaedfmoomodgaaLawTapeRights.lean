/- TapeRights: whether any tape may be is as the document says: for every input the law returns true. -/
import Derived.Test.YtjaedfmoomodgaaT6
namespace Go.Proofs.Ytjaedfmoomodgaa
set_option linter.unusedSimpArgs false
set_option linter.unusedVariables false
open Go.ChangeShapes Go.WideShapes Go.ChangeAt Go.RowKit Go.Joins
open Fl

theorem calls_later {f : FuncId} {args : Array Value} {v : Value} {w : World} (n : Later w) (h : Calls Try.prog f args n.val fun e w' => e = .returned v ∧ Below n.val.heap.size n.val w') :
    Calls Try.prog f args n.val fun e w'' => e = .returned v ∧ ∃ m : Later w, w'' = m.val :=
  h.mono fun _ w'' ⟨he, hb⟩ => ⟨he, ⟨w'', n.below.trans (hb.mono n.below.size)⟩, rfl⟩

open Classical in
set_option maxHeartbeats 4000000 in
theorem tapeRights_walk (V : Int) (vO vN : Value) (ops : Nat → OpT) (nO : Nat) (outs : Nat → Int) (nN : Nat) (w : World) (hO : OpsAt w vO ops nO) (hN : OutsAt w vN outs nN) :
    Calls Try.prog 3 #[.agg #[.int .i64 V, vO, vN]] w fun e w' => e = .returned (.bool true) ∧ Below w.heap.size w w' := by
  have b0 : Below w.heap.size w (w.alloc (Obj.cells #[.int .i64 V, vO, vN] 25)) := (Below.refl _ _).alloc (Nat.le_refl _) _
  have t1 : ∀ n : Later (w.alloc (Obj.cells #[.int .i64 V, vO, vN] 25)), _ := fun n => calls_later n (tright_any V vO vN ops outs nO nN n.val ((hO.below b0).below n.below) ((hN.below b0).below n.below))
  have t2 : ∀ n : Later (w.alloc (Obj.cells #[.int .i64 V, vO, vN] 25)), _ := fun n => calls_later n (rright_any V vO vN ops outs nO nN n.val ((hO.below b0).below n.below) ((hN.below b0).below n.below))
  by_cases hT : TapeR V nO ops nN outs
  · rw [if_pos hT] at t1
    rw [decide_eq_true hT] at t2
    clear hT hO hN b0
    go_enter Try.func3, Try.ntmps3
    go_wp2_with (fail)
    refine wp_region_later (by kernel_rfl) (by kernel_rfl) ?_
    repeat (go_big_quiet_step (first | (go_at_call 5; exact t1 _) | (go_at_call 6; exact t2 _)))
    (refine wpQuiet_nil ?_; rintro _ ⟨nq, rfl⟩)
    go_wp2
    go_ret
    exact ⟨rfl, by (repeat' (first | (with_reducible exact Below.refl _ _) | (with_reducible assumption) | (with_reducible refine Later.belowOf _ ?_ ?_) | (with_reducible refine Below.alloc ?_ ?_ _) | (with_reducible refine Below.setCell ?_ ?_ _) | (with_reducible refine Below.drewN' _ ?_) | (with_reducible refine Below.drew ?_) | (with_reducible exact Ge.le) | go_size))⟩
  · rw [if_neg hT] at t1
    rw [decide_eq_false hT] at t2
    clear hT hO hN b0
    go_enter Try.func3, Try.ntmps3
    go_wp2_with (fail)
    refine wp_region_later (by kernel_rfl) (by kernel_rfl) ?_
    repeat (go_big_quiet_step (first | (go_at_call 5; exact t1 _) | (go_at_call 6; exact t2 _)))
    (refine wpQuiet_nil ?_; rintro _ ⟨nq, rfl⟩)
    go_wp2
    go_ret
    exact ⟨rfl, by (repeat' (first | (with_reducible exact Below.refl _ _) | (with_reducible assumption) | (with_reducible refine Later.belowOf _ ?_ ?_) | (with_reducible refine Below.alloc ?_ ?_ _) | (with_reducible refine Below.setCell ?_ ?_ _) | (with_reducible refine Below.drewN' _ ?_) | (with_reducible refine Below.drew ?_) | (with_reducible exact Ge.le) | go_size))⟩

theorem tapeRights_go (V : Int) (vO vN : Value) (ops : Nat → OpT) (nO : Nat) (outs : Nat → Int) (nN : Nat) {w0 : World} (hO : OpsAt w0 vO ops nO) (hN : OutsAt w0 vN outs nN) (w : World) (e : w = w0 := by rfl) :
    Calls Try.prog 3 #[.agg #[.int .i64 V, vO, vN]] w fun e w' => e = .returned (.bool true) ∧ Below w.heap.size w w' := by
  subst e
  exact tapeRights_walk V vO vN ops nO outs nN w hO hN

set_option maxRecDepth 100000 in
theorem tapeRights_lifted (os : Os) (started : os.Started) (H : Type) (enc : TypeId × Value → H) :
    ReturnsInHanded {} Try.checked os 3 .any (Rows.tapeRightsSpec.pre6 enc Try.prog Try.f3 Rows.tapeRightsRow.domain false) (Rows.tapeRightsSpec.post enc Try.prog Try.f3 false true false false) := by
  refine returnsInHanded_of_change (C := Try.checked) Try.own started (by kernel_rfl) Try.func3
    (ChangeSpec.witness6 (enc := enc) (C := Try.checked) false ⟨#[], #[(.agg #[.int .i64 0, .slice none 0 0, .slice none 0 0])], []⟩ 8 (by kernel_rfl) (by kernel_rfl) (by kernel_rfl) (by kernel_rfl)) ?_
  intro W base args ds gs before hval0 hW hcnd _
  have hval : ∀ (j : Nat) t v, Try.f3.params[j]? = some t → args[j]? = some v → Value.okWide Try.prog W .any base t v := hval0
  have hW' := hW
  obtain ⟨p, q, hA0, hV, rfl, hfz, hnd⟩ := hW
  have hA : DataW.TrodAll enc Try.prog W 0 (fun _ => true) true Try.f3.params.toList args.toList ds p := hA0
  rw [Try.params3] at hA hval
  obtain ⟨v0, d0, rfl, rfl, h0⟩ := trodAll_one hA
  obtain ⟨rfl, rfl⟩ := trodVars_none hV
  obtain ⟨x0_0, x0_1, x0_2, x0_3, x0_4, x0_5, x0_6, rfl, k0_0, k0_1⟩ := arg_tape (hval 0 25 v0 rfl rfl) h0
  refine (tapeRights_go x0_0 x0_1 x0_2 x0_3 x0_4 x0_5 x0_6 k0_0 k0_1 W).mono fun e W' ⟨he, hb⟩ => ?_
  subst he
  exact ⟨_, rfl, law_post rfl hW' (by kernel_rfl) (by kernel_rfl) rfl hb⟩

theorem tapeRights_holds : Rows.TapeRightsSaid :=
  OpenClaim.holds_of_wide 3 Try.f3 rfl rfl rfl rfl rfl rfl rfl ⟨rfl, rfl, rfl, rfl, rfl⟩ rfl rfl rfl rfl rfl (by kernel_rfl) Try.func3 (by kernel_rfl)
    (of_decide_eq_true (by kernel_rfl)) (by unfold Func.isWrapper; rw [if_neg (of_decide_eq_false (by kernel_rfl))]; exact ⟨rfl, rfl⟩)
    (fun os started H enc _ => tapeRights_lifted os started H enc)
end Go.Proofs.Ytjaedfmoomodgaa
