/- ElemMade: pi and the logarithm of 2 are as near as floats are; Tan, Sinh, Cosh and Tanh are made of the others as the document says: for every input the law returns true. -/
import Derived.Test.YtkmgfbhnioojhaaGreatPmR26
namespace Go.Proofs.YtkmgfbhnioojhaaGreat
set_option linter.unusedSimpArgs false
set_option linter.unusedVariables false
open Go.ChangeShapes Go.WideShapes Go.ChangeAt Go.RowKit Go.Joins
open Fl

set_option maxRecDepth 100000 in
theorem elemMade_lifted (os : Os) (started : os.Started) (H : Type) (enc : TypeId × Value → H) :
    ReturnsInHanded {} Tryz.checked os 7 .any (Rows.elemMadeSpec.pre6 enc Tryz.prog Tryz.f7 Rows.elemMadeRow.domain false) (Rows.elemMadeSpec.post enc Tryz.prog Tryz.f7 false true false false) := by
  refine returnsInHanded_of_change (C := Tryz.checked) Tryz.own started (by kernel_rfl) Tryz.func7
    (ChangeSpec.witness6 (enc := enc) (C := Tryz.checked) false ⟨#[], #[(.agg #[.float .f64 0, .float .f64 0])], []⟩ 8 (by kernel_rfl) (by kernel_rfl) (by kernel_rfl) (by kernel_rfl)) ?_
  intro W base args ds gs before hval0 hW hcnd _
  have hval : ∀ (j : Nat) t v, Tryz.f7.params[j]? = some t → args[j]? = some v → Value.okWide Tryz.prog W .any base t v := hval0
  have hW' := hW
  obtain ⟨p, q, hA0, hV, rfl, hfz, hnd⟩ := hW
  have hA : DataW.TrodAll enc Tryz.prog W 0 (fun _ => true) true Tryz.f7.params.toList args.toList ds p := hA0
  rw [Tryz.params7] at hA hval
  obtain ⟨v0, d0, rfl, rfl, h0⟩ := trodAll_one hA
  obtain ⟨rfl, rfl⟩ := trodVars_none hV
  obtain ⟨x0_0, x0_1, rfl, k0_0, k0_1⟩ := arg_iv (hval 0 24 v0 rfl rfl) h0
  refine (elemMade_walk x0_0 x0_1 k0_0 k0_1 W).mono fun e W' ⟨he, hb⟩ => ?_
  subst he
  exact ⟨_, rfl, law_post rfl hW' (by kernel_rfl) (by kernel_rfl) rfl hb⟩

set_option maxRecDepth 100000 in
theorem elemMade_fact2 : (laidOutB Tryz.pinned.checked.prog) = true := by kernel_rfl
set_option maxRecDepth 100000 in
theorem elemMade_fact3 : (mapsRowed Tryz.pinned.checked.prog) = true := by kernel_rfl
set_option maxRecDepth 100000 in
theorem elemMade_fact10 : (Rows.elemMadeRow.inPlace == Program.inPlace Tryz.pinned.checked.prog 7) = true := by kernel_rfl
set_option maxRecDepth 100000 in
theorem elemMade_fact11 : (Rows.elemMadeRow.unfollowed == Program.unfollowed Tryz.pinned.checked.prog 7) = true := by kernel_rfl
set_option maxRecDepth 100000 in
theorem elemMade_fact12 : (Rows.elemMadeRow.recurses == Program.recurses Tryz.pinned.checked.prog 7) = true := by kernel_rfl
set_option maxRecDepth 100000 in
theorem elemMade_fact13 : (Rows.elemMadeRow.named == Program.varsNamed Tryz.pinned.checked.prog 7) = true := by kernel_rfl
set_option maxRecDepth 100000 in
theorem elemMade_fact23 : (Rows.elemMadeRow.plainKeys == Program.plainKeys Tryz.pinned.checked.prog) = true := by kernel_rfl
set_option maxRecDepth 100000 in
theorem elemMade_fact25 : (Program.stopsHeard Tryz.pinned.checked.prog) = true := by kernel_rfl
set_option maxRecDepth 100000 in
theorem elemMade_fact26 : (Program.mayEnter Tryz.pinned.checked.prog) = true := by kernel_rfl
set_option maxRecDepth 100000 in
theorem elemMade_fact27 : (Rows.elemMadeRow.lifted == Program.liftsFinal Tryz.pinned.checked.prog) = true := by kernel_rfl
theorem elemMade_named : Tryz.pinned.checked.prog.funcNamed Rows.elemMadeRow.func = some 7 := by kernel_rfl
theorem elemMade_and {a b : Bool} (ha : a = true) (hb : b = true) : (a && b) = true := by rw [ha, hb]; rfl
set_option maxRecDepth 100000 in
theorem elemMade_closed : joinedFacts Tryz.pinned.checked.prog 7 Tryz.f7 Rows.elemMadeSpec Rows.elemMadeRow = true := by
  unfold joinedFacts
  refine (elemMade_and (elemMade_and (elemMade_and (elemMade_and (elemMade_and (elemMade_and (elemMade_and (elemMade_and (elemMade_and (elemMade_and (elemMade_and (elemMade_and (elemMade_and (elemMade_and (elemMade_and (elemMade_and (elemMade_and (elemMade_and (elemMade_and (elemMade_and (elemMade_and (elemMade_and (elemMade_and (elemMade_and (elemMade_and (elemMade_and (elemMade_and (elemMade_and (elemMade_and (elemMade_and (elemMade_and ?_ ?_) ?_) ?_) ?_) ?_) ?_) ?_) ?_) ?_) ?_) ?_) ?_) ?_) ?_) ?_) ?_) ?_) ?_) ?_) ?_) ?_) ?_) ?_) ?_) ?_) ?_) ?_) ?_) ?_) ?_) ?_)
  · kernel_rfl
  · exact elemMade_fact2
  · exact elemMade_fact3
  · kernel_rfl
  · kernel_rfl
  · kernel_rfl
  · kernel_rfl
  · kernel_rfl
  · kernel_rfl
  · exact elemMade_fact10
  · exact elemMade_fact11
  · exact elemMade_fact12
  · exact elemMade_fact13
  · kernel_rfl
  · kernel_rfl
  · kernel_rfl
  · kernel_rfl
  · kernel_rfl
  · kernel_rfl
  · kernel_rfl
  · kernel_rfl
  · kernel_rfl
  · exact elemMade_fact23
  · kernel_rfl
  · exact elemMade_fact25
  · exact elemMade_fact26
  · exact elemMade_fact27
  · kernel_rfl
  · kernel_rfl
  · kernel_rfl
  · kernel_rfl
  · kernel_rfl

theorem elemMade_holds : Rows.ElemMadeSaid :=
  OpenClaim.holds_of_wide 7 Tryz.f7 rfl rfl rfl rfl rfl rfl rfl ⟨rfl, rfl, rfl, rfl, rfl⟩ rfl rfl rfl rfl rfl elemMade_named Tryz.func7 elemMade_closed
    (of_decide_eq_true (by kernel_rfl)) (by unfold Func.isWrapper; rw [if_neg (of_decide_eq_false (by kernel_rfl))]; exact ⟨rfl, rfl⟩)
    (fun os started H enc _ => elemMade_lifted os started H enc)
end Go.Proofs.YtkmgfbhnioojhaaGreat
