/- IvalShapes: which intervals may be, and those made of two ends, or of a number, are as the document says: for every input the law returns true. -/
import Derived.Test.YtjdccbigaahkeaaW2
import Derived.Test.YtjdccbigaahkeaaEnd
namespace Go.Proofs.Ytjdccbigaahkeaa
set_option linter.unusedSimpArgs false
set_option linter.unusedVariables false
open Go.ChangeShapes Go.WideShapes Go.ChangeAt Go.RowKit Go.Joins
open Fl

theorem beq_self (b : Bool) : (b == b) = true := by cases b <;> rfl

set_option maxHeartbeats 2000000 in
theorem ivalShapes_walk (a b lo hi : Nat) (ha : a < 18446744073709551616) (hb : b < 18446744073709551616) (hl : lo < 18446744073709551616) (hh : hi < 18446744073709551616) :
    Gives 3 #[(.agg #[.float .f64 a, .float .f64 b]), (.float .f64 lo), (.float .f64 hi)] (.bool true) := by
  intro w
  have r2 := right2_any a b ha hb
  have m1 := make_any lo hi hl hh
  have m2 := make2_any lo hi hl hh
  have p1 := point_any lo hl
  have m3 := make2_any lo lo hl hl
  clear ha hb hl hh
  go_enter Try.func3, Try.ntmps3
  go_wp2_with (fail)
  refine wp_region_later (by kernel_rfl) (by kernel_rfl) ?_
  repeat (go_big_quiet_step (first | (go_at_call 20; (with_reducible exact (right_any _ _).later _)) | (go_at_call 21; (with_reducible exact r2.later _)) | (go_at_call 23; (with_reducible exact m1.later _)) | (go_at_call 25; (with_reducible exact p1.later _)) | (go_at_call 24; first | (with_reducible exact m2.later _) | (with_reducible exact m3.later _)) | (go_at_call 22; (with_reducible exact (same2_refl _ _).later _)) | (go_at_call 26; (with_reducible exact empty_any.later _)) | (go_at_call 28; (with_reducible exact whole_any.later _)) | (go_at_call 27; (with_reducible exact empty2_any.later _)) | (go_at_call 29; (with_reducible exact whole2_any.later _))))
  (refine wpQuiet_nil ?_; rintro _ ⟨nq, rfl⟩)
  go_wp2
  go_ret
  exact ⟨rfl, by (repeat' (first | (with_reducible exact Below.refl _ _) | (with_reducible assumption) | (with_reducible refine Later.belowOf _ ?_ ?_) | (with_reducible refine Below.alloc ?_ ?_ _) | (with_reducible refine Below.setCell ?_ ?_ _) | (with_reducible refine Below.drewN' _ ?_) | (with_reducible refine Below.drew ?_) | (with_reducible exact Ge.le) | go_size))⟩

set_option maxRecDepth 100000 in
theorem ivalShapes_lifted (os : Os) (started : os.Started) (H : Type) (enc : TypeId × Value → H) :
    ReturnsInHanded {} Try.checked os 3 .any (Rows.ivalShapesSpec.pre6 enc Try.prog Try.f3 Rows.ivalShapesRow.domain false) (Rows.ivalShapesSpec.post enc Try.prog Try.f3 false true false false) := by
  refine returnsInHanded_of_change (C := Try.checked) Try.own started (by kernel_rfl) Try.func3
    (ChangeSpec.witness6 (enc := enc) (C := Try.checked) false ⟨#[], #[(.agg #[.float .f64 0, .float .f64 0]), (.float .f64 0), (.float .f64 0)], []⟩ 8 (by kernel_rfl) (by kernel_rfl) (by kernel_rfl) (by kernel_rfl)) ?_
  intro W base args ds gs before hval0 hW hcnd _
  have hval : ∀ (j : Nat) t v, Try.f3.params[j]? = some t → args[j]? = some v → Value.okWide Try.prog W .any base t v := hval0
  have hW' := hW
  obtain ⟨p, q, hA0, hV, rfl, hfz, hnd⟩ := hW
  have hA : DataW.TrodAll enc Try.prog W 0 (fun _ => true) true Try.f3.params.toList args.toList ds p := hA0
  rw [Try.params3] at hA hval
  obtain ⟨v0, v1, v2, d0, d1, d2, p0, p1, p2, rfl, rfl, rfl, h0, h1, h2⟩ := trodAll_three hA
  obtain ⟨rfl, rfl⟩ := trodVars_none hV
  obtain ⟨x0_0, x0_1, rfl, k0_0, k0_1⟩ := arg_iv (hval 0 24 v0 rfl rfl) h0
  obtain ⟨x1_0, rfl, k1_0⟩ := arg_float (hval 1 22 v1 rfl rfl) h1
  obtain ⟨x2_0, rfl, k2_0⟩ := arg_float (hval 2 22 v2 rfl rfl) h2
  refine (ivalShapes_walk x0_0 x0_1 x1_0 x2_0 k0_0 k0_1 k1_0 k2_0 W).mono fun e W' ⟨he, hb⟩ => ?_
  subst he
  exact ⟨_, rfl, law_post rfl hW' (by kernel_rfl) (by kernel_rfl) rfl hb⟩

theorem ivalShapes_holds : Rows.IvalShapesSaid :=
  OpenClaim.holds_of_wide 3 Try.f3 rfl rfl rfl rfl rfl rfl rfl ⟨rfl, rfl, rfl, rfl, rfl⟩ rfl rfl rfl rfl rfl (by kernel_rfl) Try.func3 (by kernel_rfl)
    (of_decide_eq_true (by kernel_rfl)) (by unfold Func.isWrapper; rw [if_neg (of_decide_eq_false (by kernel_rfl))]; exact ⟨rfl, rfl⟩)
    (fun os started H enc _ => ivalShapes_lifted os started H enc)
end Go.Proofs.Ytjdccbigaahkeaa
