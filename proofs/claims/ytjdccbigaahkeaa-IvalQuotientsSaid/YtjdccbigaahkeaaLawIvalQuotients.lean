/- IvalQuotients: quotients of intervals are the least intervals, also by what holds nought, as the document says: for every input the law returns true. -/
import Derived.Test.YtjdccbigaahkeaaW50
namespace Go.Proofs.Ytjdccbigaahkeaa
set_option linter.unusedSimpArgs false
set_option linter.unusedVariables false
open Go.ChangeShapes Go.WideShapes Go.ChangeAt Go.RowKit Go.Joins
open Fl

set_option maxHeartbeats 2000000 in
theorem ivalQuotients_walk (a b c d : Nat) (ha : a < 18446744073709551616) (hb : b < 18446744073709551616) (hc : c < 18446744073709551616) (hd : d < 18446744073709551616) :
    Gives 13 #[(.agg #[.float .f64 a, .float .f64 b]), (.agg #[.float .f64 c, .float .f64 d])] (.bool true) := by
  intro w
  have a1 := quot_ival_any a b c d ha hb hc hd
  have a2 := quot_ref_any a b c d ha hb hc hd
  clear ha hb hc hd
  generalize quotI a b c d = r1 at *
  go_enter Try.func13, Try.ntmps13
  go_wp2_with (fail)
  refine wp_region_later (by kernel_rfl) (by kernel_rfl) ?_
  repeat (go_big_quiet_step (first | (go_at_call 74; (with_reducible exact a1.later _)) | (go_at_call 75; (with_reducible exact a2.later _)) | (go_at_call 22; (with_reducible exact (same2_refl _ _).later _))))
  (refine wpQuiet_nil ?_; rintro _ ⟨nq, rfl⟩)
  go_wp2
  go_ret
  exact ⟨rfl, by (repeat' (first | (with_reducible exact Below.refl _ _) | (with_reducible assumption) | (with_reducible refine Later.belowOf _ ?_ ?_) | (with_reducible refine Below.alloc ?_ ?_ _) | (with_reducible refine Below.setCell ?_ ?_ _) | (with_reducible refine Below.drewN' _ ?_) | (with_reducible refine Below.drew ?_) | (with_reducible exact Ge.le) | go_size))⟩

set_option maxRecDepth 100000 in
theorem ivalQuotients_lifted (os : Os) (started : os.Started) (H : Type) (enc : TypeId × Value → H) :
    ReturnsInHanded {} Try.checked os 13 .any (Rows.ivalQuotientsSpec.pre6 enc Try.prog Try.f13 Rows.ivalQuotientsRow.domain false) (Rows.ivalQuotientsSpec.post enc Try.prog Try.f13 false true false false) := by
  refine returnsInHanded_of_change (C := Try.checked) Try.own started (by kernel_rfl) Try.func13
    (ChangeSpec.witness6 (enc := enc) (C := Try.checked) false ⟨#[], #[(.agg #[.float .f64 0, .float .f64 0]), (.agg #[.float .f64 0, .float .f64 0])], []⟩ 8 (by kernel_rfl) (by kernel_rfl) (by kernel_rfl) (by kernel_rfl)) ?_
  intro W base args ds gs before hval0 hW hcnd _
  have hval : ∀ (j : Nat) t v, Try.f13.params[j]? = some t → args[j]? = some v → Value.okWide Try.prog W .any base t v := hval0
  have hW' := hW
  obtain ⟨p, q, hA0, hV, rfl, hfz, hnd⟩ := hW
  have hA : DataW.TrodAll enc Try.prog W 0 (fun _ => true) true Try.f13.params.toList args.toList ds p := hA0
  rw [Try.params13] at hA hval
  obtain ⟨v0, v1, d0, d1, p0, p1, rfl, rfl, rfl, h0, h1⟩ := trodAll_two hA
  obtain ⟨rfl, rfl⟩ := trodVars_none hV
  obtain ⟨x0_0, x0_1, rfl, k0_0, k0_1⟩ := arg_iv (hval 0 24 v0 rfl rfl) h0
  obtain ⟨x1_0, x1_1, rfl, k1_0, k1_1⟩ := arg_iv (hval 1 24 v1 rfl rfl) h1
  refine (ivalQuotients_walk x0_0 x0_1 x1_0 x1_1 k0_0 k0_1 k1_0 k1_1 W).mono fun e W' ⟨he, hb⟩ => ?_
  subst he
  exact ⟨_, rfl, law_post rfl hW' (by kernel_rfl) (by kernel_rfl) rfl hb⟩

theorem ivalQuotients_holds : Rows.IvalQuotientsSaid :=
  OpenClaim.holds_of_wide 13 Try.f13 rfl rfl rfl rfl rfl rfl rfl ⟨rfl, rfl, rfl, rfl, rfl⟩ rfl rfl rfl rfl rfl (by kernel_rfl) Try.func13 (by kernel_rfl)
    (of_decide_eq_true (by kernel_rfl)) (by unfold Func.isWrapper; rw [if_neg (of_decide_eq_false (by kernel_rfl))]; exact ⟨rfl, rfl⟩)
    (fun os started H enc _ => ivalQuotients_lifted os started H enc)
end Go.Proofs.Ytjdccbigaahkeaa
