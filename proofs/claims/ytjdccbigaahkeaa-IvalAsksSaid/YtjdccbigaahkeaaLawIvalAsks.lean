/- IvalAsks: what an interval holds, whether it lies in another one, strictly too, is as the document says: for every input the law returns true. -/
import Derived.Test.YtjdccbigaahkeaaW4
import Derived.Test.YtjdccbigaahkeaaEnd
namespace Go.Proofs.Ytjdccbigaahkeaa
set_option linter.unusedSimpArgs false
set_option linter.unusedVariables false
open Go.ChangeShapes Go.WideShapes Go.ChangeAt Go.RowKit Go.Joins
open Fl

set_option maxHeartbeats 2000000 in
theorem ivalAsks_walk (a b c d v : Nat) (ha : a < 18446744073709551616) (hb : b < 18446744073709551616) (hc : c < 18446744073709551616) (hd : d < 18446744073709551616) (hv : v < 18446744073709551616) :
    Gives 5 #[(.agg #[.float .f64 a, .float .f64 b]), (.agg #[.float .f64 c, .float .f64 d]), (.float .f64 v)] (.bool true) := by
  intro w
  have a1 := has_any a b v hv
  have a2 := has_ref_any a b v ha hb
  have a3 := inside_any a b c d
  have a4 := inside_ref_any a b c d ha hb hc hd
  have a5 := strict_any a b c d hc
  have a6 := strict_ref_any a b c d ha hb hc hd
  clear ha hb hc hd hv
  go_enter Try.func5, Try.ntmps5
  go_wp2_with (fail)
  refine wp_region_later (by kernel_rfl) (by kernel_rfl) ?_
  repeat (go_big_quiet_step (first | (go_at_call 35; (with_reducible exact a1.later _)) | (go_at_call 36; (with_reducible exact a2.later _)) | (go_at_call 37; (with_reducible exact a3.later _)) | (go_at_call 38; (with_reducible exact a4.later _)) | (go_at_call 39; (with_reducible exact a5.later _)) | (go_at_call 40; (with_reducible exact a6.later _))))
  (refine wpQuiet_nil ?_; rintro _ ⟨nq, rfl⟩)
  go_wp2
  go_ret
  exact ⟨rfl, by (repeat' (first | (with_reducible exact Below.refl _ _) | (with_reducible assumption) | (with_reducible refine Later.belowOf _ ?_ ?_) | (with_reducible refine Below.alloc ?_ ?_ _) | (with_reducible refine Below.setCell ?_ ?_ _) | (with_reducible refine Below.drewN' _ ?_) | (with_reducible refine Below.drew ?_) | (with_reducible exact Ge.le) | go_size))⟩

set_option maxRecDepth 100000 in
theorem ivalAsks_lifted (os : Os) (started : os.Started) (H : Type) (enc : TypeId × Value → H) :
    ReturnsInHanded {} Try.checked os 5 .any (Rows.ivalAsksSpec.pre6 enc Try.prog Try.f5 Rows.ivalAsksRow.domain false) (Rows.ivalAsksSpec.post enc Try.prog Try.f5 false true false false) := by
  refine returnsInHanded_of_change (C := Try.checked) Try.own started (by kernel_rfl) Try.func5
    (ChangeSpec.witness6 (enc := enc) (C := Try.checked) false ⟨#[], #[(.agg #[.float .f64 0, .float .f64 0]), (.agg #[.float .f64 0, .float .f64 0]), (.float .f64 0)], []⟩ 8 (by kernel_rfl) (by kernel_rfl) (by kernel_rfl) (by kernel_rfl)) ?_
  intro W base args ds gs before hval0 hW hcnd _
  have hval : ∀ (j : Nat) t v, Try.f5.params[j]? = some t → args[j]? = some v → Value.okWide Try.prog W .any base t v := hval0
  have hW' := hW
  obtain ⟨p, q, hA0, hV, rfl, hfz, hnd⟩ := hW
  have hA : DataW.TrodAll enc Try.prog W 0 (fun _ => true) true Try.f5.params.toList args.toList ds p := hA0
  rw [Try.params5] at hA hval
  obtain ⟨v0, v1, v2, d0, d1, d2, p0, p1, p2, rfl, rfl, rfl, h0, h1, h2⟩ := trodAll_three hA
  obtain ⟨rfl, rfl⟩ := trodVars_none hV
  obtain ⟨x0_0, x0_1, rfl, k0_0, k0_1⟩ := arg_iv (hval 0 24 v0 rfl rfl) h0
  obtain ⟨x1_0, x1_1, rfl, k1_0, k1_1⟩ := arg_iv (hval 1 24 v1 rfl rfl) h1
  obtain ⟨x2_0, rfl, k2_0⟩ := arg_float (hval 2 22 v2 rfl rfl) h2
  refine (ivalAsks_walk x0_0 x0_1 x1_0 x1_1 x2_0 k0_0 k0_1 k1_0 k1_1 k2_0 W).mono fun e W' ⟨he, hb⟩ => ?_
  subst he
  exact ⟨_, rfl, law_post rfl hW' (by kernel_rfl) (by kernel_rfl) rfl hb⟩

theorem ivalAsks_holds : Rows.IvalAsksSaid :=
  OpenClaim.holds_of_wide 5 Try.f5 rfl rfl rfl rfl rfl rfl rfl ⟨rfl, rfl, rfl, rfl, rfl⟩ rfl rfl rfl rfl rfl (by kernel_rfl) Try.func5 (by kernel_rfl)
    (of_decide_eq_true (by kernel_rfl)) (by unfold Func.isWrapper; rw [if_neg (of_decide_eq_false (by kernel_rfl))]; exact ⟨rfl, rfl⟩)
    (fun os started H enc _ => ivalAsks_lifted os started H enc)
end Go.Proofs.Ytjdccbigaahkeaa
