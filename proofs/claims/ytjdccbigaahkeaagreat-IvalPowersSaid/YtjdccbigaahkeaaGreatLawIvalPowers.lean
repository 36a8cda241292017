/- IvalPowers: roots of intervals are the least intervals; powers are just those that the document says: for every input the law returns true. -/
import Derived.Test.YtjdccbigaahkeaaGreatW56
namespace Go.Proofs.YtjdccbigaahkeaaGreat
set_option linter.unusedSimpArgs false
set_option linter.unusedVariables false
open Go.ChangeShapes Go.WideShapes Go.ChangeAt Go.RowKit Go.Joins
open Fl

set_option maxHeartbeats 2000000 in
theorem ivalPowers_walk (a b : Nat) (n : Int) (ha : a < 18446744073709551616) (hb : b < 18446744073709551616) (h1 : -9223372036854775808 ≤ n) (h2 : n ≤ 9223372036854775807) :
    Gives 3 #[(.agg #[.float .f64 a, .float .f64 b]), .int .i64 n] (.bool true) := by
  intro w
  have a1 := sqrt_ival_any a b ha hb
  have a2 := sqrt_ref_any a b ha hb
  have a3 := pow_ival_any a b n ha hb
  have a4 := pow_ref_any a b n ha hb
  clear ha hb h1 h2
  generalize sqrtI a b = r1 at *
  generalize powI a b n = r2 at *
  go_enter Tryz.func3, Tryz.ntmps3
  go_wp2_with (fail)
  refine wp_region_later (by kernel_rfl) (by kernel_rfl) ?_
  repeat (go_big_quiet_step (first | (go_at_call 5; (with_reducible exact a1.later _)) | (go_at_call 6; (with_reducible exact a2.later _)) | (go_at_call 7; (with_reducible exact a3.later _)) | (go_at_call 8; (with_reducible exact a4.later _)) | (go_at_call 4; (with_reducible exact (same2_refl _ _).later _))))
  (refine wpQuiet_nil ?_; rintro _ ⟨nq, rfl⟩)
  go_wp2
  go_ret
  exact ⟨rfl, by (repeat' (first | (with_reducible exact Below.refl _ _) | (with_reducible assumption) | (with_reducible refine Later.belowOf _ ?_ ?_) | (with_reducible refine Below.alloc ?_ ?_ _) | (with_reducible refine Below.setCell ?_ ?_ _) | (with_reducible refine Below.drewN' _ ?_) | (with_reducible refine Below.drew ?_) | (with_reducible exact Ge.le) | go_size))⟩

set_option maxRecDepth 100000 in
theorem ivalPowers_lifted (os : Os) (started : os.Started) (H : Type) (enc : TypeId × Value → H) :
    ReturnsInHanded {} Tryz.checked os 3 .any (Rows.ivalPowersSpec.pre6 enc Tryz.prog Tryz.f3 Rows.ivalPowersRow.domain false) (Rows.ivalPowersSpec.post enc Tryz.prog Tryz.f3 false true false false) := by
  refine returnsInHanded_of_change (C := Tryz.checked) Tryz.own started (by kernel_rfl) Tryz.func3
    (ChangeSpec.witness6 (enc := enc) (C := Tryz.checked) false ⟨#[], #[(.agg #[.float .f64 0, .float .f64 0]), (.int .i64 0)], []⟩ 8 (by kernel_rfl) (by kernel_rfl) (by kernel_rfl) (by kernel_rfl)) ?_
  intro W base args ds gs before hval0 hW hcnd _
  have hval : ∀ (j : Nat) t v, Tryz.f3.params[j]? = some t → args[j]? = some v → Value.okWide Tryz.prog W .any base t v := hval0
  have hW' := hW
  obtain ⟨p, q, hA0, hV, rfl, hfz, hnd⟩ := hW
  have hA : DataW.TrodAll enc Tryz.prog W 0 (fun _ => true) true Tryz.f3.params.toList args.toList ds p := hA0
  rw [Tryz.params3] at hA hval
  obtain ⟨v0, v1, d0, d1, p0, p1, rfl, rfl, rfl, h0, h1⟩ := trodAll_two hA
  obtain ⟨rfl, rfl⟩ := trodVars_none hV
  obtain ⟨x0_0, x0_1, rfl, k0_0, k0_1⟩ := arg_iv (hval 0 24 v0 rfl rfl) h0
  obtain ⟨x1_0, rfl, k1_0, k1_1⟩ := arg_int (hval 1 3 v1 rfl rfl) h1
  refine (ivalPowers_walk x0_0 x0_1 x1_0 k0_0 k0_1 k1_0 k1_1 W).mono fun e W' ⟨he, hb⟩ => ?_
  subst he
  exact ⟨_, rfl, law_post rfl hW' (by kernel_rfl) (by kernel_rfl) rfl hb⟩

theorem ivalPowers_holds : Rows.IvalPowersSaid :=
  OpenClaim.holds_of_wide 3 Tryz.f3 rfl rfl rfl rfl rfl rfl rfl ⟨rfl, rfl, rfl, rfl, rfl⟩ rfl rfl rfl rfl rfl (by kernel_rfl) Tryz.func3 (by kernel_rfl)
    (of_decide_eq_true (by kernel_rfl)) (by unfold Func.isWrapper; rw [if_neg (of_decide_eq_false (by kernel_rfl))]; exact ⟨rfl, rfl⟩)
    (fun os started H enc _ => ivalPowers_lifted os started H enc)
end Go.Proofs.YtjdccbigaahkeaaGreat
