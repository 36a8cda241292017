/- IvalSizes: an interval's middle, width, greatest and least amount are as the document says: for every input the law returns true. -/
import Derived.Test.YtjdccbigaahkeaaW40
namespace Go.Proofs.Ytjdccbigaahkeaa
set_option linter.unusedSimpArgs false
set_option linter.unusedVariables false
open Go.ChangeShapes Go.WideShapes Go.ChangeAt Go.RowKit Go.Joins
open Fl

theorem wid_feq (a b : Nat) : feq (widI a b) (widI a b) = true := by
  rw [feq_self]
  unfold widI
  cases h : noneB a b
  · rw [if_neg Bool.false_ne_true, wid_num h]; rfl
  · rfl
theorem mag_feq (a b : Nat) : feq (magI a b) (magI a b) = true := by
  rw [feq_self]
  unfold magI
  cases h : noneB a b
  · obtain ⟨n1, n2⟩ := nums_of h
    rw [if_neg Bool.false_ne_true]
    have : nan (maxF (rung a) (rung b)) = false := by unfold maxF; split; (rw [nan_rung]; exact n2); (rw [nan_rung]; exact n1)
    rw [this]; rfl
  · rfl
theorem mig_feq (a b : Nat) : feq (migI a b) (migI a b) = true := by
  rw [feq_self]
  unfold migI
  split
  · rfl
  · rename_i h
    have h : noneB a b = false := by
      cases hh : noneB a b
      · rfl
      · rw [hh] at h; exact absurd rfl h
    obtain ⟨n1, n2⟩ := nums_of h
    have : nan (minF (rung a) (rung b)) = false := by unfold minF; split; (rw [nan_rung]; exact n2); (rw [nan_rung]; exact n1)
    rw [this]; rfl

set_option maxHeartbeats 2000000 in
theorem ivalSizes_walk (a b : Nat) (ha : a < 18446744073709551616) (hb : b < 18446744073709551616) :
    Gives 11 #[(.agg #[.float .f64 a, .float .f64 b])] (.bool true) := by
  intro w
  have a1 := mid_any a b ha hb
  have a2 := mid_ref_any a b ha hb
  have a3 := wid_any a b ha hb
  have a4 := wid_ref_any a b ha hb
  have a5 := mag_any a b ha hb
  have a6 := mag_ref_any a b ha hb
  have a7 := mig_any a b ha hb
  have a8 := mig_ref_any a b ha hb
  have f1 := mid_feq ha hb
  have f2 := wid_feq a b
  have f3 := mag_feq a b
  have f4 := mig_feq a b
  clear ha hb
  generalize midA a b = r1 at *
  generalize midR a b = r2 at *
  generalize widI a b = r3 at *
  generalize magI a b = r4 at *
  generalize migI a b = r5 at *
  go_enter Try.func11, Try.ntmps11
  go_wp2_with (fail)
  refine wp_region_later (by kernel_rfl) (by kernel_rfl) ?_
  repeat (go_big_quiet_step (first | (go_at_call 56; (with_reducible exact a1.later _)) | (go_at_call 57; (with_reducible exact a2.later _)) | (go_at_call 58; (with_reducible exact a3.later _)) | (go_at_call 59; (with_reducible exact a4.later _)) | (go_at_call 60; (with_reducible exact a5.later _)) | (go_at_call 61; (with_reducible exact a6.later _)) | (go_at_call 62; (with_reducible exact a7.later _)) | (go_at_call 63; (with_reducible exact a8.later _))))
  (refine wpQuiet_nil ?_; rintro _ ⟨nq, rfl⟩)
  go_wp2
  go_ret
  exact ⟨rfl, by (repeat' (first | (with_reducible exact Below.refl _ _) | (with_reducible assumption) | (with_reducible refine Later.belowOf _ ?_ ?_) | (with_reducible refine Below.alloc ?_ ?_ _) | (with_reducible refine Below.setCell ?_ ?_ _) | (with_reducible refine Below.drewN' _ ?_) | (with_reducible refine Below.drew ?_) | (with_reducible exact Ge.le) | go_size))⟩

set_option maxRecDepth 100000 in
theorem ivalSizes_lifted (os : Os) (started : os.Started) (H : Type) (enc : TypeId × Value → H) :
    ReturnsInHanded {} Try.checked os 11 .any (Rows.ivalSizesSpec.pre6 enc Try.prog Try.f11 Rows.ivalSizesRow.domain false) (Rows.ivalSizesSpec.post enc Try.prog Try.f11 false true false false) := by
  refine returnsInHanded_of_change (C := Try.checked) Try.own started (by kernel_rfl) Try.func11
    (ChangeSpec.witness6 (enc := enc) (C := Try.checked) false ⟨#[], #[(.agg #[.float .f64 0, .float .f64 0])], []⟩ 8 (by kernel_rfl) (by kernel_rfl) (by kernel_rfl) (by kernel_rfl)) ?_
  intro W base args ds gs before hval0 hW hcnd _
  have hval : ∀ (j : Nat) t v, Try.f11.params[j]? = some t → args[j]? = some v → Value.okWide Try.prog W .any base t v := hval0
  have hW' := hW
  obtain ⟨p, q, hA0, hV, rfl, hfz, hnd⟩ := hW
  have hA : DataW.TrodAll enc Try.prog W 0 (fun _ => true) true Try.f11.params.toList args.toList ds p := hA0
  rw [Try.params11] at hA hval
  obtain ⟨v0, d0, rfl, rfl, h0⟩ := trodAll_one hA
  obtain ⟨rfl, rfl⟩ := trodVars_none hV
  obtain ⟨x0_0, x0_1, rfl, k0_0, k0_1⟩ := arg_iv (hval 0 24 v0 rfl rfl) h0
  refine (ivalSizes_walk x0_0 x0_1 k0_0 k0_1 W).mono fun e W' ⟨he, hb⟩ => ?_
  subst he
  exact ⟨_, rfl, law_post rfl hW' (by kernel_rfl) (by kernel_rfl) rfl hb⟩

theorem ivalSizes_holds : Rows.IvalSizesSaid :=
  OpenClaim.holds_of_wide 11 Try.f11 rfl rfl rfl rfl rfl rfl rfl ⟨rfl, rfl, rfl, rfl, rfl⟩ rfl rfl rfl rfl rfl (by kernel_rfl) Try.func11 (by kernel_rfl)
    (of_decide_eq_true (by kernel_rfl)) (by unfold Func.isWrapper; rw [if_neg (of_decide_eq_false (by kernel_rfl))]; exact ⟨rfl, rfl⟩)
    (fun os started H enc _ => ivalSizes_lifted os started H enc)
end Go.Proofs.Ytjdccbigaahkeaa
