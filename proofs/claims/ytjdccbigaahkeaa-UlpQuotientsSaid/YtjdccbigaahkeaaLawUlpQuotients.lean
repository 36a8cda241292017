/- UlpQuotients: the quotients of any two values are the exact ones, rounded to the side that is asked for: for every input the law returns true. -/
import Derived.Test.YtjdccbigaahkeaaW35
namespace Go.Proofs.Ytjdccbigaahkeaa
set_option linter.unusedSimpArgs false
set_option linter.unusedVariables false
open Go.ChangeShapes Go.WideShapes Go.ChangeAt Go.RowKit Go.Joins
open Fl

set_option maxHeartbeats 2000000 in
theorem ulpQuotients_walk (a b : Nat) (dir : Int) (ha : a < 18446744073709551616) (hb : b < 18446744073709551616) (h1 : -9223372036854775808 ≤ dir) (h2 : dir ≤ 9223372036854775807) :
    Gives 9 #[(.float .f64 a), (.float .f64 b), .int .i64 dir] (.bool true) := by
  intro w
  have A1 := div_any a b dir ha hb
  have A2 := div1_any a b dir ha hb
  generalize divS a b dir = s at *
  clear ha hb
  go_enter Try.func9, Try.ntmps9
  go_wp2_with (fail)
  go_at_call 52
  refine (A1.go _).mono ?_
  rintro _ _ ⟨r1, k1, b1, v1, rfl, rfl⟩
  have T1 := same1_eqv v1 (Eqv.rfl (r := s))
  have T1' := Lib.hid v1
  clear v1
  go_wp2_with (first | (go_at_call 53; refine (A2.go _).mono ?_; rintro _ _ ⟨k, rfl, rfl⟩) | (go_at_call 30; (with_reducible refine (T1.go _).mono ?_); rintro _ _ ⟨k, rfl, rfl⟩))
  go_ret
  exact ⟨rfl, by (repeat' (first | (with_reducible exact Below.refl _ _) | (with_reducible assumption) | (with_reducible refine Later.belowOf _ ?_ ?_) | (with_reducible refine Below.alloc ?_ ?_ _) | (with_reducible refine Below.setCell ?_ ?_ _) | (with_reducible refine Below.drewN' _ ?_) | (with_reducible refine Below.drew ?_) | (with_reducible exact Ge.le) | go_size))⟩

set_option maxRecDepth 100000 in
theorem ulpQuotients_lifted (os : Os) (started : os.Started) (H : Type) (enc : TypeId × Value → H) :
    ReturnsInHanded {} Try.checked os 9 .any (Rows.ulpQuotientsSpec.pre6 enc Try.prog Try.f9 Rows.ulpQuotientsRow.domain false) (Rows.ulpQuotientsSpec.post enc Try.prog Try.f9 false true false false) := by
  refine returnsInHanded_of_change (C := Try.checked) Try.own started (by kernel_rfl) Try.func9
    (ChangeSpec.witness6 (enc := enc) (C := Try.checked) false ⟨#[], #[(.float .f64 0), (.float .f64 0), (.int .i64 0)], []⟩ 8 (by kernel_rfl) (by kernel_rfl) (by kernel_rfl) (by kernel_rfl)) ?_
  intro W base args ds gs before hval0 hW hcnd _
  have hval : ∀ (j : Nat) t v, Try.f9.params[j]? = some t → args[j]? = some v → Value.okWide Try.prog W .any base t v := hval0
  have hW' := hW
  obtain ⟨p, q, hA0, hV, rfl, hfz, hnd⟩ := hW
  have hA : DataW.TrodAll enc Try.prog W 0 (fun _ => true) true Try.f9.params.toList args.toList ds p := hA0
  rw [Try.params9] at hA hval
  obtain ⟨v0, v1, v2, d0, d1, d2, p0, p1, p2, rfl, rfl, rfl, h0, h1, h2⟩ := trodAll_three hA
  obtain ⟨rfl, rfl⟩ := trodVars_none hV
  obtain ⟨x0_0, rfl, k0_0⟩ := arg_float (hval 0 22 v0 rfl rfl) h0
  obtain ⟨x1_0, rfl, k1_0⟩ := arg_float (hval 1 22 v1 rfl rfl) h1
  obtain ⟨x2_0, rfl, k2_0, k2_1⟩ := arg_int (hval 2 3 v2 rfl rfl) h2
  refine (ulpQuotients_walk x0_0 x1_0 x2_0 k0_0 k1_0 k2_0 k2_1 W).mono fun e W' ⟨he, hb⟩ => ?_
  subst he
  exact ⟨_, rfl, law_post rfl hW' (by kernel_rfl) (by kernel_rfl) rfl hb⟩

theorem ulpQuotients_holds : Rows.UlpQuotientsSaid :=
  OpenClaim.holds_of_wide 9 Try.f9 rfl rfl rfl rfl rfl rfl rfl ⟨rfl, rfl, rfl, rfl, rfl⟩ rfl rfl rfl rfl rfl (by kernel_rfl) Try.func9 (by kernel_rfl)
    (of_decide_eq_true (by kernel_rfl)) (by unfold Func.isWrapper; rw [if_neg (of_decide_eq_false (by kernel_rfl))]; exact ⟨rfl, rfl⟩)
    (fun os started H enc _ => ulpQuotients_lifted os started H enc)
end Go.Proofs.Ytjdccbigaahkeaa
