/- UlpRoots: the root of any value is the exact one, rounded to the side that is asked for: for every input the law returns true. -/
import Derived.Test.YtjdccbigaahkeaaW35
namespace Go.Proofs.Ytjdccbigaahkeaa
set_option linter.unusedSimpArgs false
set_option linter.unusedVariables false
open Go.ChangeShapes Go.WideShapes Go.ChangeAt Go.RowKit Go.Joins
open Fl

set_option maxHeartbeats 2000000 in
theorem ulpRoots_walk (a : Nat) (dir : Int) (ha : a < 18446744073709551616) (h1 : -9223372036854775808 ≤ dir) (h2 : dir ≤ 9223372036854775807) :
    Gives 10 #[(.float .f64 a), .int .i64 dir] (.bool true) := by
  intro w
  have A1 := sqrt_any a dir ha
  have A2 := sqrt1_any a dir ha
  generalize rootS a dir = s at *
  clear ha
  go_enter Try.func10, Try.ntmps10
  go_wp2_with (fail)
  go_at_call 54
  refine (A1.go _).mono ?_
  rintro _ _ ⟨r1, k1, b1, v1, rfl, rfl⟩
  have T1 := same1_eqv v1 (Eqv.rfl (r := s))
  have T1' := Lib.hid v1
  clear v1
  go_wp2_with (first | (go_at_call 55; refine (A2.go _).mono ?_; rintro _ _ ⟨k, rfl, rfl⟩) | (go_at_call 30; (with_reducible refine (T1.go _).mono ?_); rintro _ _ ⟨k, rfl, rfl⟩))
  go_ret
  exact ⟨rfl, by (repeat' (first | (with_reducible exact Below.refl _ _) | (with_reducible assumption) | (with_reducible refine Later.belowOf _ ?_ ?_) | (with_reducible refine Below.alloc ?_ ?_ _) | (with_reducible refine Below.setCell ?_ ?_ _) | (with_reducible refine Below.drewN' _ ?_) | (with_reducible refine Below.drew ?_) | (with_reducible exact Ge.le) | go_size))⟩

set_option maxRecDepth 100000 in
theorem ulpRoots_lifted (os : Os) (started : os.Started) (H : Type) (enc : TypeId × Value → H) :
    ReturnsInHanded {} Try.checked os 10 .any (Rows.ulpRootsSpec.pre6 enc Try.prog Try.f10 Rows.ulpRootsRow.domain false) (Rows.ulpRootsSpec.post enc Try.prog Try.f10 false true false false) := by
  refine returnsInHanded_of_change (C := Try.checked) Try.own started (by kernel_rfl) Try.func10
    (ChangeSpec.witness6 (enc := enc) (C := Try.checked) false ⟨#[], #[(.float .f64 0), (.int .i64 0)], []⟩ 8 (by kernel_rfl) (by kernel_rfl) (by kernel_rfl) (by kernel_rfl)) ?_
  intro W base args ds gs before hval0 hW hcnd _
  have hval : ∀ (j : Nat) t v, Try.f10.params[j]? = some t → args[j]? = some v → Value.okWide Try.prog W .any base t v := hval0
  have hW' := hW
  obtain ⟨p, q, hA0, hV, rfl, hfz, hnd⟩ := hW
  have hA : DataW.TrodAll enc Try.prog W 0 (fun _ => true) true Try.f10.params.toList args.toList ds p := hA0
  rw [Try.params10] at hA hval
  obtain ⟨v0, v1, d0, d1, p0, p1, rfl, rfl, rfl, h0, h1⟩ := trodAll_two hA
  obtain ⟨rfl, rfl⟩ := trodVars_none hV
  obtain ⟨x0_0, rfl, k0_0⟩ := arg_float (hval 0 22 v0 rfl rfl) h0
  obtain ⟨x1_0, rfl, k1_0, k1_1⟩ := arg_int (hval 1 3 v1 rfl rfl) h1
  refine (ulpRoots_walk x0_0 x1_0 k0_0 k1_0 k1_1 W).mono fun e W' ⟨he, hb⟩ => ?_
  subst he
  exact ⟨_, rfl, law_post rfl hW' (by kernel_rfl) (by kernel_rfl) rfl hb⟩

theorem ulpRoots_holds : Rows.UlpRootsSaid :=
  OpenClaim.holds_of_wide 10 Try.f10 rfl rfl rfl rfl rfl rfl rfl ⟨rfl, rfl, rfl, rfl, rfl⟩ rfl rfl rfl rfl rfl (by kernel_rfl) Try.func10 (by kernel_rfl)
    (of_decide_eq_true (by kernel_rfl)) (by unfold Func.isWrapper; rw [if_neg (of_decide_eq_false (by kernel_rfl))]; exact ⟨rfl, rfl⟩)
    (fun os started H enc _ => ulpRoots_lifted os started H enc)
end Go.Proofs.Ytjdccbigaahkeaa
