/- UlpNeighbours: the float above and the one below any value are just those of the order of all floats: for every input the law returns true. -/
import Derived.Test.YtjdccbigaahkeaaW3
import Derived.Test.YtjdccbigaahkeaaEnd
namespace Go.Proofs.Ytjdccbigaahkeaa
set_option linter.unusedSimpArgs false
set_option linter.unusedVariables false
open Go.ChangeShapes Go.WideShapes Go.ChangeAt Go.RowKit Go.Joins
open Fl

theorem same1_refl (a : Nat) : Gives 30 #[(.float .f64 a), (.float .f64 a)] (.bool true) := by
  have := same1_any a a
  rwa [sameB_refl] at this

set_option maxHeartbeats 2000000 in
theorem ulpNeighbours_walk (x : Nat) (hx : x < 18446744073709551616) : Gives 4 #[(.float .f64 x)] (.bool true) := by
  intro w
  have a1 := next_any x hx
  have a2 := next1_any x hx
  have a3 := prev_any x hx
  have a4 := prev1_any x hx
  clear hx
  go_enter Try.func4, Try.ntmps4
  go_wp2_with (first | (go_at_call 31; refine (a1.go _).mono ?_; rintro _ _ ⟨n, rfl, rfl⟩) | (go_at_call 32; refine (a2.go _).mono ?_; rintro _ _ ⟨n, rfl, rfl⟩) | (go_at_call 33; refine (a3.go _).mono ?_; rintro _ _ ⟨n, rfl, rfl⟩) | (go_at_call 34; refine (a4.go _).mono ?_; rintro _ _ ⟨n, rfl, rfl⟩) | (go_at_call 30; refine ((same1_refl _).go _).mono ?_; rintro _ _ ⟨n, rfl, rfl⟩))
  go_ret
  exact ⟨rfl, by (repeat' (first | (with_reducible exact Below.refl _ _) | (with_reducible assumption) | (with_reducible refine Later.belowOf _ ?_ ?_) | (with_reducible refine Below.alloc ?_ ?_ _) | (with_reducible refine Below.setCell ?_ ?_ _) | (with_reducible refine Below.drewN' _ ?_) | (with_reducible refine Below.drew ?_) | (with_reducible exact Ge.le) | go_size))⟩

set_option maxRecDepth 100000 in
theorem ulpNeighbours_lifted (os : Os) (started : os.Started) (H : Type) (enc : TypeId × Value → H) :
    ReturnsInHanded {} Try.checked os 4 .any (Rows.ulpNeighboursSpec.pre6 enc Try.prog Try.f4 Rows.ulpNeighboursRow.domain false) (Rows.ulpNeighboursSpec.post enc Try.prog Try.f4 false true false false) := by
  refine returnsInHanded_of_change (C := Try.checked) Try.own started (by kernel_rfl) Try.func4
    (ChangeSpec.witness6 (enc := enc) (C := Try.checked) false ⟨#[], #[(.float .f64 0)], []⟩ 8 (by kernel_rfl) (by kernel_rfl) (by kernel_rfl) (by kernel_rfl)) ?_
  intro W base args ds gs before hval0 hW hcnd _
  have hval : ∀ (j : Nat) t v, Try.f4.params[j]? = some t → args[j]? = some v → Value.okWide Try.prog W .any base t v := hval0
  have hW' := hW
  obtain ⟨p, q, hA0, hV, rfl, hfz, hnd⟩ := hW
  have hA : DataW.TrodAll enc Try.prog W 0 (fun _ => true) true Try.f4.params.toList args.toList ds p := hA0
  rw [Try.params4] at hA hval
  obtain ⟨v0, d0, rfl, rfl, h0⟩ := trodAll_one hA
  obtain ⟨rfl, rfl⟩ := trodVars_none hV
  obtain ⟨x0_0, rfl, k0_0⟩ := arg_float (hval 0 22 v0 rfl rfl) h0
  refine (ulpNeighbours_walk x0_0 k0_0 W).mono fun e W' ⟨he, hb⟩ => ?_
  subst he
  exact ⟨_, rfl, law_post rfl hW' (by kernel_rfl) (by kernel_rfl) rfl hb⟩

theorem ulpNeighbours_holds : Rows.UlpNeighboursSaid :=
  OpenClaim.holds_of_wide 4 Try.f4 rfl rfl rfl rfl rfl rfl rfl ⟨rfl, rfl, rfl, rfl, rfl⟩ rfl rfl rfl rfl rfl (by kernel_rfl) Try.func4 (by kernel_rfl)
    (of_decide_eq_true (by kernel_rfl)) (by unfold Func.isWrapper; rw [if_neg (of_decide_eq_false (by kernel_rfl))]; exact ⟨rfl, rfl⟩)
    (fun os started H enc _ => ulpNeighbours_lifted os started H enc)
end Go.Proofs.Ytjdccbigaahkeaa
