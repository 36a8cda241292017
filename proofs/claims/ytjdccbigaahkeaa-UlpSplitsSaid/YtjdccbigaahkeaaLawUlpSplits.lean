/- UlpSplits: any value is taken apart, and any parts are rounded, as the document says; what was taken apart is rounded to itself: for every input the law returns true. -/
import Derived.Test.YtjdccbigaahkeaaW35
namespace Go.Proofs.Ytjdccbigaahkeaa
set_option linter.unusedSimpArgs false
set_option linter.unusedVariables false
open Go.ChangeShapes Go.WideShapes Go.ChangeAt Go.RowKit Go.Joins
open Fl

set_option maxHeartbeats 4000000 in
set_option maxRecDepth 100000 in
theorem ulpSplits_walk (x : Nat) (neg : Bool) (m e dir : Int) (hx : x < 18446744073709551616) (m0 : 0 ≤ m) (m1 : m ≤ 18446744073709551615) (e0 : -9223372036854775808 ≤ e) (e1 : e ≤ 9223372036854775807) (h1 : -9223372036854775808 ≤ dir) (h2 : dir ≤ 9223372036854775807) :
    Gives 6 #[(.float .f64 x), (.agg #[.bool neg, .int .u64 m, .int .i64 e]), .int .i64 dir] (.bool true) := by
  intro w
  have s1 := split_any x hx
  have s2 := split1_any x hx
  have i1 := isNum_any x
  have p1 := roundp_any neg m e dir m0 m1
  have p2 := round1_any neg m.toNat (by omega) e dir e0 e1
  have em : ((m.toNat : Nat) : Int) = m := by omega
  rw [em] at p2
  have qr := qM_range x
  have sm : Gives 30 #[(.float .f64 (partsS neg m e dir)), (.float .f64 (partsS neg m e dir))] (.bool true) := same1_eqv Eqv.rfl Eqv.rfl
  generalize partsS neg m e dir = y at *
  cases nx : nan x
  · rw [nx] at i1
    cases hf : finB x
    · rw [hf] at s1 s2
      have eq1 := eqP_self (qNeg x) (qM x) (qE x)
      generalize qNeg x = a at *
      generalize qM x = b at *
      generalize qE x = c at *
      clear hx nx hf em qr
      go_enter Try.func6, Try.ntmps6
      go_wp2_with (first | (go_at_call 41; refine (s1.go _).mono ?_; rintro _ _ ⟨k, rfl, rfl⟩) | (go_at_call 42; refine (s2.go _).mono ?_; rintro _ _ ⟨k, rfl, rfl⟩) | (go_at_call 43; refine (i1.go _).mono ?_; rintro _ _ ⟨k, rfl, rfl⟩) | (go_at_call 44; refine (p1.go _).mono ?_; rintro _ _ ⟨k, rfl, rfl⟩) | (go_at_call 45; refine (p2.go _).mono ?_; rintro _ _ ⟨k, rfl, rfl⟩) | (go_at_call 30; refine (sm.go _).mono ?_; rintro _ _ ⟨k, rfl, rfl⟩))
      refine wp_region_later (by kernel_rfl) (by kernel_rfl) ?_
      repeat (go_big_quiet_step (first | (go_at_call 44; (with_reducible exact p1.later _)) | (go_at_call 45; (with_reducible exact p2.later _)) | (go_at_call 30; (with_reducible exact sm.later _))))
      (refine wpQuiet_nil ?_; rintro _ ⟨nq, rfl⟩)
      go_wp2
      go_ret
      exact ⟨rfl, by (repeat' (first | (with_reducible exact Below.refl _ _) | (with_reducible assumption) | (with_reducible refine Later.belowOf _ ?_ ?_) | (with_reducible refine Below.alloc ?_ ?_ _) | (with_reducible refine Below.setCell ?_ ?_ _) | (with_reducible refine Below.drewN' _ ?_) | (with_reducible refine Below.drew ?_) | (with_reducible exact Ge.le) | go_size))⟩
    · have ps := parts_self x dir hf
      have p3 := roundp_any (qNeg x) (qM x) (qE x) dir qr.1 (by omega)
      rw [hf] at s1 s2
      have eq1 := eqP_self (qNeg x) (qM x) (qE x)
      generalize partsS (qNeg x) (qM x) (qE x) dir = z at *
      generalize qNeg x = a at *
      generalize qM x = b at *
      generalize qE x = c at *
      clear hx nx hf em qr
      go_enter Try.func6, Try.ntmps6
      go_wp2_with (first | (go_at_call 41; refine (s1.go _).mono ?_; rintro _ _ ⟨k, rfl, rfl⟩) | (go_at_call 42; refine (s2.go _).mono ?_; rintro _ _ ⟨k, rfl, rfl⟩) | (go_at_call 43; refine (i1.go _).mono ?_; rintro _ _ ⟨k, rfl, rfl⟩) | (go_at_call 44; first | ((with_reducible refine (p1.go _).mono ?_); rintro _ _ ⟨k, rfl, rfl⟩) | ((with_reducible refine (p3.go _).mono ?_); rintro _ _ ⟨k, rfl, rfl⟩)) | (go_at_call 45; refine (p2.go _).mono ?_; rintro _ _ ⟨k, rfl, rfl⟩) | (go_at_call 30; refine (sm.go _).mono ?_; rintro _ _ ⟨k, rfl, rfl⟩))
      refine wp_region_later (by kernel_rfl) (by kernel_rfl) ?_
      repeat (go_big_quiet_step (first | (go_at_call 44; (with_reducible exact p1.later _)) | (go_at_call 45; (with_reducible exact p2.later _)) | (go_at_call 30; (with_reducible exact sm.later _))))
      (refine wpQuiet_nil ?_; rintro _ ⟨nq, rfl⟩)
      go_wp2
      go_ret
      exact ⟨rfl, by (repeat' (first | (with_reducible exact Below.refl _ _) | (with_reducible assumption) | (with_reducible refine Later.belowOf _ ?_ ?_) | (with_reducible refine Below.alloc ?_ ?_ _) | (with_reducible refine Below.setCell ?_ ?_ _) | (with_reducible refine Below.drewN' _ ?_) | (with_reducible refine Below.drew ?_) | (with_reducible exact Ge.le) | go_size))⟩
  · have hf : finB x = false := by rw [finB_false]; have := nan_true.1 nx; omega
    have z1 : qNeg x = false := by unfold qNeg; rw [hf]; rfl
    have z2 : qM x = 0 := by unfold qM; rw [hf]; rfl
    have z3 : qE x = 0 := by unfold qE; rw [hf]; rfl
    rw [hf, z1, z2, z3] at s1 s2
    rw [nx] at i1
    have eq1 := eqP_self false 0 0
    clear hx nx hf em qr z1 z2 z3
    go_enter Try.func6, Try.ntmps6
    go_wp2_with (first | (go_at_call 41; refine (s1.go _).mono ?_; rintro _ _ ⟨k, rfl, rfl⟩) | (go_at_call 42; refine (s2.go _).mono ?_; rintro _ _ ⟨k, rfl, rfl⟩) | (go_at_call 43; refine (i1.go _).mono ?_; rintro _ _ ⟨k, rfl, rfl⟩))
    go_ret
    exact ⟨rfl, by (repeat' (first | (with_reducible exact Below.refl _ _) | (with_reducible assumption) | (with_reducible refine Later.belowOf _ ?_ ?_) | (with_reducible refine Below.alloc ?_ ?_ _) | (with_reducible refine Below.setCell ?_ ?_ _) | (with_reducible refine Below.drewN' _ ?_) | (with_reducible refine Below.drew ?_) | (with_reducible exact Ge.le) | go_size))⟩

set_option maxRecDepth 100000 in
theorem ulpSplits_lifted (os : Os) (started : os.Started) (H : Type) (enc : TypeId × Value → H) :
    ReturnsInHanded {} Try.checked os 6 .any (Rows.ulpSplitsSpec.pre6 enc Try.prog Try.f6 Rows.ulpSplitsRow.domain false) (Rows.ulpSplitsSpec.post enc Try.prog Try.f6 false true false false) := by
  refine returnsInHanded_of_change (C := Try.checked) Try.own started (by kernel_rfl) Try.func6
    (ChangeSpec.witness6 (enc := enc) (C := Try.checked) false ⟨#[], #[(.float .f64 0), (.agg #[.bool false, .int .u64 0, .int .i64 0]), (.int .i64 0)], []⟩ 8 (by kernel_rfl) (by kernel_rfl) (by kernel_rfl) (by kernel_rfl)) ?_
  intro W base args ds gs before hval0 hW hcnd _
  have hval : ∀ (j : Nat) t v, Try.f6.params[j]? = some t → args[j]? = some v → Value.okWide Try.prog W .any base t v := hval0
  have hW' := hW
  obtain ⟨p, q, hA0, hV, rfl, hfz, hnd⟩ := hW
  have hA : DataW.TrodAll enc Try.prog W 0 (fun _ => true) true Try.f6.params.toList args.toList ds p := hA0
  rw [Try.params6] at hA hval
  obtain ⟨v0, v1, v2, d0, d1, d2, p0, p1, p2, rfl, rfl, rfl, h0, h1, h2⟩ := trodAll_three hA
  obtain ⟨rfl, rfl⟩ := trodVars_none hV
  obtain ⟨x0_0, rfl, k0_0⟩ := arg_float (hval 0 22 v0 rfl rfl) h0
  obtain ⟨x1_0, x1_1, x1_2, rfl, k1_0, k1_1, k1_2, k1_3⟩ := arg_parts (hval 1 38 v1 rfl rfl) h1
  obtain ⟨x2_0, rfl, k2_0, k2_1⟩ := arg_int (hval 2 3 v2 rfl rfl) h2
  refine (ulpSplits_walk x0_0 x1_0 x1_1 x1_2 x2_0 k0_0 k1_0 k1_1 k1_2 k1_3 k2_0 k2_1 W).mono fun e W' ⟨he, hb⟩ => ?_
  subst he
  exact ⟨_, rfl, law_post rfl hW' (by kernel_rfl) (by kernel_rfl) rfl hb⟩

theorem ulpSplits_holds : Rows.UlpSplitsSaid :=
  OpenClaim.holds_of_wide 6 Try.f6 rfl rfl rfl rfl rfl rfl rfl ⟨rfl, rfl, rfl, rfl, rfl⟩ rfl rfl rfl rfl rfl (by kernel_rfl) Try.func6 (by kernel_rfl)
    (of_decide_eq_true (by kernel_rfl)) (by unfold Func.isWrapper; rw [if_neg (of_decide_eq_false (by kernel_rfl))]; exact ⟨rfl, rfl⟩)
    (fun os started H enc _ => ulpSplits_lifted os started H enc)
end Go.Proofs.Ytjdccbigaahkeaa
