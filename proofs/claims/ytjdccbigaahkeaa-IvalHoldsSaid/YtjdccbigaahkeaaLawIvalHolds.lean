/- IvalHolds: what is made of two numbers, rounded to the nearest, lies in what is made of intervals that hold them: for every input the law returns true. -/
import Derived.Test.YtjdccbigaahkeaaW58
namespace Go.Proofs.Ytjdccbigaahkeaa
set_option linter.unusedSimpArgs false
set_option linter.unusedVariables false
open Go.ChangeShapes Go.WideShapes Go.ChangeAt Go.RowKit Go.Joins
open Fl

set_option maxHeartbeats 1000000 in
theorem near_any (x y v : Nat) : Gives 85 #[(.agg #[.float .f64 x, .float .f64 y]), (.float .f64 v)] (.bool (fle x v && fle v y)) := by
  intro w
  rcases fot (fle x v) with h0 | h0
  all_goals
    go_enter Try.func85, Try.ntmps85
    go_wp2
    go_ret
    exact ⟨ret_bool (by simp [h0]), by (repeat' (first | (with_reducible exact Below.refl _ _) | (with_reducible assumption) | (with_reducible refine Later.belowOf _ ?_ ?_) | (with_reducible refine Below.alloc ?_ ?_ _) | (with_reducible refine Below.setCell ?_ ?_ _) | (with_reducible refine Below.drewN' _ ?_) | (with_reducible refine Below.drew ?_) | (with_reducible exact Ge.le) | go_size))⟩

theorem next_one : flt 4607182418800017408 (nextB 4607182418800017408) = true := by decide
set_option maxHeartbeats 1000000 in
theorem alive_any : Gives 84 #[] (.bool true) := by
  intro w
  have N := next_any 4607182418800017408 (by decide)
  have h := next_one
  generalize nextB 4607182418800017408 = r at *
  go_enter Try.func84, Try.ntmps84
  go_wp2_with (go_at_call 31; refine (N.go _).mono ?_; rintro _ _ ⟨n, rfl, rfl⟩)
  go_ret
  exact ⟨ret_bool (by simp [h]), by (repeat' (first | (with_reducible exact Below.refl _ _) | (with_reducible assumption) | (with_reducible refine Later.belowOf _ ?_ ?_) | (with_reducible refine Below.alloc ?_ ?_ _) | (with_reducible refine Below.setCell ?_ ?_ _) | (with_reducible refine Below.drewN' _ ?_) | (with_reducible refine Below.drew ?_) | (with_reducible exact Ge.le) | go_size))⟩

set_option maxHeartbeats 8000000 in
set_option maxRecDepth 100000 in
theorem ivalHolds_walk (a b c d p q : Nat) (ha : a < 18446744073709551616) (hb : b < 18446744073709551616) (hc : c < 18446744073709551616) (hd : d < 18446744073709551616) (hp : p < 18446744073709551616) (hq : q < 18446744073709551616) :
    Gives 18 #[(.agg #[.float .f64 a, .float .f64 b]), (.agg #[.float .f64 c, .float .f64 d]), (.float .f64 p), (.float .f64 q)] (.bool true) := by
  intro w
  have al := alive_any
  have e1 := has_any a b p hp
  have e2 := has_any c d q hq
  cases h1 : hasB a b p
  · rw [h1] at e1
    clear ha hb hc hd hp hq h1 e2
    go_enter Try.func18, Try.ntmps18
    go_wp2_with (first | (go_at_call 84; refine (al.go _).mono ?_; rintro _ _ ⟨n, rfl, rfl⟩) | (go_at_call 35; (with_reducible refine (e1.go _).mono ?_); rintro _ _ ⟨n, rfl, rfl⟩))
    go_ret
    exact ⟨rfl, by (repeat' (first | (with_reducible exact Below.refl _ _) | (with_reducible assumption) | (with_reducible refine Later.belowOf _ ?_ ?_) | (with_reducible refine Below.alloc ?_ ?_ _) | (with_reducible refine Below.setCell ?_ ?_ _) | (with_reducible refine Below.drewN' _ ?_) | (with_reducible refine Below.drew ?_) | (with_reducible exact Ge.le) | go_size))⟩
  · rw [h1] at e1
    cases h2 : hasB c d q
    · rw [h2] at e2
      clear ha hb hc hd hp hq h1 h2
      go_enter Try.func18, Try.ntmps18
      go_wp2_with (first | (go_at_call 84; refine (al.go _).mono ?_; rintro _ _ ⟨n, rfl, rfl⟩) | (go_at_call 35; first | ((with_reducible refine (e1.go _).mono ?_); rintro _ _ ⟨n, rfl, rfl⟩) | ((with_reducible refine (e2.go _).mono ?_); rintro _ _ ⟨n, rfl, rfl⟩)))
      go_ret
      exact ⟨rfl, by (repeat' (first | (with_reducible exact Below.refl _ _) | (with_reducible assumption) | (with_reducible refine Later.belowOf _ ?_ ?_) | (with_reducible refine Below.alloc ?_ ?_ _) | (with_reducible refine Below.setCell ?_ ?_ _) | (with_reducible refine Below.drewN' _ ?_) | (with_reducible refine Below.drew ?_) | (with_reducible exact Ge.le) | go_size))⟩
    · rw [h2] at e2
      have I := in_of ha hb h1
      have J := in_of hc hd h2
      have A1 := add_ival_any a b c d ha hb hc hd
      have A2 := (add_any p q 0 hp hq).num (by rw [addS_fin 0 I.fin J.fin]; exact nan_rnd _ _ _)
      have A3 := near_any (sumI a b c d).1 (sumI a b c d).2 (addS p q 0)
      rw [show (fle (sumI a b c d).1 (addS p q 0) && fle (addS p q 0) (sumI a b c d).2) = nearB (sumI a b c d) (addS p q 0) from rfl, holds_add I J] at A3
      have B1 := sub_ival_any a b c d ha hb hc hd
      have B2 := (sub_any p q 0 hp hq).num (by unfold subS; rw [addS_fin 0 I.fin (by rw [finB_fneg]; exact J.fin)]; exact nan_rnd _ _ _)
      have B3 := near_any (diffI a b c d).1 (diffI a b c d).2 (subS p q 0)
      rw [show (fle (diffI a b c d).1 (subS p q 0) && fle (subS p q 0) (diffI a b c d).2) = nearB (diffI a b c d) (subS p q 0) from rfl, holds_sub I J] at B3
      have C1 := mul_ival_any a b c d ha hb hc hd
      have C2 := mul_any p q 0 hp hq
      have C3 := near_any (prodI a b c d).1 (prodI a b c d).2 (mulS p q 0)
      rw [show (fle (prodI a b c d).1 (mulS p q 0) && fle (mulS p q 0) (prodI a b c d).2) = nearB (prodI a b c d) (mulS p q 0) from rfl, holds_mul I J] at C3
      have D1 := neg_any a b ha hb
      have D2 := fneg_eq hp
      have D3 := near_any (negI a b).1 (negI a b).2 (fneg p)
      rw [show (fle (negI a b).1 (fneg p) && fle (fneg p) (negI a b).2) = nearB (negI a b) (fneg p) from rfl, holds_neg I] at D3
      have S1 := sqr_any a b ha hb
      have S2 := mul_any p p 0 hp hp
      have S3 := near_any (sqrI a b).1 (sqrI a b).2 (mulS p p 0)
      rw [show (fle (sqrI a b).1 (mulS p p 0) && fle (mulS p p 0) (sqrI a b).2) = nearB (sqrI a b) (mulS p p 0) from rfl, holds_sqr I] at S3
      have Q : feq q 0 = true ∨ feq q 0 = false ∧ Gives 74 #[(.agg #[.float .f64 a, .float .f64 b]), (.agg #[.float .f64 c, .float .f64 d])] (.agg #[.float .f64 ((quotI a b c d).1), .float .f64 ((quotI a b c d).2)]) ∧ Gives 52 #[(.float .f64 p), (.float .f64 q), .int .i64 0] (.float .f64 (divS p q 0)) ∧ Gives 85 #[(.agg #[.float .f64 ((quotI a b c d).1), .float .f64 ((quotI a b c d).2)]), (.float .f64 (divS p q 0))] (.bool true) := by
        cases hz : feq q 0
        · right
          have hq0 : idx q ≠ 0 := by
            intro hh
            have : feq q 0 = true := feq_true.2 ⟨J.num, by decide, by rw [hh]; decide⟩
            rw [this] at hz; cases hz
          have N := near_any (quotI a b c d).1 (quotI a b c d).2 (divS p q 0)
          have hn := holds_div I J hq0
          rw [show (fle (quotI a b c d).1 (divS p q 0) && fle (divS p q 0) (quotI a b c d).2) = nearB (quotI a b c d) (divS p q 0) from rfl, hn] at N
          unfold nearB at hn
          rw [Bool.and_eq_true] at hn
          exact ⟨rfl, quot_ival_any a b c d ha hb hc hd, (div_any p q 0 hp hq).num (fle_true.1 hn.1).2.1, N⟩
        · exact Or.inl rfl
      have R : flt p 0 = true ∨ flt p 0 = false ∧ Gives 86 #[(.agg #[.float .f64 a, .float .f64 b])] (.agg #[.float .f64 ((sqrtI a b).1), .float .f64 ((sqrtI a b).2)]) ∧ Gives 54 #[(.float .f64 p), .int .i64 0] (.float .f64 (rootS p 0)) ∧ Gives 85 #[(.agg #[.float .f64 ((sqrtI a b).1), .float .f64 ((sqrtI a b).2)]), (.float .f64 (rootS p 0))] (.bool true) := by
        cases hz : flt p 0
        · right
          have hp0 : 0 ≤ idx p := Int.not_lt.1 fun hh => by
            have : flt p 0 = true := flt_true.2 ⟨I.num, by decide, by rw [show idx 0 = 0 by decide]; exact hh⟩
            rw [this] at hz; cases hz
          have N := near_any (sqrtI a b).1 (sqrtI a b).2 (rootS p 0)
          have hn := holds_sqrt I hp hp0
          rw [show (fle (sqrtI a b).1 (rootS p 0) && fle (rootS p 0) (sqrtI a b).2) = nearB (sqrtI a b) (rootS p 0) from rfl, hn] at N
          unfold nearB at hn
          rw [Bool.and_eq_true] at hn
          exact ⟨rfl, sqrt_ival_any a b ha hb, (sqrt_any p 0 hp).num (fle_true.1 hn.1).2.1, N⟩
        · exact Or.inl rfl
      generalize sumI a b c d = z1 at *
      generalize addS p q 0 = v1 at *
      generalize diffI a b c d = z2 at *
      generalize subS p q 0 = v2 at *
      generalize prodI a b c d = z3 at *
      generalize mulS p q 0 = v3 at *
      generalize negI a b = z4 at *
      generalize fneg p = v4 at *
      generalize sqrI a b = z5 at *
      generalize mulS p p 0 = v5 at *
      generalize quotI a b c d = z6 at *
      generalize divS p q 0 = v6 at *
      generalize sqrtI a b = z7 at *
      generalize rootS p 0 = v7 at *
      clear ha hb hc hd hp hq h1 h2 I J
      rcases Q with Q | ⟨Q, Q1, Q2, Q3⟩ <;> rcases R with R | ⟨R, R1, R2, R3⟩
      all_goals
        go_enter Try.func18, Try.ntmps18
        go_wp2_with (first | (go_at_call 84; refine (al.go _).mono ?_; rintro _ _ ⟨n, rfl, rfl⟩) | (go_at_call 35; first | ((with_reducible refine (e1.go _).mono ?_); rintro _ _ ⟨n, rfl, rfl⟩) | ((with_reducible refine (e2.go _).mono ?_); rintro _ _ ⟨n, rfl, rfl⟩)) | (go_at_call 70; (with_reducible refine (A1.go _).mono ?_); rintro _ _ ⟨n, rfl, rfl⟩) | (go_at_call 48; (with_reducible refine (A2.go _).mono ?_); rintro _ _ ⟨n, rfl, rfl⟩) | (go_at_call 72; (with_reducible refine (B1.go _).mono ?_); rintro _ _ ⟨n, rfl, rfl⟩) | (go_at_call 50; (with_reducible refine (B2.go _).mono ?_); rintro _ _ ⟨n, rfl, rfl⟩) | (go_at_call 76; (with_reducible refine (C1.go _).mono ?_); rintro _ _ ⟨n, rfl, rfl⟩) | (go_at_call 46; first | ((with_reducible refine (C2.go _).mono ?_); rintro _ _ ⟨n, rfl, rfl⟩) | ((with_reducible refine (S2.go _).mono ?_); rintro _ _ ⟨n, rfl, rfl⟩)) | (go_at_call 68; (with_reducible refine (D1.go _).mono ?_); rintro _ _ ⟨n, rfl, rfl⟩) | (go_at_call 78; (with_reducible refine (S1.go _).mono ?_); rintro _ _ ⟨n, rfl, rfl⟩) | (go_at_call 74; (with_reducible refine (Q1.go _).mono ?_); rintro _ _ ⟨n, rfl, rfl⟩) | (go_at_call 52; (with_reducible refine (Q2.go _).mono ?_); rintro _ _ ⟨n, rfl, rfl⟩) | (go_at_call 86; (with_reducible refine (R1.go _).mono ?_); rintro _ _ ⟨n, rfl, rfl⟩) | (go_at_call 54; (with_reducible refine (R2.go _).mono ?_); rintro _ _ ⟨n, rfl, rfl⟩) | (go_at_call 85; first | ((with_reducible refine (A3.go _).mono ?_); rintro _ _ ⟨n, rfl, rfl⟩) | ((with_reducible refine (B3.go _).mono ?_); rintro _ _ ⟨n, rfl, rfl⟩) | ((with_reducible refine (C3.go _).mono ?_); rintro _ _ ⟨n, rfl, rfl⟩) | ((with_reducible refine (D3.go _).mono ?_); rintro _ _ ⟨n, rfl, rfl⟩) | ((with_reducible refine (S3.go _).mono ?_); rintro _ _ ⟨n, rfl, rfl⟩) | ((with_reducible refine (Q3.go _).mono ?_); rintro _ _ ⟨n, rfl, rfl⟩) | ((with_reducible refine (R3.go _).mono ?_); rintro _ _ ⟨n, rfl, rfl⟩)))
        go_ret
        exact ⟨rfl, by (repeat' (first | (with_reducible exact Below.refl _ _) | (with_reducible assumption) | (with_reducible refine Later.belowOf _ ?_ ?_) | (with_reducible refine Below.alloc ?_ ?_ _) | (with_reducible refine Below.setCell ?_ ?_ _) | (with_reducible refine Below.drewN' _ ?_) | (with_reducible refine Below.drew ?_) | (with_reducible exact Ge.le) | go_size))⟩

set_option maxRecDepth 100000 in
theorem ivalHolds_lifted (os : Os) (started : os.Started) (H : Type) (enc : TypeId × Value → H) :
    ReturnsInHanded {} Try.checked os 18 .any (Rows.ivalHoldsSpec.pre6 enc Try.prog Try.f18 Rows.ivalHoldsRow.domain false) (Rows.ivalHoldsSpec.post enc Try.prog Try.f18 false true false false) := by
  refine returnsInHanded_of_change (C := Try.checked) Try.own started (by kernel_rfl) Try.func18
    (ChangeSpec.witness6 (enc := enc) (C := Try.checked) false ⟨#[], #[(.agg #[.float .f64 0, .float .f64 0]), (.agg #[.float .f64 0, .float .f64 0]), (.float .f64 0), (.float .f64 0)], []⟩ 8 (by kernel_rfl) (by kernel_rfl) (by kernel_rfl) (by kernel_rfl)) ?_
  intro W base args ds gs before hval0 hW hcnd _
  have hval : ∀ (j : Nat) t v, Try.f18.params[j]? = some t → args[j]? = some v → Value.okWide Try.prog W .any base t v := hval0
  have hW' := hW
  obtain ⟨p, q, hA0, hV, rfl, hfz, hnd⟩ := hW
  have hA : DataW.TrodAll enc Try.prog W 0 (fun _ => true) true Try.f18.params.toList args.toList ds p := hA0
  rw [Try.params18] at hA hval
  obtain ⟨v0, v1, v2, v3, d0, d1, d2, d3, p0, p1, p2, p3, rfl, rfl, rfl, h0, h1, h2, h3⟩ := trodAll_four hA
  obtain ⟨rfl, rfl⟩ := trodVars_none hV
  obtain ⟨x0_0, x0_1, rfl, k0_0, k0_1⟩ := arg_iv (hval 0 24 v0 rfl rfl) h0
  obtain ⟨x1_0, x1_1, rfl, k1_0, k1_1⟩ := arg_iv (hval 1 24 v1 rfl rfl) h1
  obtain ⟨x2_0, rfl, k2_0⟩ := arg_float (hval 2 22 v2 rfl rfl) h2
  obtain ⟨x3_0, rfl, k3_0⟩ := arg_float (hval 3 22 v3 rfl rfl) h3
  refine (ivalHolds_walk x0_0 x0_1 x1_0 x1_1 x2_0 x3_0 k0_0 k0_1 k1_0 k1_1 k2_0 k3_0 W).mono fun e W' ⟨he, hb⟩ => ?_
  subst he
  exact ⟨_, rfl, law_post rfl hW' (by kernel_rfl) (by kernel_rfl) rfl hb⟩

theorem ivalHolds_holds : Rows.IvalHoldsSaid :=
  OpenClaim.holds_of_wide 18 Try.f18 rfl rfl rfl rfl rfl rfl rfl ⟨rfl, rfl, rfl, rfl, rfl⟩ rfl rfl rfl rfl rfl (by kernel_rfl) Try.func18 (by kernel_rfl)
    (of_decide_eq_true (by kernel_rfl)) (by unfold Func.isWrapper; rw [if_neg (of_decide_eq_false (by kernel_rfl))]; exact ⟨rfl, rfl⟩)
    (fun os started H enc _ => ivalHolds_lifted os started H enc)
end Go.Proofs.Ytjdccbigaahkeaa
