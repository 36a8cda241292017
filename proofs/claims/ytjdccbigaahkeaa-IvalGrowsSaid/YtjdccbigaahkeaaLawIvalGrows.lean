/- IvalGrows: the greater the intervals are, the greater is what is made of them; and all that is made of intervals that may be may be: for every input the law returns true. -/
import Derived.Test.YtjdccbigaahkeaaW70
import Derived.Test.YtjdccbigaahkeaaW71
namespace Go.Proofs.Ytjdccbigaahkeaa
set_option linter.unusedSimpArgs false
set_option linter.unusedVariables false
open Go.ChangeShapes Go.WideShapes Go.ChangeAt Go.RowKit Go.Joins
open Fl

set_option maxHeartbeats 4000000 in
set_option maxRecDepth 100000 in
theorem grows_early (a b c d e f g h : Nat) (n : Int) (H : Gives 64 #[(.agg #[.float .f64 a, .float .f64 b]), (.agg #[.float .f64 e, .float .f64 f])] (.agg #[.float .f64 g, .float .f64 h]))
    (R1 : Gives 21 #[(.agg #[.float .f64 a, .float .f64 b])] (.bool (rightB a b))) (R2 : Gives 21 #[(.agg #[.float .f64 c, .float .f64 d])] (.bool (rightB c d))) (R3 : Gives 21 #[(.agg #[.float .f64 e, .float .f64 f])] (.bool (rightB e f))) (R4 : Gives 83 #[(.agg #[.float .f64 a, .float .f64 b])] (.bool (noneB a b)))
    (h0 : (rightB a b && (rightB c d && (rightB e f && !noneB a b))) = false) : Gives 19 #[(.agg #[.float .f64 a, .float .f64 b]), (.agg #[.float .f64 c, .float .f64 d]), (.agg #[.float .f64 e, .float .f64 f]), .int .i64 n] (.bool true) := by
  intro w
  cases r1 : rightB a b
  · rw [r1] at R1
    clear R2 R3 R4 h0
    go_enter Try.func19, Try.ntmps19
    go_wp2_with (first | (go_at_call 64; (with_reducible refine (H.go _).mono ?_); rintro _ _ ⟨nH, rfl, rfl⟩) | (go_at_call 21; (with_reducible refine (R1.go _).mono ?_); rintro _ _ ⟨nn, rfl, rfl⟩))
    go_ret
    exact ⟨rfl, by (repeat' (first | (with_reducible exact Below.refl _ _) | (with_reducible assumption) | (with_reducible refine Later.belowOf _ ?_ ?_) | (with_reducible refine Below.alloc ?_ ?_ _) | (with_reducible refine Below.setCell ?_ ?_ _) | (with_reducible refine Below.drewN' _ ?_) | (with_reducible refine Below.drew ?_) | (with_reducible exact Ge.le) | go_size))⟩
  · cases r2 : rightB c d
    · rw [r1] at R1
      rw [r2] at R2
      clear R3 R4 h0
      go_enter Try.func19, Try.ntmps19
      go_wp2_with (first | (go_at_call 64; (with_reducible refine (H.go _).mono ?_); rintro _ _ ⟨nH, rfl, rfl⟩) | (go_at_call 21; first | ((with_reducible refine (R1.go _).mono ?_); rintro _ _ ⟨nn, rfl, rfl⟩) | ((with_reducible refine (R2.go _).mono ?_); rintro _ _ ⟨nn, rfl, rfl⟩)))
      go_ret
      exact ⟨rfl, by (repeat' (first | (with_reducible exact Below.refl _ _) | (with_reducible assumption) | (with_reducible refine Later.belowOf _ ?_ ?_) | (with_reducible refine Below.alloc ?_ ?_ _) | (with_reducible refine Below.setCell ?_ ?_ _) | (with_reducible refine Below.drewN' _ ?_) | (with_reducible refine Below.drew ?_) | (with_reducible exact Ge.le) | go_size))⟩
    · cases r3 : rightB e f
      · rw [r1] at R1
        rw [r2] at R2
        rw [r3] at R3
        clear R4 h0
        go_enter Try.func19, Try.ntmps19
        go_wp2_with (first | (go_at_call 64; (with_reducible refine (H.go _).mono ?_); rintro _ _ ⟨nH, rfl, rfl⟩) | (go_at_call 21; first | ((with_reducible refine (R1.go _).mono ?_); rintro _ _ ⟨nn, rfl, rfl⟩) | ((with_reducible refine (R2.go _).mono ?_); rintro _ _ ⟨nn, rfl, rfl⟩) | ((with_reducible refine (R3.go _).mono ?_); rintro _ _ ⟨nn, rfl, rfl⟩)))
        go_ret
        exact ⟨rfl, by (repeat' (first | (with_reducible exact Below.refl _ _) | (with_reducible assumption) | (with_reducible refine Later.belowOf _ ?_ ?_) | (with_reducible refine Below.alloc ?_ ?_ _) | (with_reducible refine Below.setCell ?_ ?_ _) | (with_reducible refine Below.drewN' _ ?_) | (with_reducible refine Below.drew ?_) | (with_reducible exact Ge.le) | go_size))⟩
      · rw [r1] at R1
        rw [r2] at R2
        rw [r3] at R3
        rw [r1, r2, r3] at h0
        have h1 : noneB a b = true := by simpa using h0
        rw [h1] at R4
        clear h0 h1
        go_enter Try.func19, Try.ntmps19
        go_wp2_with (first | (go_at_call 64; (with_reducible refine (H.go _).mono ?_); rintro _ _ ⟨nH, rfl, rfl⟩) | (go_at_call 21; first | ((with_reducible refine (R1.go _).mono ?_); rintro _ _ ⟨nn, rfl, rfl⟩) | ((with_reducible refine (R2.go _).mono ?_); rintro _ _ ⟨nn, rfl, rfl⟩) | ((with_reducible refine (R3.go _).mono ?_); rintro _ _ ⟨nn, rfl, rfl⟩)) | (go_at_call 83; (with_reducible refine (R4.go _).mono ?_); rintro _ _ ⟨nn, rfl, rfl⟩))
        go_ret
        exact ⟨rfl, by (repeat' (first | (with_reducible exact Below.refl _ _) | (with_reducible assumption) | (with_reducible refine Later.belowOf _ ?_ ?_) | (with_reducible refine Below.alloc ?_ ?_ _) | (with_reducible refine Below.setCell ?_ ?_ _) | (with_reducible refine Below.drewN' _ ?_) | (with_reducible refine Below.drew ?_) | (with_reducible exact Ge.le) | go_size))⟩

/-- A pair of what is made, in order. -/
theorem grow_gives {z t : Nat × Nat} (h : Grow z t) :
    Gives 37 #[(.agg #[.float .f64 z.1, .float .f64 z.2]), (.agg #[.float .f64 t.1, .float .f64 t.2])] (.bool true) ∧ Gives 21 #[(.agg #[.float .f64 z.1, .float .f64 z.2])] (.bool true) ∧ Gives 21 #[(.agg #[.float .f64 t.1, .float .f64 t.2])] (.bool true) := by
  have i := inside_any z.1 z.2 t.1 t.2
  have r := right2_any z.1 z.2 h.w1.1 h.w1.2
  have r' := right2_any t.1 t.2 h.w2.1 h.w2.2
  rw [h.ins] at i
  rw [h.r1] at r
  rw [h.r2] at r'
  exact ⟨i, r, r'⟩

theorem ivalGrows_walk (a b c d e f : Nat) (n : Int) (ha : a < 18446744073709551616) (hb : b < 18446744073709551616) (hc : c < 18446744073709551616) (hd : d < 18446744073709551616) (he : e < 18446744073709551616) (hf : f < 18446744073709551616) (n1 : -9223372036854775808 ≤ n) (n2 : n ≤ 9223372036854775807) :
    Gives 19 #[(.agg #[.float .f64 a, .float .f64 b]), (.agg #[.float .f64 c, .float .f64 d]), (.agg #[.float .f64 e, .float .f64 f]), .int .i64 n] (.bool true) := by
  have H := hull_law_any a b e f ha hb he hf
  have R1 := right2_any a b ha hb
  have R2 := right2_any c d hc hd
  have R3 := right2_any e f he hf
  have R4 := none_ref_any a b ha hb
  cases h0 : (rightB a b && (rightB c d && (rightB e f && !noneB a b)))
  · exact grows_early a b c d e f _ _ n H R1 R2 R3 R4 h0
  · simp only [Bool.and_eq_true] at h0
    obtain ⟨r1, r2, r3, r4⟩ := h0
    have r4 : noneB a b = false := by simpa using r4
    rw [r1] at R1
    rw [r2] at R2
    rw [r3] at R3
    rw [r4] at R4
    have S := hull_sub ha hb he hf r4
    generalize hullI a b e f = t at *
    obtain ⟨g, h⟩ := t
    have hg : g < 18446744073709551616 := S.F.ca.lt
    have hh : h < 18446744073709551616 := S.F.cb.lt
    have S : Sub a b g h := S
    have g0 := grow_gives (grow_sum hc hd S)
    have g1 := grow_gives (grow_diff hc hd S)
    have g2 := grow_gives (grow_prod hc hd S)
    have g3 := grow_gives (grow_over hc hd S)
    have g4 := grow_gives (grow_by hc hd S)
    have g5 := grow_gives (grow_sqr S)
    have g6 := grow_gives (grow_sqrt S)
    have g7 := grow_gives (grow_pow n S)
    have g8 := grow_gives (grow_meet hc hd S)
    have z0 := inside_any a b g h
    rw [S.grow.ins] at z0
    obtain ⟨k1, k2, k3⟩ := grow_sizes S
    exact grows_core a b c d e f g h _ _ _ _ _ _ _ _ _ _ _ _ _ _ _ _ _ _ _ _ _ _ _ _ _ _ _ _ _ _ _ _ _ _ _ _ _ _ _ _ _ _ n H R1 R2 R3 R4
      (add_ival_any a b c d ha hb hc hd) (add_ival_any g h c d hg hh hc hd) (sub_ival_any c d a b hc hd ha hb) (sub_ival_any c d g h hc hd hg hh)
      (mul_ival_any a b c d ha hb hc hd) (mul_ival_any g h c d hg hh hc hd) (quot_ival_any a b c d ha hb hc hd) (quot_ival_any g h c d hg hh hc hd)
      (quot_ival_any c d a b hc hd ha hb) (quot_ival_any c d g h hc hd hg hh) (sqr_any a b ha hb) (sqr_any g h hg hh) (sqrt_ival_any a b ha hb) (sqrt_ival_any g h hg hh)
      (pow_ival_any a b n ha hb) (pow_ival_any g h n hg hh) (meet_any a b c d ha hb hc hd) (meet_any g h c d hg hh hc hd)
      g0.1 g0.2.1 g0.2.2 g1.1 g1.2.1 g1.2.2 g2.1 g2.2.1 g2.2.2 g3.1 g3.2.1 g3.2.2 g4.1 g4.2.1 g4.2.2 g5.1 g5.2.1 g5.2.2 g6.1 g6.2.1 g6.2.2 g7.1 g7.2.1 g7.2.2 g8.1 g8.2.1 g8.2.2
      z0 (wid_any a b ha hb) (wid_any g h hg hh) (mag_any a b ha hb) (mag_any g h hg hh) (mig_any a b ha hb) (mig_any g h hg hh) k1 k2 k3

set_option maxRecDepth 100000 in
theorem ivalGrows_lifted (os : Os) (started : os.Started) (H : Type) (enc : TypeId × Value → H) :
    ReturnsInHanded {} Try.checked os 19 .any (Rows.ivalGrowsSpec.pre6 enc Try.prog Try.f19 Rows.ivalGrowsRow.domain false) (Rows.ivalGrowsSpec.post enc Try.prog Try.f19 false true false false) := by
  refine returnsInHanded_of_change (C := Try.checked) Try.own started (by kernel_rfl) Try.func19
    (ChangeSpec.witness6 (enc := enc) (C := Try.checked) false ⟨#[], #[(.agg #[.float .f64 0, .float .f64 0]), (.agg #[.float .f64 0, .float .f64 0]), (.agg #[.float .f64 0, .float .f64 0]), (.int .i64 0)], []⟩ 8 (by kernel_rfl) (by kernel_rfl) (by kernel_rfl) (by kernel_rfl)) ?_
  intro W base args ds gs before hval0 hW hcnd _
  have hval : ∀ (j : Nat) t v, Try.f19.params[j]? = some t → args[j]? = some v → Value.okWide Try.prog W .any base t v := hval0
  have hW' := hW
  obtain ⟨p, q, hA0, hV, rfl, hfz, hnd⟩ := hW
  have hA : DataW.TrodAll enc Try.prog W 0 (fun _ => true) true Try.f19.params.toList args.toList ds p := hA0
  rw [Try.params19] at hA hval
  obtain ⟨v0, v1, v2, v3, d0, d1, d2, d3, p0, p1, p2, p3, rfl, rfl, rfl, h0, h1, h2, h3⟩ := trodAll_four hA
  obtain ⟨rfl, rfl⟩ := trodVars_none hV
  obtain ⟨x0_0, x0_1, rfl, k0_0, k0_1⟩ := arg_iv (hval 0 24 v0 rfl rfl) h0
  obtain ⟨x1_0, x1_1, rfl, k1_0, k1_1⟩ := arg_iv (hval 1 24 v1 rfl rfl) h1
  obtain ⟨x2_0, x2_1, rfl, k2_0, k2_1⟩ := arg_iv (hval 2 24 v2 rfl rfl) h2
  obtain ⟨x3_0, rfl, k3_0, k3_1⟩ := arg_int (hval 3 3 v3 rfl rfl) h3
  refine (ivalGrows_walk x0_0 x0_1 x1_0 x1_1 x2_0 x2_1 x3_0 k0_0 k0_1 k1_0 k1_1 k2_0 k2_1 k3_0 k3_1 W).mono fun e W' ⟨he, hb⟩ => ?_
  subst he
  exact ⟨_, rfl, law_post rfl hW' (by kernel_rfl) (by kernel_rfl) rfl hb⟩

theorem ivalGrows_holds : Rows.IvalGrowsSaid :=
  OpenClaim.holds_of_wide 19 Try.f19 rfl rfl rfl rfl rfl rfl rfl ⟨rfl, rfl, rfl, rfl, rfl⟩ rfl rfl rfl rfl rfl (by kernel_rfl) Try.func19 (by kernel_rfl)
    (of_decide_eq_true (by kernel_rfl)) (by unfold Func.isWrapper; rw [if_neg (of_decide_eq_false (by kernel_rfl))]; exact ⟨rfl, rfl⟩)
    (fun os started H enc _ => ivalGrows_lifted os started H enc)
end Go.Proofs.Ytjdccbigaahkeaa
