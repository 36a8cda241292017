/- IvalLattice: hulls and meets are the least that holds both, and all that both hold; what is taken off itself holds nought, what is divided by itself one: for every input the law returns true. -/
import Derived.Test.YtjdccbigaahkeaaW62
import Derived.Test.YtjdccbigaahkeaaW63
import Derived.Test.YtjdccbigaahkeaaW37
namespace Go.Proofs.Ytjdccbigaahkeaa
set_option linter.unusedSimpArgs false
set_option linter.unusedVariables false
open Go.ChangeShapes Go.WideShapes Go.ChangeAt Go.RowKit Go.Joins
open Fl

theorem sumI_none {a b : Nat} (c d : Nat) (h : noneB a b = true) : sumI a b c d = (9218868437227405312, 18442240474082181120) := by unfold sumI; rw [h]; rfl
theorem prodI_none {c d : Nat} (a b : Nat) (h : noneB a b = true) : prodI c d a b = (9218868437227405312, 18442240474082181120) := by unfold prodI; rw [h]; simp
theorem magI_none {a b : Nat} (h : noneB a b = true) : magI a b = 0 := by unfold magI; rw [h]; rfl

set_option maxHeartbeats 8000000 in
set_option maxRecDepth 100000 in
theorem lattice_none (a b c d v : Nat) (ha : a < 18446744073709551616) (hb : b < 18446744073709551616) (hc : c < 18446744073709551616) (hd : d < 18446744073709551616) (hv : v < 18446744073709551616) (h0 : noneB a b = true) :
    Gives 17 #[(.agg #[.float .f64 a, .float .f64 b]), (.agg #[.float .f64 c, .float .f64 d]), (.float .f64 v)] (.bool true) := by
  intro w
  have H := hull_law_any a b c d ha hb hc hd
  have M := meet_any a b c d ha hb hc hd
  have i1 := inside_any a b (hullI a b c d).1 (hullI a b c d).2
  have i2 := inside_any c d (hullI a b c d).1 (hullI a b c d).2
  have i3 := inside_any (meetI a b c d).1 (meetI a b c d).2 a b
  have i4 := inside_any (meetI a b c d).1 (meetI a b c d).2 c d
  rw [(inside_hull ha hb hc hd).1] at i1
  rw [(inside_hull ha hb hc hd).2] at i2
  rw [(inside_meet ha hb hc hd).1] at i3
  rw [(inside_meet ha hb hc hd).2] at i4
  have e1 := has_any (meetI a b c d).1 (meetI a b c d).2 v hv
  have e2 := has_any a b v hv
  have e3 := has_any c d v hv
  rw [has_meet ha hb hc hd] at e1
  have n1 := none_ref_any a b ha hb
  rw [h0] at n1
  have g1 := mag_any a b ha hb
  rw [magI_none h0] at g1
  have g2 := add_ival_any a b c d ha hb hc hd
  rw [sumI_none c d h0] at g2
  have g3 := mul_ival_any c d a b hc hd ha hb
  rw [prodI_none a b h0] at g3
  have g4 := none_ref_any 9218868437227405312 18442240474082181120 (by decide) (by decide)
  rw [none_e] at g4
  have ez : hasB a b v = false := by unfold hasB; rw [h0]; rfl
  rw [ez] at e1 e2
  simp only [Bool.false_and] at e1
  generalize hullI a b c d = h at *
  generalize meetI a b c d = m at *
  generalize hasB c d v = x3 at *
  clear ha hb hc hd hv h0 ez

  go_enter Try.func17, Try.ntmps17
  go_wp2_with (fail)
  go_region_held3 (fun w' => w'.cell? ⟨w.heap.size, 0, none⟩ = some (.float .f64 a) ∧ w'.cell? ⟨w.heap.size, 1, none⟩ = some (.float .f64 b) ∧ w'.cell? ⟨w.heap.size + 1, 0, none⟩ = some (.float .f64 c) ∧ w'.cell? ⟨w.heap.size + 1, 1, none⟩ = some (.float .f64 d))
    (first | (go_simp; done) | go_keep)
    ((first | (go_at_call 64; (with_reducible refine (H.go _).mono ?_); rintro _ _ ⟨n, rfl, rfl⟩) | (go_at_call 66; (with_reducible refine (M.go _).mono ?_); rintro _ _ ⟨n, rfl, rfl⟩)))
  all_goals
    rename_i hHeld
    clear hHeld
    go_wp2_with (fail)
    refine wp_region_later (by kernel_rfl) (by kernel_rfl) ?_
    repeat (go_big_quiet_step (first | (go_at_call 37; first | (with_reducible exact i1.later _) | (with_reducible exact i2.later _) | (with_reducible exact i3.later _) | (with_reducible exact i4.later _)) | (go_at_call 35; first | (with_reducible exact e1.later _) | (with_reducible exact e2.later _) | (with_reducible exact e3.later _))))
    (refine wpQuiet_nil ?_; rintro _ ⟨nq, rfl⟩)
    go_wp2_with (first | (go_at_call 83; first | ((with_reducible refine (n1.go _).mono ?_); rintro _ _ ⟨n, rfl, rfl⟩) | ((with_reducible refine (g4.go _).mono ?_); rintro _ _ ⟨n, rfl, rfl⟩)) | (go_at_call 60; (with_reducible refine (g1.go _).mono ?_); rintro _ _ ⟨n, rfl, rfl⟩) | (go_at_call 70; (with_reducible refine (g2.go _).mono ?_); rintro _ _ ⟨n, rfl, rfl⟩) | (go_at_call 76; (with_reducible refine (g3.go _).mono ?_); rintro _ _ ⟨n, rfl, rfl⟩))
    go_ret
    exact ⟨rfl, by ((repeat' (first | (with_reducible exact Below.refl _ _) | (with_reducible assumption) | (with_reducible refine Later.belowOf _ ?_ ?_) | (with_reducible refine Below.alloc ?_ ?_ _) | (with_reducible refine Below.setCell ?_ ?_ _) | (with_reducible refine Below.drewN' _ ?_) | (with_reducible refine Below.drew ?_) | (with_reducible exact Ge.le) | go_size))); all_goals (exact Nat.le_succ_of_le Ge.le)⟩

set_option maxHeartbeats 8000000 in
set_option maxRecDepth 100000 in
theorem lattice_some (a b c d v : Nat) (ha : a < 18446744073709551616) (hb : b < 18446744073709551616) (hc : c < 18446744073709551616) (hd : d < 18446744073709551616) (hv : v < 18446744073709551616) (h0 : noneB a b = false) :
    Gives 17 #[(.agg #[.float .f64 a, .float .f64 b]), (.agg #[.float .f64 c, .float .f64 d]), (.float .f64 v)] (.bool true) := by
  intro w
  have H := hull_law_any a b c d ha hb hc hd
  have M := meet_any a b c d ha hb hc hd
  have i1 := inside_any a b (hullI a b c d).1 (hullI a b c d).2
  have i2 := inside_any c d (hullI a b c d).1 (hullI a b c d).2
  have i3 := inside_any (meetI a b c d).1 (meetI a b c d).2 a b
  have i4 := inside_any (meetI a b c d).1 (meetI a b c d).2 c d
  rw [(inside_hull ha hb hc hd).1] at i1
  rw [(inside_hull ha hb hc hd).2] at i2
  rw [(inside_meet ha hb hc hd).1] at i3
  rw [(inside_meet ha hb hc hd).2] at i4
  have e1 := has_any (meetI a b c d).1 (meetI a b c d).2 v hv
  have e2 := has_any a b v hv
  have e3 := has_any c d v hv
  rw [has_meet ha hb hc hd] at e1
  have n1 := none_ref_any a b ha hb
  rw [h0] at n1
  have k1 := quot_ival_any a b a b ha hb ha hb
  have k2 := sub_ival_any a b a b ha hb ha hb
  have k3 := has_any (diffI a b a b).1 (diffI a b a b).2 0 (by decide)
  rw [has_diff ha hb h0] at k3
  have k4 : feq a 0 = true ∧ feq b 0 = true ∨ (feq a 0 = false ∨ feq a 0 = true ∧ feq b 0 = false) ∧ Gives 35 #[(.agg #[.float .f64 ((quotI a b a b).1), .float .f64 ((quotI a b a b).2)]), (.float .f64 4607182418800017408)] (.bool true) := by
    cases hx : feq a 0 && feq b 0
    · right
      have k := has_any (quotI a b a b).1 (quotI a b a b).2 4607182418800017408 (by decide)
      rw [has_one ha hb h0 hx] at k
      refine ⟨?_, k⟩
      cases h : feq a 0
      · exact Or.inl rfl
      · rw [h] at hx; exact Or.inr ⟨rfl, by simpa using hx⟩
    · left; simpa using hx
  have N1 := neg_any a b ha hb
  have N2 := neg_any (negI a b).1 (negI a b).2 (negI_lt ha hb).1 (negI_lt ha hb).2
  rw [neg_neg ha hb h0] at N2
  have i5 := inside_any a b a b
  rw [inside_self ha hb h0] at i5
  have m1 := mig_any a b ha hb
  have m2 := mag_any a b ha hb
  have m3 := mig_mag h0
  have fz : fle (migI a b) (magI a b) = true := m3
  cases ez : hasB a b v
  · rw [ez] at e1 e2
    simp only [Bool.false_and] at e1
    rcases k4 with ⟨q1, q2⟩ | ⟨q1 | ⟨q1, q2⟩, k4⟩
    · exact lattice_false_00 a b c d v _ _ _ _ _ _ _ _ _ _ _ _ _ H M i1 i2 i3 i4 e1 e2 e3 n1 k1 k2 k3 N1 N2 i5 m1 m2 m3 q1 q2 w
    · exact lattice_false_1 a b c d v _ _ _ _ _ _ _ _ _ _ _ _ _ H M i1 i2 i3 i4 e1 e2 e3 n1 k1 k2 k3 N1 N2 i5 m1 m2 m3 q1 k4 w
    · exact lattice_false_01 a b c d v _ _ _ _ _ _ _ _ _ _ _ _ _ H M i1 i2 i3 i4 e1 e2 e3 n1 k1 k2 k3 N1 N2 i5 m1 m2 m3 q1 q2 k4 w
  · rw [ez] at e1 e2
    simp only [Bool.true_and] at e1
    rcases k4 with ⟨q1, q2⟩ | ⟨q1 | ⟨q1, q2⟩, k4⟩
    · exact lattice_true_00 a b c d v _ _ _ _ _ _ _ _ _ _ _ _ _ H M i1 i2 i3 i4 e1 e2 e3 n1 k1 k2 k3 N1 N2 i5 m1 m2 m3 q1 q2 w
    · exact lattice_true_1 a b c d v _ _ _ _ _ _ _ _ _ _ _ _ _ H M i1 i2 i3 i4 e1 e2 e3 n1 k1 k2 k3 N1 N2 i5 m1 m2 m3 q1 k4 w
    · exact lattice_true_01 a b c d v _ _ _ _ _ _ _ _ _ _ _ _ _ H M i1 i2 i3 i4 e1 e2 e3 n1 k1 k2 k3 N1 N2 i5 m1 m2 m3 q1 q2 k4 w

theorem ivalLattice_walk (a b c d v : Nat) (ha : a < 18446744073709551616) (hb : b < 18446744073709551616) (hc : c < 18446744073709551616) (hd : d < 18446744073709551616) (hv : v < 18446744073709551616) :
    Gives 17 #[(.agg #[.float .f64 a, .float .f64 b]), (.agg #[.float .f64 c, .float .f64 d]), (.float .f64 v)] (.bool true) := by
  cases h0 : noneB a b
  · exact lattice_some a b c d v ha hb hc hd hv h0
  · exact lattice_none a b c d v ha hb hc hd hv h0

set_option maxRecDepth 100000 in
theorem ivalLattice_lifted (os : Os) (started : os.Started) (H : Type) (enc : TypeId × Value → H) :
    ReturnsInHanded {} Try.checked os 17 .any (Rows.ivalLatticeSpec.pre6 enc Try.prog Try.f17 Rows.ivalLatticeRow.domain false) (Rows.ivalLatticeSpec.post enc Try.prog Try.f17 false true false false) := by
  refine returnsInHanded_of_change (C := Try.checked) Try.own started (by kernel_rfl) Try.func17
    (ChangeSpec.witness6 (enc := enc) (C := Try.checked) false ⟨#[], #[(.agg #[.float .f64 0, .float .f64 0]), (.agg #[.float .f64 0, .float .f64 0]), (.float .f64 0)], []⟩ 8 (by kernel_rfl) (by kernel_rfl) (by kernel_rfl) (by kernel_rfl)) ?_
  intro W base args ds gs before hval0 hW hcnd _
  have hval : ∀ (j : Nat) t v, Try.f17.params[j]? = some t → args[j]? = some v → Value.okWide Try.prog W .any base t v := hval0
  have hW' := hW
  obtain ⟨p, q, hA0, hV, rfl, hfz, hnd⟩ := hW
  have hA : DataW.TrodAll enc Try.prog W 0 (fun _ => true) true Try.f17.params.toList args.toList ds p := hA0
  rw [Try.params17] at hA hval
  obtain ⟨v0, v1, v2, d0, d1, d2, p0, p1, p2, rfl, rfl, rfl, h0, h1, h2⟩ := trodAll_three hA
  obtain ⟨rfl, rfl⟩ := trodVars_none hV
  obtain ⟨x0_0, x0_1, rfl, k0_0, k0_1⟩ := arg_iv (hval 0 24 v0 rfl rfl) h0
  obtain ⟨x1_0, x1_1, rfl, k1_0, k1_1⟩ := arg_iv (hval 1 24 v1 rfl rfl) h1
  obtain ⟨x2_0, rfl, k2_0⟩ := arg_float (hval 2 22 v2 rfl rfl) h2
  refine (ivalLattice_walk x0_0 x0_1 x1_0 x1_1 x2_0 k0_0 k0_1 k1_0 k1_1 k2_0 W).mono fun e W' ⟨he, hb⟩ => ?_
  subst he
  exact ⟨_, rfl, law_post rfl hW' (by kernel_rfl) (by kernel_rfl) rfl hb⟩

theorem ivalLattice_holds : Rows.IvalLatticeSaid :=
  OpenClaim.holds_of_wide 17 Try.f17 rfl rfl rfl rfl rfl rfl rfl ⟨rfl, rfl, rfl, rfl, rfl⟩ rfl rfl rfl rfl rfl (by kernel_rfl) Try.func17 (by kernel_rfl)
    (of_decide_eq_true (by kernel_rfl)) (by unfold Func.isWrapper; rw [if_neg (of_decide_eq_false (by kernel_rfl))]; exact ⟨rfl, rfl⟩)
    (fun os started H enc _ => ivalLattice_lifted os started H enc)
end Go.Proofs.Ytjdccbigaahkeaa
