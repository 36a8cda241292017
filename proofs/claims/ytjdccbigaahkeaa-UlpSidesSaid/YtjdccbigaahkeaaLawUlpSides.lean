/- UlpSides: rounded down, to the nearest and up, sums, products, quotients and roots stand in this order: for every input the law returns true. -/
import Derived.Test.YtjdccbigaahkeaaW35
namespace Go.Proofs.Ytjdccbigaahkeaa
set_option linter.unusedSimpArgs false
set_option linter.unusedVariables false
open Go.ChangeShapes Go.WideShapes Go.ChangeAt Go.RowKit Go.Joins
open Fl

theorem addS_lt {a b : Nat} (dir : Int) (ha : a < 18446744073709551616) (hb : b < 18446744073709551616) : addS a b dir < 18446744073709551616 := by
  unfold addS
  repeat' split
  all_goals first | exact rnd_lt _ _ _ | decide | assumption
theorem mulS_lt {a b : Nat} (dir : Int) : mulS a b dir < 18446744073709551616 := by
  unfold mulS
  repeat' split
  all_goals first | exact rnd_lt _ _ _ | decide | exact infW_lt _

/-- Mirrored: the comparison. -/
theorem mir_cases {x y : Nat} (h : MirOk x y) : (feq x (fneg y) = true) ∨ (feq x (fneg y) = false ∧ nan x = true ∧ nan y = true) := by
  rcases h with ⟨h1, h2⟩ | ⟨i, rfl, rfl, b1, b2⟩
  · right; exact ⟨feq_nan h1, h1, h2⟩
  · left
    obtain ⟨d1, d2, d3⟩ := nan_bits b1 b2
    obtain ⟨e1, e2, e3⟩ := nan_bits (show -9218868437227405312 ≤ -i by omega) (by omega)
    unfold feq
    rw [d1, nan_fneg, e1, d2, idx_fneg, e2]
    simp

theorem mirn {x y : Nat} (h : MirOk x y) : (nan x = true ∧ nan y = true) ∨ (nan x = false ∧ nan y = false ∧ feq x (fneg y) = true) := by
  rcases h with ⟨h1, h2⟩ | ⟨i, hx, hy, b1, b2⟩
  · left; exact ⟨h1, h2⟩
  · right
    obtain ⟨d1, d2, d3⟩ := nan_bits b1 b2
    obtain ⟨e1, e2, e3⟩ := nan_bits (show -9218868437227405312 ≤ -i by omega) (by omega)
    rw [hx, hy]
    refine ⟨d1, e1, ?_⟩
    unfold feq
    rw [d1, nan_fneg, e1, d2, idx_fneg, e2]
    simp
theorem sidesn {d n u : Nat} (h : SidesOk d n u) : (nan d = true ∧ nan n = true ∧ nan u = true) ∨ (nan d = false ∧ nan n = false ∧ nan u = false) := by
  rcases h with h | ⟨i, j, k, hd, hn, hu, b1, b2, b3, b4, b5⟩
  · left; exact h
  · right
    rw [hd, hn, hu]
    exact ⟨(nan_bits b1 (by omega)).1, (nan_bits (by omega) (by omega)).1, (nan_bits (by omega) b5).1⟩

set_option maxHeartbeats 1000000 in
theorem alive1_any : Gives 81 #[] (.bool true) := by
  intro w
  have n1 := next_any 4607182418800017408 (by decide)
  rw [show nextB 4607182418800017408 = 4607182418800017409 by decide] at n1
  have f1 : flt 4607182418800017408 4607182418800017409 = true := by decide
  go_enter Try.func81, Try.ntmps81
  go_wp2_with (go_at_call 31; refine (n1.go _).mono ?_; rintro _ _ ⟨n, rfl, rfl⟩)
  go_ret
  exact ⟨rfl, by (repeat' (first | (with_reducible exact Below.refl _ _) | (with_reducible assumption) | (with_reducible refine Later.belowOf _ ?_ ?_) | (with_reducible refine Below.alloc ?_ ?_ _) | (with_reducible refine Below.setCell ?_ ?_ _) | (with_reducible refine Below.drewN' _ ?_) | (with_reducible refine Below.drew ?_) | (with_reducible exact Ge.le) | go_size))⟩

set_option maxRecDepth 100000 in
set_option maxHeartbeats 8000000 in
theorem ulpSides_walk (a b : Nat) (ha : a < 18446744073709551616) (hb : b < 18446744073709551616) : Gives 16 #[(.float .f64 a), (.float .f64 b)] (.bool true) := by
  intro w
  have A1 := add_any a b (-1) ha hb
  have A2 := add_any a b 0 ha hb
  have A3 := add_any a b 1 ha hb
  have A4 := add_any (fneg a) (fneg b) 1 (fneg_lt a) (fneg_lt b)
  have A5 := add_any b a 0 hb ha
  rw [addS_comm hb ha] at A5
  have M1 := mul_any a b (-1) ha hb
  have M2 := mul_any a b 0 ha hb
  have M3 := mul_any a b 1 ha hb
  have M4 := mul_any (fneg a) b 1 (fneg_lt a) hb
  have M5 := mul_any b a 1 hb ha
  rw [mulS_comm b a] at M5
  have D1 := div_any a b (-1) ha hb
  have D2 := div_any a b 0 ha hb
  have D3 := div_any a b 1 ha hb
  have D4 := div_any a (fneg b) 1 ha (fneg_lt b)
  have R1 := sqrt_any a (-1) ha
  have R2 := sqrt_any a 0 ha
  have R3 := sqrt_any a 1 ha
  have sa := sides_add ha hb
  have ma := mir_add ha hb
  have SM := sides_any _ _ _ (sides_mul a b)
  have mm := mir_mul a b
  have sd := sides_div a b
  have sr := sides_root ha
  have md := mir_div a b
  have na := fneg_eq ha
  have nb := fneg_eq hb
  have n5 := fneg_eq (mulS_lt (a := fneg a) (b := b) 1)
  have T2 := same1_eqv (Or.inl rfl : Eqv (mulS a b 1) (mulS a b 1)) (Or.inl rfl : Eqv (mulS a b 1) (mulS a b 1))
  generalize addS a b (-1) = a1 at *
  generalize addS a b 0 = a2 at *
  generalize addS a b 1 = a3 at *
  generalize addS (fneg a) (fneg b) 1 = a4 at *
  generalize mulS a b (-1) = m1 at *
  generalize mulS a b 0 = m2 at *
  generalize mulS a b 1 = m3 at *
  generalize mulS (fneg a) b 1 = m4 at *
  generalize divS a b (-1) = d1 at *
  generalize divS a b 0 = d2 at *
  generalize divS a b 1 = d3 at *
  generalize divS a (fneg b) 1 = d4 at *
  generalize rootS a (-1) = r1 at *
  generalize rootS a 0 = r2 at *
  generalize rootS a 1 = r3 at *
  clear ha hb
  go_enter Try.func16, Try.ntmps16
  go_upto_region 8 with (first
    | (go_at_call 81; refine (alive1_any.go _).mono ?_; rintro _ _ ⟨k, rfl, rfl⟩)
    | (go_at_call 48; first | ((with_reducible refine (A1.go _).mono ?_); rintro _ _ ⟨x1, k, bx1, vx1, rfl, rfl⟩) | ((with_reducible refine (A2.go _).mono ?_); rintro _ _ ⟨x2, k, bx2, vx2, rfl, rfl⟩) | ((with_reducible refine (A3.go _).mono ?_); rintro _ _ ⟨x3, k, bx3, vx3, rfl, rfl⟩) | ((with_reducible refine (A4.go _).mono ?_); rintro _ _ ⟨x4, k, bx4, vx4, rfl, rfl⟩))
    | (go_at_call 46; first | ((with_reducible refine (M1.go _).mono ?_); rintro _ _ ⟨k, rfl, rfl⟩) | ((with_reducible refine (M2.go _).mono ?_); rintro _ _ ⟨k, rfl, rfl⟩) | ((with_reducible refine (M3.go _).mono ?_); rintro _ _ ⟨k, rfl, rfl⟩) | ((with_reducible refine (M4.go _).mono ?_); rintro _ _ ⟨k, rfl, rfl⟩))
    | (go_at_call 52; first | ((with_reducible refine (D1.go _).mono ?_); rintro _ _ ⟨z1, k, bz1, vz1, rfl, rfl⟩) | ((with_reducible refine (D2.go _).mono ?_); rintro _ _ ⟨z2, k, bz2, vz2, rfl, rfl⟩) | ((with_reducible refine (D3.go _).mono ?_); rintro _ _ ⟨z3, k, bz3, vz3, rfl, rfl⟩) | ((with_reducible refine (D4.go _).mono ?_); rintro _ _ ⟨z4, k, bz4, vz4, rfl, rfl⟩))
    | (go_at_call 54; first | ((with_reducible refine (R1.go _).mono ?_); rintro _ _ ⟨q1, k, bq1, vq1, rfl, rfl⟩) | ((with_reducible refine (R2.go _).mono ?_); rintro _ _ ⟨q2, k, bq2, vq2, rfl, rfl⟩) | ((with_reducible refine (R3.go _).mono ?_); rintro _ _ ⟨q3, k, bq3, vq3, rfl, rfl⟩))
    | (go_at_call 82; first | ((with_reducible refine (SM.go _).mono ?_); rintro _ _ ⟨k, rfl, rfl⟩) | ((with_reducible refine ((sides_any _ _ _ (sa.eqv vx1 vx2 vx3)).go _).mono ?_); rintro _ _ ⟨k, rfl, rfl⟩) | ((with_reducible refine ((sides_any _ _ _ (sd.eqv vz1 vz2 vz3)).go _).mono ?_); rintro _ _ ⟨k, rfl, rfl⟩) | ((with_reducible refine ((sides_any _ _ _ (sr.eqv vq1 vq2 vq3)).go _).mono ?_); rintro _ _ ⟨k, rfl, rfl⟩)))
  have n4 := fneg_eq bx4
  have n6 := fneg_eq bz4
  have I1 := isNum_any x1
  have I2 := isNum_any x4
  have I3 := isNum_any m1
  have I4 := isNum_any m4
  have I5 := isNum_any z1
  have I6 := isNum_any z4
  have X := mirn (ma.eqv vx1 vx4)
  have Y := mirn mm
  have Z := mirn (md.eqv vz1 vz4)
  dsimp only [List.append]
  refine wp_region_lit ?_
  rcases X with ⟨e1, e2⟩ | ⟨e1, e2, e3⟩ <;> (try have e3 := feq_nan (y := fneg x4) e1) <;> rw [e1] at I1 <;> rw [e2] at I2 <;> clear e1 e2
  all_goals
    rcases Y with ⟨e1, e2⟩ | ⟨e1, e2, e4⟩ <;> (try have e4 := feq_nan (y := fneg m4) e1) <;> rw [e1] at I3 <;> rw [e2] at I4 <;> clear e1 e2
  all_goals
    rcases Z with ⟨e1, e2⟩ | ⟨e1, e2, e5⟩ <;> (try have e5 := feq_nan (y := fneg z4) e1) <;> rw [e1] at I5 <;> rw [e2] at I6 <;> clear e1 e2
  all_goals
    go_wp2_with (first
      | (go_at_call 48; first | ((with_reducible refine (A2.go _).mono ?_); rintro _ _ ⟨x5, k, bx5, vx5, rfl, rfl⟩) | ((with_reducible refine (A5.go _).mono ?_); rintro _ _ ⟨x6, k, bx6, vx6, rfl, rfl⟩))
      | (go_at_call 46; first | ((with_reducible refine (M3.go _).mono ?_); rintro _ _ ⟨k, rfl, rfl⟩) | ((with_reducible refine (M5.go _).mono ?_); rintro _ _ ⟨k, rfl, rfl⟩))
      | (go_at_call 43; first | ((with_reducible refine (I1.go _).mono ?_); rintro _ _ ⟨k, rfl, rfl⟩) | ((with_reducible refine (I2.go _).mono ?_); rintro _ _ ⟨k, rfl, rfl⟩) | ((with_reducible refine (I3.go _).mono ?_); rintro _ _ ⟨k, rfl, rfl⟩) | ((with_reducible refine (I4.go _).mono ?_); rintro _ _ ⟨k, rfl, rfl⟩) | ((with_reducible refine (I5.go _).mono ?_); rintro _ _ ⟨k, rfl, rfl⟩) | ((with_reducible refine (I6.go _).mono ?_); rintro _ _ ⟨k, rfl, rfl⟩))
      | (go_at_call 30; first | ((with_reducible refine (T2.go _).mono ?_); rintro _ _ ⟨k, rfl, rfl⟩) | ((with_reducible refine ((same1_eqv vx5 vx6).go _).mono ?_); rintro _ _ ⟨k, rfl, rfl⟩)))
    go_ret
    exact ⟨rfl, by (repeat' (first | (with_reducible exact Below.refl _ _) | (with_reducible assumption) | (with_reducible refine Later.belowOf _ ?_ ?_) | (with_reducible refine Below.alloc ?_ ?_ _) | (with_reducible refine Below.setCell ?_ ?_ _) | (with_reducible refine Below.drewN' _ ?_) | (with_reducible refine Below.drew ?_) | (with_reducible exact Ge.le) | go_size))⟩

set_option maxRecDepth 100000 in
theorem ulpSides_lifted (os : Os) (started : os.Started) (H : Type) (enc : TypeId × Value → H) :
    ReturnsInHanded {} Try.checked os 16 .any (Rows.ulpSidesSpec.pre6 enc Try.prog Try.f16 Rows.ulpSidesRow.domain false) (Rows.ulpSidesSpec.post enc Try.prog Try.f16 false true false false) := by
  refine returnsInHanded_of_change (C := Try.checked) Try.own started (by kernel_rfl) Try.func16
    (ChangeSpec.witness6 (enc := enc) (C := Try.checked) false ⟨#[], #[(.float .f64 0), (.float .f64 0)], []⟩ 8 (by kernel_rfl) (by kernel_rfl) (by kernel_rfl) (by kernel_rfl)) ?_
  intro W base args ds gs before hval0 hW hcnd _
  have hval : ∀ (j : Nat) t v, Try.f16.params[j]? = some t → args[j]? = some v → Value.okWide Try.prog W .any base t v := hval0
  have hW' := hW
  obtain ⟨p, q, hA0, hV, rfl, hfz, hnd⟩ := hW
  have hA : DataW.TrodAll enc Try.prog W 0 (fun _ => true) true Try.f16.params.toList args.toList ds p := hA0
  rw [Try.params16] at hA hval
  obtain ⟨v0, v1, d0, d1, p0, p1, rfl, rfl, rfl, h0, h1⟩ := trodAll_two hA
  obtain ⟨rfl, rfl⟩ := trodVars_none hV
  obtain ⟨x0_0, rfl, k0_0⟩ := arg_float (hval 0 22 v0 rfl rfl) h0
  obtain ⟨x1_0, rfl, k1_0⟩ := arg_float (hval 1 22 v1 rfl rfl) h1
  refine (ulpSides_walk x0_0 x1_0 k0_0 k1_0 W).mono fun e W' ⟨he, hb⟩ => ?_
  subst he
  exact ⟨_, rfl, law_post rfl hW' (by kernel_rfl) (by kernel_rfl) rfl hb⟩

theorem ulpSides_holds : Rows.UlpSidesSaid :=
  OpenClaim.holds_of_wide 16 Try.f16 rfl rfl rfl rfl rfl rfl rfl ⟨rfl, rfl, rfl, rfl, rfl⟩ rfl rfl rfl rfl rfl (by kernel_rfl) Try.func16 (by kernel_rfl)
    (of_decide_eq_true (by kernel_rfl)) (by unfold Func.isWrapper; rw [if_neg (of_decide_eq_false (by kernel_rfl))]; exact ⟨rfl, rfl⟩)
    (fun os started H enc _ => ulpSides_lifted os started H enc)
end Go.Proofs.Ytjdccbigaahkeaa
