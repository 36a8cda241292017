/- Contracts: intervals' products. -/
import Derived.Test.YtpkgpkabmechkaaGreatPqW36x
namespace Go.Proofs.YtpkgpkabmechkaaGreat
set_option linter.unusedSimpArgs false
set_option linter.unusedVariables false
open Go.RowKit
open Fl

/-- A float as the operations give it: a number; nought is the plain one. -/
structure Can (x : Nat) : Prop where
  lt : x < 18446744073709551616
  num : nan x = false
  zero : idx x = 0 → x = 0
theorem Can.inj {x y : Nat} (hx : Can x) (hy : Can y) : idx x = idx y → x = y := by
  intro h
  by_cases h0 : idx y = 0
  · rw [hy.zero h0, hx.zero (by rw [h]; exact h0)]
  · exact idx_inj hx.lt hy.lt h0 h
theorem can_bits {i : Int} (h1 : -9218868437227405312 ≤ i) (h2 : i ≤ 9218868437227405312) : Can (bitsOf i) := by
  obtain ⟨a, b, c⟩ := nan_bits h1 h2
  exact ⟨c, a, fun h => by rw [b] at h; rw [h]; rfl⟩
theorem can_rnd (S : Int) (D : Nat) (dir : Int) : Can (rnd S D dir) := by
  rw [rnd_eq]
  exact can_bits (plc_le _ _ _).1 (plc_le _ _ _).2
theorem can_pinf : Can 9218868437227405312 := ⟨by decide, by decide, by decide⟩
theorem can_ninf : Can 18442240474082181120 := ⟨by decide, by decide, by decide⟩
theorem can_inf (s : Bool) : Can (infW s) := by cases s; exact can_pinf; exact can_ninf
theorem can_zero : Can 0 := ⟨by decide, by decide, by decide⟩
theorem can_min {x y : Nat} (hx : Can x) (hy : Can y) : Can (minF x y) := by unfold minF; split <;> assumption
theorem can_max {x y : Nat} (hx : Can x) (hy : Can y) : Can (maxF x y) := by unfold maxF; split <;> assumption
theorem can_mul {a b : Nat} (dir : Int) (ha : nan a = false) (hb : nan b = false) : Can (mulS a b dir) := by
  unfold mulS
  rw [ha, hb]
  simp only [Bool.or_self, Bool.false_eq_true, if_false]
  split
  · exact can_zero
  · split
    · exact can_rnd _ _ _
    · exact can_inf _
theorem can_ends {a b : Nat} (ha : a < 18446744073709551616) (hb : b < 18446744073709551616) (h : noneB a b = false) : Can a ∧ Can b := by
  obtain ⟨n1, n2⟩ := nums_of h
  obtain ⟨p1, p2⟩ := plus_of h
  exact ⟨⟨ha, n1, plus_zero ha p1 n1⟩, ⟨hb, n2, plus_zero hb p2 n2⟩⟩

def lo4 (d1 d2 d3 d4 : Nat) : Nat := minF (minF (minF (minF 9218868437227405312 d1) d2) d3) d4
def hi4 (u1 u2 u3 u4 : Nat) : Nat := maxF (maxF (maxF (maxF 18442240474082181120 u1) u2) u3) u4

theorem feq_can {x : Nat} (h : Can x) : feq x x = true := by rw [feq_self, h.num]; rfl

set_option maxHeartbeats 4000000 in
theorem corners_mul (a b c d d1 d2 d3 d4 u1 u2 u3 u4 : Nat)
    (h1 : Gives 193 #[(.float .f64 a), (.float .f64 c), .int .i64 (-1)] (.float .f64 d1)) (h2 : Gives 193 #[(.float .f64 a), (.float .f64 d), .int .i64 (-1)] (.float .f64 d2))
    (h3 : Gives 193 #[(.float .f64 b), (.float .f64 c), .int .i64 (-1)] (.float .f64 d3)) (h4 : Gives 193 #[(.float .f64 b), (.float .f64 d), .int .i64 (-1)] (.float .f64 d4))
    (k1 : Gives 193 #[(.float .f64 a), (.float .f64 c), .int .i64 1] (.float .f64 u1)) (k2 : Gives 193 #[(.float .f64 a), (.float .f64 d), .int .i64 1] (.float .f64 u2))
    (k3 : Gives 193 #[(.float .f64 b), (.float .f64 c), .int .i64 1] (.float .f64 u3)) (k4 : Gives 193 #[(.float .f64 b), (.float .f64 d), .int .i64 1] (.float .f64 u4))
    (c1 : Can d1) (c2 : Can d2) (c3 : Can d3) (c4 : Can d4) (e1 : Can u1) (e2 : Can u2) (e3 : Can u3) (e4 : Can u4) :
    Gives 145 #[(.agg #[.float .f64 a, .float .f64 b]), (.agg #[.float .f64 c, .float .f64 d]), .func (.func 193) #[] #[]] (.agg #[.float .f64 ((endsI (lo4 d1 d2 d3 d4) (hi4 u1 u2 u3 u4)).1), .float .f64 ((endsI (lo4 d1 d2 d3 d4) (hi4 u1 u2 u3 u4)).2)]) := by
  intro w
  have n1 := feq_can c1
  have n2 := feq_can c2
  have n3 := feq_can c3
  have n4 := feq_can c4
  have cl1 := can_min can_pinf c1
  have cl2 := can_min cl1 c2
  have cl3 := can_min cl2 c3
  have cl4 := can_min cl3 c4
  have cu1 := can_max can_ninf e1
  have cu2 := can_max cu1 e2
  have cu3 := can_max cu2 e3
  have cu4 := can_max cu3 e4
  have m1 := fun (w : World) ts t => run_min_f (P := Tryz.prog) w ts t _ _ can_pinf.num c1.num (can_pinf.inj c1)
  have m2 := fun (w : World) ts t => run_min_f (P := Tryz.prog) w ts t _ _ cl1.num c2.num (cl1.inj c2)
  have m3 := fun (w : World) ts t => run_min_f (P := Tryz.prog) w ts t _ _ cl2.num c3.num (cl2.inj c3)
  have m4 := fun (w : World) ts t => run_min_f (P := Tryz.prog) w ts t _ _ cl3.num c4.num (cl3.inj c4)
  have x1 := fun (w : World) ts t => run_max_f (P := Tryz.prog) w ts t _ _ can_ninf.num e1.num (can_ninf.inj e1)
  have x2 := fun (w : World) ts t => run_max_f (P := Tryz.prog) w ts t _ _ cu1.num e2.num (cu1.inj e2)
  have x3 := fun (w : World) ts t => run_max_f (P := Tryz.prog) w ts t _ _ cu2.num e3.num (cu2.inj e3)
  have x4 := fun (w : World) ts t => run_max_f (P := Tryz.prog) w ts t _ _ cu3.num e4.num (cu3.inj e4)
  have en := ends_any _ _ cl4.lt cu4.lt cl4.num cu4.num
  unfold lo4 hi4
  generalize endsI (minF (minF (minF (minF 9218868437227405312 d1) d2) d3) d4) (maxF (maxF (maxF (maxF 18442240474082181120 u1) u2) u3) u4) = r at *
  generalize minF (minF (minF (minF 9218868437227405312 d1) d2) d3) d4 = l4 at *
  generalize minF (minF (minF 9218868437227405312 d1) d2) d3 = l3 at *
  generalize minF (minF 9218868437227405312 d1) d2 = l2 at *
  generalize minF 9218868437227405312 d1 = l1 at *
  generalize maxF (maxF (maxF (maxF 18442240474082181120 u1) u2) u3) u4 = g4 at *
  generalize maxF (maxF (maxF 18442240474082181120 u1) u2) u3 = g3 at *
  generalize maxF (maxF 18442240474082181120 u1) u2 = g2 at *
  generalize maxF 18442240474082181120 u1 = g1 at *
  clear c1 c2 c3 c4 e1 e2 e3 e4 cl1 cl2 cl3 cl4 cu1 cu2 cu3 cu4
  go_enter Tryz.func145, Tryz.ntmps145
  go_wp2_with (go_at_call 137; first | ((with_reducible refine (math_Inf_pos.go _).mono ?_); rintro _ _ ⟨n, rfl, rfl⟩) | ((with_reducible refine (math_Inf_neg.go _).mono ?_); rintro _ _ ⟨n, rfl, rfl⟩))
  refine wp_loop_rounds 3 ?_
  rw [rounds_succ]
  go_wp2_with (first | (go_at_call 193; first | ((with_reducible refine (h1.go _).mono ?_); rintro _ _ ⟨n, rfl, rfl⟩) | ((with_reducible refine (k1.go _).mono ?_); rintro _ _ ⟨n, rfl, rfl⟩) | ((with_reducible refine (h2.go _).mono ?_); rintro _ _ ⟨n, rfl, rfl⟩) | ((with_reducible refine (k2.go _).mono ?_); rintro _ _ ⟨n, rfl, rfl⟩) | ((with_reducible refine (h3.go _).mono ?_); rintro _ _ ⟨n, rfl, rfl⟩) | ((with_reducible refine (k3.go _).mono ?_); rintro _ _ ⟨n, rfl, rfl⟩) | ((with_reducible refine (h4.go _).mono ?_); rintro _ _ ⟨n, rfl, rfl⟩) | ((with_reducible refine (k4.go _).mono ?_); rintro _ _ ⟨n, rfl, rfl⟩)) | (go_at_call 176; refine ((isNaN_any _).go _).mono ?_; rintro _ _ ⟨n, rfl, rfl⟩) | (go_at_call 148; (with_reducible refine (en.go _).mono ?_); rintro _ _ ⟨n, rfl, rfl⟩))
  refine wp_loop_rounds 3 ?_
  rw [rounds_succ]
  go_wp2_with (first | (go_at_call 193; first | ((with_reducible refine (h1.go _).mono ?_); rintro _ _ ⟨n, rfl, rfl⟩) | ((with_reducible refine (k1.go _).mono ?_); rintro _ _ ⟨n, rfl, rfl⟩) | ((with_reducible refine (h2.go _).mono ?_); rintro _ _ ⟨n, rfl, rfl⟩) | ((with_reducible refine (k2.go _).mono ?_); rintro _ _ ⟨n, rfl, rfl⟩) | ((with_reducible refine (h3.go _).mono ?_); rintro _ _ ⟨n, rfl, rfl⟩) | ((with_reducible refine (k3.go _).mono ?_); rintro _ _ ⟨n, rfl, rfl⟩) | ((with_reducible refine (h4.go _).mono ?_); rintro _ _ ⟨n, rfl, rfl⟩) | ((with_reducible refine (k4.go _).mono ?_); rintro _ _ ⟨n, rfl, rfl⟩)) | (go_at_call 176; refine ((isNaN_any _).go _).mono ?_; rintro _ _ ⟨n, rfl, rfl⟩) | (go_at_call 148; (with_reducible refine (en.go _).mono ?_); rintro _ _ ⟨n, rfl, rfl⟩))
  rw [rounds_succ]
  go_wp2_with (first | (go_at_call 193; first | ((with_reducible refine (h1.go _).mono ?_); rintro _ _ ⟨n, rfl, rfl⟩) | ((with_reducible refine (k1.go _).mono ?_); rintro _ _ ⟨n, rfl, rfl⟩) | ((with_reducible refine (h2.go _).mono ?_); rintro _ _ ⟨n, rfl, rfl⟩) | ((with_reducible refine (k2.go _).mono ?_); rintro _ _ ⟨n, rfl, rfl⟩) | ((with_reducible refine (h3.go _).mono ?_); rintro _ _ ⟨n, rfl, rfl⟩) | ((with_reducible refine (k3.go _).mono ?_); rintro _ _ ⟨n, rfl, rfl⟩) | ((with_reducible refine (h4.go _).mono ?_); rintro _ _ ⟨n, rfl, rfl⟩) | ((with_reducible refine (k4.go _).mono ?_); rintro _ _ ⟨n, rfl, rfl⟩)) | (go_at_call 176; refine ((isNaN_any _).go _).mono ?_; rintro _ _ ⟨n, rfl, rfl⟩) | (go_at_call 148; (with_reducible refine (en.go _).mono ?_); rintro _ _ ⟨n, rfl, rfl⟩))
  rw [rounds_succ]
  go_wp2_with (first | (go_at_call 193; first | ((with_reducible refine (h1.go _).mono ?_); rintro _ _ ⟨n, rfl, rfl⟩) | ((with_reducible refine (k1.go _).mono ?_); rintro _ _ ⟨n, rfl, rfl⟩) | ((with_reducible refine (h2.go _).mono ?_); rintro _ _ ⟨n, rfl, rfl⟩) | ((with_reducible refine (k2.go _).mono ?_); rintro _ _ ⟨n, rfl, rfl⟩) | ((with_reducible refine (h3.go _).mono ?_); rintro _ _ ⟨n, rfl, rfl⟩) | ((with_reducible refine (k3.go _).mono ?_); rintro _ _ ⟨n, rfl, rfl⟩) | ((with_reducible refine (h4.go _).mono ?_); rintro _ _ ⟨n, rfl, rfl⟩) | ((with_reducible refine (k4.go _).mono ?_); rintro _ _ ⟨n, rfl, rfl⟩)) | (go_at_call 176; refine ((isNaN_any _).go _).mono ?_; rintro _ _ ⟨n, rfl, rfl⟩) | (go_at_call 148; (with_reducible refine (en.go _).mono ?_); rintro _ _ ⟨n, rfl, rfl⟩))
  rw [rounds_succ]
  go_wp2_with (first | (go_at_call 193; first | ((with_reducible refine (h1.go _).mono ?_); rintro _ _ ⟨n, rfl, rfl⟩) | ((with_reducible refine (k1.go _).mono ?_); rintro _ _ ⟨n, rfl, rfl⟩) | ((with_reducible refine (h2.go _).mono ?_); rintro _ _ ⟨n, rfl, rfl⟩) | ((with_reducible refine (k2.go _).mono ?_); rintro _ _ ⟨n, rfl, rfl⟩) | ((with_reducible refine (h3.go _).mono ?_); rintro _ _ ⟨n, rfl, rfl⟩) | ((with_reducible refine (k3.go _).mono ?_); rintro _ _ ⟨n, rfl, rfl⟩) | ((with_reducible refine (h4.go _).mono ?_); rintro _ _ ⟨n, rfl, rfl⟩) | ((with_reducible refine (k4.go _).mono ?_); rintro _ _ ⟨n, rfl, rfl⟩)) | (go_at_call 176; refine ((isNaN_any _).go _).mono ?_; rintro _ _ ⟨n, rfl, rfl⟩) | (go_at_call 148; (with_reducible refine (en.go _).mono ?_); rintro _ _ ⟨n, rfl, rfl⟩))
  refine wp_loop_rounds 3 ?_
  rw [rounds_succ]
  go_wp2_with (first | (go_at_call 193; first | ((with_reducible refine (h1.go _).mono ?_); rintro _ _ ⟨n, rfl, rfl⟩) | ((with_reducible refine (k1.go _).mono ?_); rintro _ _ ⟨n, rfl, rfl⟩) | ((with_reducible refine (h2.go _).mono ?_); rintro _ _ ⟨n, rfl, rfl⟩) | ((with_reducible refine (k2.go _).mono ?_); rintro _ _ ⟨n, rfl, rfl⟩) | ((with_reducible refine (h3.go _).mono ?_); rintro _ _ ⟨n, rfl, rfl⟩) | ((with_reducible refine (k3.go _).mono ?_); rintro _ _ ⟨n, rfl, rfl⟩) | ((with_reducible refine (h4.go _).mono ?_); rintro _ _ ⟨n, rfl, rfl⟩) | ((with_reducible refine (k4.go _).mono ?_); rintro _ _ ⟨n, rfl, rfl⟩)) | (go_at_call 176; refine ((isNaN_any _).go _).mono ?_; rintro _ _ ⟨n, rfl, rfl⟩) | (go_at_call 148; (with_reducible refine (en.go _).mono ?_); rintro _ _ ⟨n, rfl, rfl⟩))
  rw [rounds_succ]
  go_wp2_with (first | (go_at_call 193; first | ((with_reducible refine (h1.go _).mono ?_); rintro _ _ ⟨n, rfl, rfl⟩) | ((with_reducible refine (k1.go _).mono ?_); rintro _ _ ⟨n, rfl, rfl⟩) | ((with_reducible refine (h2.go _).mono ?_); rintro _ _ ⟨n, rfl, rfl⟩) | ((with_reducible refine (k2.go _).mono ?_); rintro _ _ ⟨n, rfl, rfl⟩) | ((with_reducible refine (h3.go _).mono ?_); rintro _ _ ⟨n, rfl, rfl⟩) | ((with_reducible refine (k3.go _).mono ?_); rintro _ _ ⟨n, rfl, rfl⟩) | ((with_reducible refine (h4.go _).mono ?_); rintro _ _ ⟨n, rfl, rfl⟩) | ((with_reducible refine (k4.go _).mono ?_); rintro _ _ ⟨n, rfl, rfl⟩)) | (go_at_call 176; refine ((isNaN_any _).go _).mono ?_; rintro _ _ ⟨n, rfl, rfl⟩) | (go_at_call 148; (with_reducible refine (en.go _).mono ?_); rintro _ _ ⟨n, rfl, rfl⟩))
  rw [rounds_succ]
  go_wp2_with (first | (go_at_call 193; first | ((with_reducible refine (h1.go _).mono ?_); rintro _ _ ⟨n, rfl, rfl⟩) | ((with_reducible refine (k1.go _).mono ?_); rintro _ _ ⟨n, rfl, rfl⟩) | ((with_reducible refine (h2.go _).mono ?_); rintro _ _ ⟨n, rfl, rfl⟩) | ((with_reducible refine (k2.go _).mono ?_); rintro _ _ ⟨n, rfl, rfl⟩) | ((with_reducible refine (h3.go _).mono ?_); rintro _ _ ⟨n, rfl, rfl⟩) | ((with_reducible refine (k3.go _).mono ?_); rintro _ _ ⟨n, rfl, rfl⟩) | ((with_reducible refine (h4.go _).mono ?_); rintro _ _ ⟨n, rfl, rfl⟩) | ((with_reducible refine (k4.go _).mono ?_); rintro _ _ ⟨n, rfl, rfl⟩)) | (go_at_call 176; refine ((isNaN_any _).go _).mono ?_; rintro _ _ ⟨n, rfl, rfl⟩) | (go_at_call 148; (with_reducible refine (en.go _).mono ?_); rintro _ _ ⟨n, rfl, rfl⟩))
  rw [rounds_succ]
  go_wp2_with (first | (go_at_call 193; first | ((with_reducible refine (h1.go _).mono ?_); rintro _ _ ⟨n, rfl, rfl⟩) | ((with_reducible refine (k1.go _).mono ?_); rintro _ _ ⟨n, rfl, rfl⟩) | ((with_reducible refine (h2.go _).mono ?_); rintro _ _ ⟨n, rfl, rfl⟩) | ((with_reducible refine (k2.go _).mono ?_); rintro _ _ ⟨n, rfl, rfl⟩) | ((with_reducible refine (h3.go _).mono ?_); rintro _ _ ⟨n, rfl, rfl⟩) | ((with_reducible refine (k3.go _).mono ?_); rintro _ _ ⟨n, rfl, rfl⟩) | ((with_reducible refine (h4.go _).mono ?_); rintro _ _ ⟨n, rfl, rfl⟩) | ((with_reducible refine (k4.go _).mono ?_); rintro _ _ ⟨n, rfl, rfl⟩)) | (go_at_call 176; refine ((isNaN_any _).go _).mono ?_; rintro _ _ ⟨n, rfl, rfl⟩) | (go_at_call 148; (with_reducible refine (en.go _).mono ?_); rintro _ _ ⟨n, rfl, rfl⟩))
  go_returns
  exact ⟨rfl, by (repeat' first | (with_reducible first | exact Below.refl _ _ | assumption | refine Later.belowOf _ ?_ ?_ | refine Below.alloc ?_ ?_ _ | refine Below.setCell ?_ ?_ _ | refine Below.drewN' _ ?_ | refine Below.drew ?_ | exact Ge.le) | go_size)⟩

theorem cut_world {P : Program} {c : Code} {Q : Exit → Act → World → Prop} {a : Act} {w : World} (h : ∀ W, w = W → c.wp P Q a W) : c.wp P Q a w := h w rfl

end Go.Proofs.YtpkgpkabmechkaaGreat
