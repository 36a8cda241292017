/- Contracts: intervals' products. -/
import Derived.Test.YtkmgfbhnioojhaaGreatPmW36x
namespace Go.Proofs.YtkmgfbhnioojhaaGreat
set_option linter.unusedSimpArgs false
set_option linter.unusedVariables false
open Go.RowKit
open Fl

/-- A float as the operations give it: a number; nought is the plain one. -/
structure Can (x : Nat) : Prop where
  lt : x < 18446744073709551616
  num : nan x = false
  zero : idx x = 0 → x = 0
theorem Can.inj {x y : Nat} (hx : Can x) (hy : Can y) : idx x = idx y → x = y := by
  intro h
  by_cases h0 : idx y = 0
  · rw [hy.zero h0, hx.zero (by rw [h]; exact h0)]
  · exact idx_inj hx.lt hy.lt h0 h
theorem can_bits {i : Int} (h1 : -9218868437227405312 ≤ i) (h2 : i ≤ 9218868437227405312) : Can (bitsOf i) := by
  obtain ⟨a, b, c⟩ := nan_bits h1 h2
  exact ⟨c, a, fun h => by rw [b] at h; rw [h]; rfl⟩
theorem can_rnd (S : Int) (D : Nat) (dir : Int) : Can (rnd S D dir) := by
  rw [rnd_eq]
  exact can_bits (plc_le _ _ _).1 (plc_le _ _ _).2
theorem can_pinf : Can 9218868437227405312 := ⟨by decide, by decide, by decide⟩
theorem can_ninf : Can 18442240474082181120 := ⟨by decide, by decide, by decide⟩
theorem can_inf (s : Bool) : Can (infW s) := by cases s; exact can_pinf; exact can_ninf
theorem can_zero : Can 0 := ⟨by decide, by decide, by decide⟩
theorem can_min {x y : Nat} (hx : Can x) (hy : Can y) : Can (minF x y) := by unfold minF; split <;> assumption
theorem can_max {x y : Nat} (hx : Can x) (hy : Can y) : Can (maxF x y) := by unfold maxF; split <;> assumption
theorem can_mul {a b : Nat} (dir : Int) (ha : nan a = false) (hb : nan b = false) : Can (mulS a b dir) := by
  unfold mulS
  rw [ha, hb]
  simp only [Bool.or_self, Bool.false_eq_true, if_false]
  split
  · exact can_zero
  · split
    · exact can_rnd _ _ _
    · exact can_inf _
theorem can_ends {a b : Nat} (ha : a < 18446744073709551616) (hb : b < 18446744073709551616) (h : noneB a b = false) : Can a ∧ Can b := by
  obtain ⟨n1, n2⟩ := nums_of h
  obtain ⟨p1, p2⟩ := plus_of h
  exact ⟨⟨ha, n1, plus_zero ha p1 n1⟩, ⟨hb, n2, plus_zero hb p2 n2⟩⟩

def lo4 (d1 d2 d3 d4 : Nat) : Nat := minF (minF (minF (minF 9218868437227405312 d1) d2) d3) d4
def hi4 (u1 u2 u3 u4 : Nat) : Nat := maxF (maxF (maxF (maxF 18442240474082181120 u1) u2) u3) u4

theorem feq_can {x : Nat} (h : Can x) : feq x x = true := by rw [feq_self, h.num]; rfl

set_option maxHeartbeats 4000000 in
theorem corners_mul (a b c d d1 d2 d3 d4 u1 u2 u3 u4 : Nat)
    (h1 : Gives 246 #[(.float .f64 a), (.float .f64 c), .int .i64 (-1)] (.float .f64 d1)) (h2 : Gives 246 #[(.float .f64 a), (.float .f64 d), .int .i64 (-1)] (.float .f64 d2))
    (h3 : Gives 246 #[(.float .f64 b), (.float .f64 c), .int .i64 (-1)] (.float .f64 d3)) (h4 : Gives 246 #[(.float .f64 b), (.float .f64 d), .int .i64 (-1)] (.float .f64 d4))
    (k1 : Gives 246 #[(.float .f64 a), (.float .f64 c), .int .i64 1] (.float .f64 u1)) (k2 : Gives 246 #[(.float .f64 a), (.float .f64 d), .int .i64 1] (.float .f64 u2))
    (k3 : Gives 246 #[(.float .f64 b), (.float .f64 c), .int .i64 1] (.float .f64 u3)) (k4 : Gives 246 #[(.float .f64 b), (.float .f64 d), .int .i64 1] (.float .f64 u4))
    (c1 : Can d1) (c2 : Can d2) (c3 : Can d3) (c4 : Can d4) (e1 : Can u1) (e2 : Can u2) (e3 : Can u3) (e4 : Can u4) :
    Gives 190 #[(.agg #[.float .f64 a, .float .f64 b]), (.agg #[.float .f64 c, .float .f64 d]), .func (.func 246) #[] #[]] (.agg #[.float .f64 ((endsI (lo4 d1 d2 d3 d4) (hi4 u1 u2 u3 u4)).1), .float .f64 ((endsI (lo4 d1 d2 d3 d4) (hi4 u1 u2 u3 u4)).2)]) := by
  intro w
  have n1 := feq_can c1
  have n2 := feq_can c2
  have n3 := feq_can c3
  have n4 := feq_can c4
  have cl1 := can_min can_pinf c1
  have cl2 := can_min cl1 c2
  have cl3 := can_min cl2 c3
  have cl4 := can_min cl3 c4
  have cu1 := can_max can_ninf e1
  have cu2 := can_max cu1 e2
  have cu3 := can_max cu2 e3
  have cu4 := can_max cu3 e4
  have m1 := fun (w : World) ts t => run_min_f (P := Tryz.prog) w ts t _ _ can_pinf.num c1.num (can_pinf.inj c1)
  have m2 := fun (w : World) ts t => run_min_f (P := Tryz.prog) w ts t _ _ cl1.num c2.num (cl1.inj c2)
  have m3 := fun (w : World) ts t => run_min_f (P := Tryz.prog) w ts t _ _ cl2.num c3.num (cl2.inj c3)
  have m4 := fun (w : World) ts t => run_min_f (P := Tryz.prog) w ts t _ _ cl3.num c4.num (cl3.inj c4)
  have x1 := fun (w : World) ts t => run_max_f (P := Tryz.prog) w ts t _ _ can_ninf.num e1.num (can_ninf.inj e1)
  have x2 := fun (w : World) ts t => run_max_f (P := Tryz.prog) w ts t _ _ cu1.num e2.num (cu1.inj e2)
  have x3 := fun (w : World) ts t => run_max_f (P := Tryz.prog) w ts t _ _ cu2.num e3.num (cu2.inj e3)
  have x4 := fun (w : World) ts t => run_max_f (P := Tryz.prog) w ts t _ _ cu3.num e4.num (cu3.inj e4)
  have en := ends_any _ _ cl4.lt cu4.lt cl4.num cu4.num
  unfold lo4 hi4
  generalize endsI (minF (minF (minF (minF 9218868437227405312 d1) d2) d3) d4) (maxF (maxF (maxF (maxF 18442240474082181120 u1) u2) u3) u4) = r at *
  generalize minF (minF (minF (minF 9218868437227405312 d1) d2) d3) d4 = l4 at *
  generalize minF (minF (minF 9218868437227405312 d1) d2) d3 = l3 at *
  generalize minF (minF 9218868437227405312 d1) d2 = l2 at *
  generalize minF 9218868437227405312 d1 = l1 at *
  generalize maxF (maxF (maxF (maxF 18442240474082181120 u1) u2) u3) u4 = g4 at *
  generalize maxF (maxF (maxF 18442240474082181120 u1) u2) u3 = g3 at *
  generalize maxF (maxF 18442240474082181120 u1) u2 = g2 at *
  generalize maxF 18442240474082181120 u1 = g1 at *
  clear c1 c2 c3 c4 e1 e2 e3 e4 cl1 cl2 cl3 cl4 cu1 cu2 cu3 cu4
  go_enter Tryz.func190, Tryz.ntmps190
  go_wp2_with (go_at_call 92; first | ((with_reducible refine (math_Inf_pos.go _).mono ?_); rintro _ _ ⟨n, rfl, rfl⟩) | ((with_reducible refine (math_Inf_neg.go _).mono ?_); rintro _ _ ⟨n, rfl, rfl⟩))
  refine wp_loop_rounds 3 ?_
  rw [rounds_succ]
  go_wp2_with (first | (go_at_call 246; first | ((with_reducible refine (h1.go _).mono ?_); rintro _ _ ⟨n, rfl, rfl⟩) | ((with_reducible refine (k1.go _).mono ?_); rintro _ _ ⟨n, rfl, rfl⟩) | ((with_reducible refine (h2.go _).mono ?_); rintro _ _ ⟨n, rfl, rfl⟩) | ((with_reducible refine (k2.go _).mono ?_); rintro _ _ ⟨n, rfl, rfl⟩) | ((with_reducible refine (h3.go _).mono ?_); rintro _ _ ⟨n, rfl, rfl⟩) | ((with_reducible refine (k3.go _).mono ?_); rintro _ _ ⟨n, rfl, rfl⟩) | ((with_reducible refine (h4.go _).mono ?_); rintro _ _ ⟨n, rfl, rfl⟩) | ((with_reducible refine (k4.go _).mono ?_); rintro _ _ ⟨n, rfl, rfl⟩)) | (go_at_call 221; refine ((isNaN_any _).go _).mono ?_; rintro _ _ ⟨n, rfl, rfl⟩) | (go_at_call 193; (with_reducible refine (en.go _).mono ?_); rintro _ _ ⟨n, rfl, rfl⟩))
  refine wp_loop_rounds 3 ?_
  rw [rounds_succ]
  go_wp2_with (first | (go_at_call 246; first | ((with_reducible refine (h1.go _).mono ?_); rintro _ _ ⟨n, rfl, rfl⟩) | ((with_reducible refine (k1.go _).mono ?_); rintro _ _ ⟨n, rfl, rfl⟩) | ((with_reducible refine (h2.go _).mono ?_); rintro _ _ ⟨n, rfl, rfl⟩) | ((with_reducible refine (k2.go _).mono ?_); rintro _ _ ⟨n, rfl, rfl⟩) | ((with_reducible refine (h3.go _).mono ?_); rintro _ _ ⟨n, rfl, rfl⟩) | ((with_reducible refine (k3.go _).mono ?_); rintro _ _ ⟨n, rfl, rfl⟩) | ((with_reducible refine (h4.go _).mono ?_); rintro _ _ ⟨n, rfl, rfl⟩) | ((with_reducible refine (k4.go _).mono ?_); rintro _ _ ⟨n, rfl, rfl⟩)) | (go_at_call 221; refine ((isNaN_any _).go _).mono ?_; rintro _ _ ⟨n, rfl, rfl⟩) | (go_at_call 193; (with_reducible refine (en.go _).mono ?_); rintro _ _ ⟨n, rfl, rfl⟩))
  rw [rounds_succ]
  go_wp2_with (first | (go_at_call 246; first | ((with_reducible refine (h1.go _).mono ?_); rintro _ _ ⟨n, rfl, rfl⟩) | ((with_reducible refine (k1.go _).mono ?_); rintro _ _ ⟨n, rfl, rfl⟩) | ((with_reducible refine (h2.go _).mono ?_); rintro _ _ ⟨n, rfl, rfl⟩) | ((with_reducible refine (k2.go _).mono ?_); rintro _ _ ⟨n, rfl, rfl⟩) | ((with_reducible refine (h3.go _).mono ?_); rintro _ _ ⟨n, rfl, rfl⟩) | ((with_reducible refine (k3.go _).mono ?_); rintro _ _ ⟨n, rfl, rfl⟩) | ((with_reducible refine (h4.go _).mono ?_); rintro _ _ ⟨n, rfl, rfl⟩) | ((with_reducible refine (k4.go _).mono ?_); rintro _ _ ⟨n, rfl, rfl⟩)) | (go_at_call 221; refine ((isNaN_any _).go _).mono ?_; rintro _ _ ⟨n, rfl, rfl⟩) | (go_at_call 193; (with_reducible refine (en.go _).mono ?_); rintro _ _ ⟨n, rfl, rfl⟩))
  rw [rounds_succ]
  go_wp2_with (first | (go_at_call 246; first | ((with_reducible refine (h1.go _).mono ?_); rintro _ _ ⟨n, rfl, rfl⟩) | ((with_reducible refine (k1.go _).mono ?_); rintro _ _ ⟨n, rfl, rfl⟩) | ((with_reducible refine (h2.go _).mono ?_); rintro _ _ ⟨n, rfl, rfl⟩) | ((with_reducible refine (k2.go _).mono ?_); rintro _ _ ⟨n, rfl, rfl⟩) | ((with_reducible refine (h3.go _).mono ?_); rintro _ _ ⟨n, rfl, rfl⟩) | ((with_reducible refine (k3.go _).mono ?_); rintro _ _ ⟨n, rfl, rfl⟩) | ((with_reducible refine (h4.go _).mono ?_); rintro _ _ ⟨n, rfl, rfl⟩) | ((with_reducible refine (k4.go _).mono ?_); rintro _ _ ⟨n, rfl, rfl⟩)) | (go_at_call 221; refine ((isNaN_any _).go _).mono ?_; rintro _ _ ⟨n, rfl, rfl⟩) | (go_at_call 193; (with_reducible refine (en.go _).mono ?_); rintro _ _ ⟨n, rfl, rfl⟩))
  rw [rounds_succ]
  go_wp2_with (first | (go_at_call 246; first | ((with_reducible refine (h1.go _).mono ?_); rintro _ _ ⟨n, rfl, rfl⟩) | ((with_reducible refine (k1.go _).mono ?_); rintro _ _ ⟨n, rfl, rfl⟩) | ((with_reducible refine (h2.go _).mono ?_); rintro _ _ ⟨n, rfl, rfl⟩) | ((with_reducible refine (k2.go _).mono ?_); rintro _ _ ⟨n, rfl, rfl⟩) | ((with_reducible refine (h3.go _).mono ?_); rintro _ _ ⟨n, rfl, rfl⟩) | ((with_reducible refine (k3.go _).mono ?_); rintro _ _ ⟨n, rfl, rfl⟩) | ((with_reducible refine (h4.go _).mono ?_); rintro _ _ ⟨n, rfl, rfl⟩) | ((with_reducible refine (k4.go _).mono ?_); rintro _ _ ⟨n, rfl, rfl⟩)) | (go_at_call 221; refine ((isNaN_any _).go _).mono ?_; rintro _ _ ⟨n, rfl, rfl⟩) | (go_at_call 193; (with_reducible refine (en.go _).mono ?_); rintro _ _ ⟨n, rfl, rfl⟩))
  refine wp_loop_rounds 3 ?_
  rw [rounds_succ]
  go_wp2_with (first | (go_at_call 246; first | ((with_reducible refine (h1.go _).mono ?_); rintro _ _ ⟨n, rfl, rfl⟩) | ((with_reducible refine (k1.go _).mono ?_); rintro _ _ ⟨n, rfl, rfl⟩) | ((with_reducible refine (h2.go _).mono ?_); rintro _ _ ⟨n, rfl, rfl⟩) | ((with_reducible refine (k2.go _).mono ?_); rintro _ _ ⟨n, rfl, rfl⟩) | ((with_reducible refine (h3.go _).mono ?_); rintro _ _ ⟨n, rfl, rfl⟩) | ((with_reducible refine (k3.go _).mono ?_); rintro _ _ ⟨n, rfl, rfl⟩) | ((with_reducible refine (h4.go _).mono ?_); rintro _ _ ⟨n, rfl, rfl⟩) | ((with_reducible refine (k4.go _).mono ?_); rintro _ _ ⟨n, rfl, rfl⟩)) | (go_at_call 221; refine ((isNaN_any _).go _).mono ?_; rintro _ _ ⟨n, rfl, rfl⟩) | (go_at_call 193; (with_reducible refine (en.go _).mono ?_); rintro _ _ ⟨n, rfl, rfl⟩))
  rw [rounds_succ]
  go_wp2_with (first | (go_at_call 246; first | ((with_reducible refine (h1.go _).mono ?_); rintro _ _ ⟨n, rfl, rfl⟩) | ((with_reducible refine (k1.go _).mono ?_); rintro _ _ ⟨n, rfl, rfl⟩) | ((with_reducible refine (h2.go _).mono ?_); rintro _ _ ⟨n, rfl, rfl⟩) | ((with_reducible refine (k2.go _).mono ?_); rintro _ _ ⟨n, rfl, rfl⟩) | ((with_reducible refine (h3.go _).mono ?_); rintro _ _ ⟨n, rfl, rfl⟩) | ((with_reducible refine (k3.go _).mono ?_); rintro _ _ ⟨n, rfl, rfl⟩) | ((with_reducible refine (h4.go _).mono ?_); rintro _ _ ⟨n, rfl, rfl⟩) | ((with_reducible refine (k4.go _).mono ?_); rintro _ _ ⟨n, rfl, rfl⟩)) | (go_at_call 221; refine ((isNaN_any _).go _).mono ?_; rintro _ _ ⟨n, rfl, rfl⟩) | (go_at_call 193; (with_reducible refine (en.go _).mono ?_); rintro _ _ ⟨n, rfl, rfl⟩))
  rw [rounds_succ]
  go_wp2_with (first | (go_at_call 246; first | ((with_reducible refine (h1.go _).mono ?_); rintro _ _ ⟨n, rfl, rfl⟩) | ((with_reducible refine (k1.go _).mono ?_); rintro _ _ ⟨n, rfl, rfl⟩) | ((with_reducible refine (h2.go _).mono ?_); rintro _ _ ⟨n, rfl, rfl⟩) | ((with_reducible refine (k2.go _).mono ?_); rintro _ _ ⟨n, rfl, rfl⟩) | ((with_reducible refine (h3.go _).mono ?_); rintro _ _ ⟨n, rfl, rfl⟩) | ((with_reducible refine (k3.go _).mono ?_); rintro _ _ ⟨n, rfl, rfl⟩) | ((with_reducible refine (h4.go _).mono ?_); rintro _ _ ⟨n, rfl, rfl⟩) | ((with_reducible refine (k4.go _).mono ?_); rintro _ _ ⟨n, rfl, rfl⟩)) | (go_at_call 221; refine ((isNaN_any _).go _).mono ?_; rintro _ _ ⟨n, rfl, rfl⟩) | (go_at_call 193; (with_reducible refine (en.go _).mono ?_); rintro _ _ ⟨n, rfl, rfl⟩))
  rw [rounds_succ]
  go_wp2_with (first | (go_at_call 246; first | ((with_reducible refine (h1.go _).mono ?_); rintro _ _ ⟨n, rfl, rfl⟩) | ((with_reducible refine (k1.go _).mono ?_); rintro _ _ ⟨n, rfl, rfl⟩) | ((with_reducible refine (h2.go _).mono ?_); rintro _ _ ⟨n, rfl, rfl⟩) | ((with_reducible refine (k2.go _).mono ?_); rintro _ _ ⟨n, rfl, rfl⟩) | ((with_reducible refine (h3.go _).mono ?_); rintro _ _ ⟨n, rfl, rfl⟩) | ((with_reducible refine (k3.go _).mono ?_); rintro _ _ ⟨n, rfl, rfl⟩) | ((with_reducible refine (h4.go _).mono ?_); rintro _ _ ⟨n, rfl, rfl⟩) | ((with_reducible refine (k4.go _).mono ?_); rintro _ _ ⟨n, rfl, rfl⟩)) | (go_at_call 221; refine ((isNaN_any _).go _).mono ?_; rintro _ _ ⟨n, rfl, rfl⟩) | (go_at_call 193; (with_reducible refine (en.go _).mono ?_); rintro _ _ ⟨n, rfl, rfl⟩))
  go_returns
  exact ⟨rfl, by (repeat' first | (with_reducible first | exact Below.refl _ _ | assumption | refine Later.belowOf _ ?_ ?_ | refine Below.alloc ?_ ?_ _ | refine Below.setCell ?_ ?_ _ | refine Below.drewN' _ ?_ | refine Below.drew ?_ | exact Ge.le) | go_size)⟩

theorem cut_world {P : Program} {c : Code} {Q : Exit → Act → World → Prop} {a : Act} {w : World} (h : ∀ W, w = W → c.wp P Q a W) : c.wp P Q a w := h w rfl

theorem set_cong {A X : World} {B : Nat} {p : Addr} {a : Value} (h : Below B A X) : Below B (A.setCell p a) (X.setCell p a) := by
  refine ⟨h.os, h.tape, h.output, ?_, ?_⟩
  · have := h.size
    simpa using this
  · intro k hk
    have hb := h.block k hk
    unfold World.setCell
    simp only [Array.getElem?_modify]
    rw [hb]

/-- A block of two floats with two new blocks behind it. -/
def Wx (V : World) (l q : Nat) (o1 o2 : Obj) : World := ((V.alloc (Obj.cells #[(.float .f64 l), (.float .f64 q)] 24)).alloc o1).alloc o2

theorem two_cells {V X : World} {l q l' q' : Nat} {o1 o2 : Obj} (h : Below (Wx V l q o1 o2).heap.size (Wx V l q o1 o2) X) :
    Below (Wx V l' q' o1 o2).heap.size (Wx V l' q' o1 o2) ((X.setCell ⟨V.heap.size, 0, none⟩ (.float .f64 l')).setCell ⟨V.heap.size, 1, none⟩ (.float .f64 q')) := by
  have hs : (Wx V l' q' o1 o2).heap.size = (Wx V l q o1 o2).heap.size := by simp [Wx]
  refine ⟨h.os, h.tape, h.output, ?_, ?_⟩
  · have := h.size
    rw [hs]; simpa using this
  · intro k hk
    have hb := h.block k (by rw [← hs]; exact hk)
    unfold World.setCell
    simp only [Array.getElem?_modify]
    by_cases e : V.heap.size = k
    · subst e
      have e1 : (Wx V l q o1 o2).heap[V.heap.size]? = some (Obj.cells #[(.float .f64 l), (.float .f64 q)] 24) := by
        unfold Wx World.alloc
        simp [Array.getElem?_push]
        omega
      have e2 : (Wx V l' q' o1 o2).heap[V.heap.size]? = some (Obj.cells #[(.float .f64 l'), (.float .f64 q')] 24) := by
        unfold Wx World.alloc
        simp [Array.getElem?_push]
        omega
      rw [hb, e1, e2]
      simp
    · simp only [e, if_false]
      rw [hb]
      unfold Wx World.alloc
      simp only [Array.getElem?_push, Array.size_push]
      split
      · rfl
      · split
        · rfl
        · split
          · omega
          · rfl

theorem flat_one {V X : World} {l q : Nat} (l2 q2 : Nat) {o1 o2 : Obj} (h : Below (Wx V l q o1 o2).heap.size (Wx V l q o1 o2) X) :
    ∃ k : Later (((V.alloc (Obj.cells #[(.float .f64 l2), (.float .f64 q2)] 24)).alloc o1).alloc o2), (X.setCell ⟨V.heap.size, 0, none⟩ (.float .f64 l2)).setCell ⟨V.heap.size, 1, none⟩ (.float .f64 q2) = k.val :=
  ⟨⟨_, two_cells h⟩, rfl⟩

theorem flat_two {V X : World} {l q : Nat} (l2 q2 : Nat) {o1 o2 o3 : Obj} (m : Later (((V.alloc (Obj.cells #[(.float .f64 l), (.float .f64 q)] 24)).alloc o1).alloc o2)) (h : Below (m.val.alloc o3).heap.size (m.val.alloc o3) X) :
    ∃ (k : Later (((V.alloc (Obj.cells #[(.float .f64 l2), (.float .f64 q2)] 24)).alloc o1).alloc o2)) (n : Later (k.val.alloc o3)), m.val.heap.size = k.val.heap.size ∧ (X.setCell ⟨V.heap.size, 0, none⟩ (.float .f64 l2)).setCell ⟨V.heap.size, 1, none⟩ (.float .f64 q2) = n.val := by
  have hV : V.heap.size < m.val.heap.size := by have := m.below.size; simp at this; omega
  refine ⟨⟨(m.val.setCell ⟨V.heap.size, 0, none⟩ (.float .f64 l2)).setCell ⟨V.heap.size, 1, none⟩ (.float .f64 q2), two_cells (l := l) (q := q) m.below⟩, ⟨(X.setCell ⟨V.heap.size, 0, none⟩ (.float .f64 l2)).setCell ⟨V.heap.size, 1, none⟩ (.float .f64 q2), ?_⟩, by simp, rfl⟩
  have h3 := set_cong (p := ⟨V.heap.size, 1, none⟩) (a := (.float .f64 q2)) (set_cong (p := ⟨V.heap.size, 0, none⟩) (a := (.float .f64 l2)) h)
  refine ⟨h3.os, h3.tape, h3.output, ?_, ?_⟩
  · have := h3.size; simpa using this
  · intro k hk
    have hk2 : k < (m.val.alloc o3).heap.size := by simpa using hk
    rw [h3.block k hk2]
    unfold World.setCell World.alloc
    simp only [Array.getElem?_modify, Array.getElem?_push, Array.size_modify]
    by_cases e : k = m.val.heap.size
    · subst e
      rw [if_neg (by omega), if_neg (by omega), if_pos rfl]
      simp
    · simp [e]

set_option maxHeartbeats 1000000 in
theorem wider_any (x y lo hi : Nat) : Gives 119 #[(.agg #[.float .f64 x, .float .f64 y]), (.float .f64 lo), (.float .f64 hi)] (.agg #[.float .f64 (minF x lo), .float .f64 (maxF y hi)]) := by
  intro w
  unfold minF maxF
  rcases fot (flt lo x) with h0 | h0 <;> rcases fot (flt y hi) with h1 | h1
  all_goals
    simp only [h0, h1, ite_true, Bool.false_eq_true, ite_false]
    go_enter Tryz.func119, Tryz.ntmps119
    go_wp2
    go_returns
    exact ⟨rfl, by (repeat' first | (with_reducible first | exact Below.refl _ _ | assumption | refine Later.belowOf _ ?_ ?_ | refine Below.alloc ?_ ?_ _ | refine Below.setCell ?_ ?_ _ | refine Below.drewN' _ ?_ | refine Below.drew ?_ | exact Ge.le) | go_size)⟩

set_option maxHeartbeats 4000000 in
theorem mulref_cnr (a b c d d1 d2 d3 d4 u1 u2 u3 u4 : Nat) (nx : Gives 15 #[(.agg #[.float .f64 a, .float .f64 b])] (.bool false)) (ny : Gives 15 #[(.agg #[.float .f64 c, .float .f64 d])] (.bool false))
    (h1 : Gives 107 #[(.float .f64 a), (.float .f64 c), .int .i64 (-1)] (.float .f64 d1)) (h2 : Gives 107 #[(.float .f64 a), (.float .f64 d), .int .i64 (-1)] (.float .f64 d2))
    (h3 : Gives 107 #[(.float .f64 b), (.float .f64 c), .int .i64 (-1)] (.float .f64 d3)) (h4 : Gives 107 #[(.float .f64 b), (.float .f64 d), .int .i64 (-1)] (.float .f64 d4))
    (k1 : Gives 107 #[(.float .f64 a), (.float .f64 c), .int .i64 1] (.float .f64 u1)) (k2 : Gives 107 #[(.float .f64 a), (.float .f64 d), .int .i64 1] (.float .f64 u2))
    (k3 : Gives 107 #[(.float .f64 b), (.float .f64 c), .int .i64 1] (.float .f64 u3)) (k4 : Gives 107 #[(.float .f64 b), (.float .f64 d), .int .i64 1] (.float .f64 u4))
    (c4 : lo4 d1 d2 d3 d4 < 18446744073709551616) (e4 : hi4 u1 u2 u3 u4 < 18446744073709551616) :
    Gives 47 #[(.agg #[.float .f64 a, .float .f64 b]), (.agg #[.float .f64 c, .float .f64 d])] (.agg #[.float .f64 ((endsI (lo4 d1 d2 d3 d4) (hi4 u1 u2 u3 u4)).1), .float .f64 ((endsI (lo4 d1 d2 d3 d4) (hi4 u1 u2 u3 u4)).2)]) := by
  intro w
  have en := ends_ref_any _ _ c4 e4
  have v1 := wider_any 9218868437227405312 18442240474082181120 d1 u1
  have v2 := wider_any (minF 9218868437227405312 d1) (maxF 18442240474082181120 u1) d2 u2
  have v3 := wider_any (minF (minF 9218868437227405312 d1) d2) (maxF (maxF 18442240474082181120 u1) u2) d3 u3
  have v4 := wider_any (minF (minF (minF 9218868437227405312 d1) d2) d3) (maxF (maxF (maxF 18442240474082181120 u1) u2) u3) d4 u4
  clear c4 e4
  unfold lo4 hi4 at *
  generalize endsI (minF (minF (minF (minF 9218868437227405312 d1) d2) d3) d4) (maxF (maxF (maxF (maxF 18442240474082181120 u1) u2) u3) u4) = r at *
  generalize minF (minF (minF (minF 9218868437227405312 d1) d2) d3) d4 = l4 at *
  generalize minF (minF (minF 9218868437227405312 d1) d2) d3 = l3 at *
  generalize minF (minF 9218868437227405312 d1) d2 = l2 at *
  generalize minF 9218868437227405312 d1 = l1 at *
  generalize maxF (maxF (maxF (maxF 18442240474082181120 u1) u2) u3) u4 = q4 at *
  generalize maxF (maxF (maxF 18442240474082181120 u1) u2) u3 = q3 at *
  generalize maxF (maxF 18442240474082181120 u1) u2 = q2 at *
  generalize maxF 18442240474082181120 u1 = q1 at *
  go_enter Tryz.func47, Tryz.ntmps47
  go_wp2_with (go_at_call 15; first | ((with_reducible refine (nx.go _).mono ?_); rintro _ _ ⟨n, rfl, rfl⟩) | ((with_reducible refine (ny.go _).mono ?_); rintro _ _ ⟨n, rfl, rfl⟩))
  go_at_call 17
  refine (empty2_any.go _).mono ?_
  rintro _ _ ⟨nE, rfl, rfl⟩
  go_wp2_with (fail)
  refine wp_loop_rounds 3 ?_
  rw [rounds_succ]
  go_wp2_with (fail)
  refine wp_loop_rounds 3 ?_
  rw [rounds_succ]
  go_upto_block 3 with (fail)
  refine cut_world ?_
  intro W0 eW0
  go_cut [45] (fun v wc => ∃ n : Later (((nE.val.alloc (Obj.cells #[(.float .f64 l1), (.float .f64 q1)] 24)).alloc (Obj.cells #[(.float .f64 a), (.float .f64 b)] 22)).alloc (Obj.cells #[(.float .f64 c), (.float .f64 d)] 22)), wc = n.val)
  case first =>
    subst eW0
    go_wp2_with (fail)
    go_region_with (first | (go_at_call 107; first | ((with_reducible refine (h1.go _).mono ?_); rintro _ _ ⟨n, rfl, rfl⟩) | ((with_reducible refine (k1.go _).mono ?_); rintro _ _ ⟨n, rfl, rfl⟩)) | (go_at_call 119; ((with_reducible refine (v1.go _).mono ?_); rintro _ _ ⟨n, rfl, rfl⟩)))
    all_goals
      generalize hw : (n.val.setCell ⟨nE.val.heap.size, 0, none⟩ (.float .f64 l1)).setCell ⟨nE.val.heap.size, 1, none⟩ (.float .f64 q1) = wz
      go_wp2
      go_meet
      case rel => exact hw ▸ flat_one (V := nE.val) (l := 9218868437227405312) (q := 18442240474082181120) (o1 := (Obj.cells #[(.float .f64 a), (.float .f64 b)] 22)) (o2 := (Obj.cells #[(.float .f64 c), (.float .f64 d)] 22)) l1 q1 (by unfold Wx; (repeat' first | (with_reducible first | exact Below.refl _ _ | assumption | refine Later.belowOf _ ?_ ?_ | refine Below.alloc ?_ ?_ _ | refine Below.setCell ?_ ?_ _ | refine Below.drewN' _ ?_ | refine Below.drew ?_ | exact Ge.le) | go_size))
  obtain ⟨m0, rfl⟩ := hcut
  subst eW0
  go_wp2_with (fail)
  rw [rounds_succ]
  go_upto_block 3 with (fail)
  refine cut_world ?_
  intro W1 eW1
  go_cut [45] (fun v wc => ∃ n : Later (((nE.val.alloc (Obj.cells #[(.float .f64 l2), (.float .f64 q2)] 24)).alloc (Obj.cells #[(.float .f64 a), (.float .f64 b)] 22)).alloc (Obj.cells #[(.float .f64 c), (.float .f64 d)] 22)), wc = n.val)
  case first =>
    subst eW1
    go_wp2_with (fail)
    go_region_with (first | (go_at_call 107; first | ((with_reducible refine (h2.go _).mono ?_); rintro _ _ ⟨n, rfl, rfl⟩) | ((with_reducible refine (k2.go _).mono ?_); rintro _ _ ⟨n, rfl, rfl⟩)) | (go_at_call 119; ((with_reducible refine (v2.go _).mono ?_); rintro _ _ ⟨n, rfl, rfl⟩)))
    all_goals
      generalize hw : (n.val.setCell ⟨nE.val.heap.size, 0, none⟩ (.float .f64 l2)).setCell ⟨nE.val.heap.size, 1, none⟩ (.float .f64 q2) = wz
      go_wp2
      go_meet
      case rel => exact hw ▸ flat_one (V := nE.val) (l := l1) (q := q1) (o1 := (Obj.cells #[(.float .f64 a), (.float .f64 b)] 22)) (o2 := (Obj.cells #[(.float .f64 c), (.float .f64 d)] 22)) l2 q2 (by unfold Wx; (repeat' first | (with_reducible first | exact Below.refl _ _ | assumption | refine Later.belowOf _ ?_ ?_ | refine Below.alloc ?_ ?_ _ | refine Below.setCell ?_ ?_ _ | refine Below.drewN' _ ?_ | refine Below.drew ?_ | exact Ge.le) | go_size))
  obtain ⟨m1, rfl⟩ := hcut
  subst eW1
  go_wp2_with (fail)
  rw [rounds_succ]
  go_wp2_with (fail)
  rw [rounds_succ]
  go_wp2_with (fail)
  refine wp_loop_rounds 3 ?_
  rw [rounds_succ]
  go_upto_block 3 with (fail)
  refine cut_world ?_
  intro W2 eW2
  go_cut [45] (fun v wc => ∃ (k : Later (((nE.val.alloc (Obj.cells #[(.float .f64 l3), (.float .f64 q3)] 24)).alloc (Obj.cells #[(.float .f64 a), (.float .f64 b)] 22)).alloc (Obj.cells #[(.float .f64 c), (.float .f64 d)] 22))) (n : Later (k.val.alloc (Obj.cells #[(.float .f64 c), (.float .f64 d)] 22))), m1.val.heap.size = k.val.heap.size ∧ wc = n.val)
  case first =>
    subst eW2
    go_wp2_with (fail)
    go_region_with (first | (go_at_call 107; first | ((with_reducible refine (h3.go _).mono ?_); rintro _ _ ⟨n, rfl, rfl⟩) | ((with_reducible refine (k3.go _).mono ?_); rintro _ _ ⟨n, rfl, rfl⟩)) | (go_at_call 119; ((with_reducible refine (v3.go _).mono ?_); rintro _ _ ⟨n, rfl, rfl⟩)))
    all_goals
      generalize hw : (n.val.setCell ⟨nE.val.heap.size, 0, none⟩ (.float .f64 l3)).setCell ⟨nE.val.heap.size, 1, none⟩ (.float .f64 q3) = wz
      go_wp2
      go_meet
      case rel => exact hw ▸ flat_two l3 q3 m1 (by (repeat' first | (with_reducible first | exact Below.refl _ _ | assumption | refine Later.belowOf _ ?_ ?_ | refine Below.alloc ?_ ?_ _ | refine Below.setCell ?_ ?_ _ | refine Below.drewN' _ ?_ | refine Below.drew ?_ | exact Ge.le) | go_size))
  obtain ⟨m2, n2, hz2, rfl⟩ := hcut
  subst eW2
  rw [hz2]
  clear hz2 m1
  go_wp2_with (fail)
  rw [rounds_succ]
  go_upto_block 3 with (fail)
  refine cut_world ?_
  intro W3 eW3
  go_cut [45] (fun v wc => ∃ (k : Later (((nE.val.alloc (Obj.cells #[(.float .f64 l4), (.float .f64 q4)] 24)).alloc (Obj.cells #[(.float .f64 a), (.float .f64 b)] 22)).alloc (Obj.cells #[(.float .f64 c), (.float .f64 d)] 22))) (n : Later (k.val.alloc (Obj.cells #[(.float .f64 c), (.float .f64 d)] 22))), m2.val.heap.size = k.val.heap.size ∧ wc = n.val)
  case first =>
    subst eW3
    go_wp2_with (fail)
    go_region_with (first | (go_at_call 107; first | ((with_reducible refine (h4.go _).mono ?_); rintro _ _ ⟨n, rfl, rfl⟩) | ((with_reducible refine (k4.go _).mono ?_); rintro _ _ ⟨n, rfl, rfl⟩)) | (go_at_call 119; ((with_reducible refine (v4.go _).mono ?_); rintro _ _ ⟨n, rfl, rfl⟩)))
    all_goals
      generalize hw : (n.val.setCell ⟨nE.val.heap.size, 0, none⟩ (.float .f64 l4)).setCell ⟨nE.val.heap.size, 1, none⟩ (.float .f64 q4) = wz
      go_wp2
      go_meet
      case rel => exact hw ▸ flat_two l4 q4 m2 (by (repeat' first | (with_reducible first | exact Below.refl _ _ | assumption | refine Later.belowOf _ ?_ ?_ | refine Below.alloc ?_ ?_ _ | refine Below.setCell ?_ ?_ _ | refine Below.drewN' _ ?_ | refine Below.drew ?_ | exact Ge.le) | go_size))
  obtain ⟨m3, n3, hz3, rfl⟩ := hcut
  subst eW3
  rw [hz3]
  clear hz3
  go_wp2_with (fail)
  rw [rounds_succ]
  go_wp2_with (fail)
  rw [rounds_succ]
  go_wp2_with (go_at_call 120; (with_reducible refine (en.go _).mono ?_); rintro _ _ ⟨n, rfl, rfl⟩)
  go_returns
  exact ⟨rfl, by (repeat' first | (with_reducible first | exact Below.refl _ _ | assumption | refine Later.belowOf _ ?_ ?_ | refine Below.alloc ?_ ?_ _ | refine Below.setCell ?_ ?_ _ | refine Below.drewN' _ ?_ | refine Below.drew ?_ | exact Ge.le) | go_size)⟩
end Go.Proofs.YtkmgfbhnioojhaaGreat
