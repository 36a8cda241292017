/- Contracts: the exponential. -/
import Derived.Test.YtkmgfbhnioojhaaGreatPmE1
import Derived.IntWalk
namespace Go.Proofs.YtkmgfbhnioojhaaGreat
set_option linter.unusedSimpArgs false
set_option linter.unusedVariables false
open Go.RowKit
open Fl

theorem to_later {f : FuncId} {args : Array Value} {v : Value} {w : World} (h : Calls Tryz.prog f args w fun e w' => e = .returned v ∧ Below w.heap.size w w') :
    Calls Tryz.prog f args w fun e w' => ∃ n : Later w, e = .returned v ∧ w' = n.val := h.mono fun _ w' ⟨he, hb⟩ => ⟨⟨w', hb⟩, he, rfl⟩

/-- The series, at its number as it stands in the text. -/
theorem series_n (N : Int) (n : Nat) (e : N = n) (hn : n ≤ 100) {K : FuncId} {caps : Array Value} {F : Int → Nat × Nat} (hF : ∀ i, Lt (F i)) {w : World} (hK : FnOk K caps F w) {R : Nat × Nat} (hR : serP F n (wholeP 1) = R) :
    Calls Tryz.prog 167 #[.int .i64 N, .func (.func K) #[] caps] w fun e w' => ∃ q : Later w, e = .returned (.agg #[.float .f64 R.1, .float .f64 R.2]) ∧ w' = q.val := by
  subst e
  subst hR
  exact to_later (series_c n hn K caps F hF w hK)

theorem ln2_c : Gives 37 #[] (.agg #[.float .f64 4604418534313441775, .float .f64 4604418534313441776]) := by
  intro w
  go_enter Tryz.func37, Tryz.ntmps37
  go_wp2
  go_returns
  exact ⟨rfl, by (repeat' first | (with_reducible first | exact Below.refl _ _ | assumption | refine Later.belowOf _ ?_ ?_ | refine Below.alloc ?_ ?_ _ | refine Below.setCell ?_ ?_ _ | refine Below.drewN' _ ?_ | refine Below.drew ?_ | exact Ge.le) | go_size)⟩
theorem pi_c : Gives 36 #[] (.agg #[.float .f64 4614256656552045848, .float .f64 4614256656552045849]) := by
  intro w
  go_enter Tryz.func36, Tryz.ntmps36
  go_wp2
  go_returns
  exact ⟨rfl, by (repeat' first | (with_reducible first | exact Below.refl _ _ | assumption | refine Later.belowOf _ ?_ ?_ | refine Below.alloc ?_ ?_ _ | refine Below.setCell ?_ ?_ _ | refine Below.drewN' _ ?_ | refine Below.drew ?_ | exact Ge.le) | go_size)⟩

theorem ln2_p : Gives 37 #[] (.agg #[.float .f64 ln2P.1, .float .f64 ln2P.2]) := by unfold ln2P; exact ln2_c
theorem pi_p : Gives 36 #[] (.agg #[.float .f64 piP.1, .float .f64 piP.2]) := by unfold piP; exact pi_c

theorem half_bd {k : Int} (h1 : -1701 ≤ k) (h2 : k ≤ 1701) : -851 ≤ k.tdiv 2 ∧ k.tdiv 2 ≤ 851 ∧ -852 ≤ k - k.tdiv 2 ∧ k - k.tdiv 2 ≤ 852 := by
  by_cases h : 0 ≤ k
  · rw [Int.tdiv_eq_ediv_of_nonneg h]; omega
  · obtain ⟨j, rfl⟩ : ∃ j : Int, k = -j := ⟨-k, by omega⟩
    rw [Int.neg_tdiv, Int.tdiv_eq_ediv_of_nonneg (by omega)]; omega

/-- The numbers of a machine's operation. -/
theorem op_val {op : BinOp} {a b r : Nat} (h : floatBits op .f64 a b = some r) : (∀ w, fop op a b w = r) ∧ nd op a b = 0 := ⟨fun w => fop_some w h, by unfold nd; rw [h]; rfl⟩
theorem cv_int {x : Nat} {n : Int} (h : floatToIntVal .f64 x .i64 = some n) (w : World) : (convert 22 3 (.float .f64 x)).run Tryz.prog w = .ok (.int .i64 n) w :=
  run_convert_float_int w 22 3 .f64 .i64 x n (by rw [Tryz.underlying22]; rfl) Tryz.underlying3 h

set_option maxHeartbeats 4000000 in
set_option maxRecDepth 100000 in
theorem exp_core (v q X k r1 r2 s1 s2 t1 t2 e75 d2 d3 v1 v2 k1 k2 m1 m2 u1 u2 n1 n2 y1 y2 z1 z2 l1 l2 : Nat) (ki : Int) (LN : Gives 37 #[] (.agg #[.float .f64 l1, .float .f64 l2])) (h0 : flt 4649456441864749056 v = false) (h1 : flt v 13873145138068324352 = false)
    (q1a : ∀ w, fop .quo v 4604418534313441775 w = q) (q1b : nd .quo v 4604418534313441775 = 0) (q2a : ∀ w, fop .add q 4602678819172646912 w = X) (q2b : nd .add q 4602678819172646912 = 0)
    (cv : ∀ w, (convert 22 3 (.float .f64 k)).run Tryz.prog w = .ok (.int .i64 ki) w) (FC : Gives 165 #[(.float .f64 X)] (.float .f64 k)) (P1 : Gives 53 #[(.float .f64 v)] (.agg #[.float .f64 v1, .float .f64 v2])) (P2 : Gives 53 #[(.float .f64 k)] (.agg #[.float .f64 k1, .float .f64 k2]))
    (M1 : Gives 166 #[(.agg #[.float .f64 k1, .float .f64 k2]), (.agg #[.float .f64 l1, .float .f64 l2])] (.agg #[.float .f64 m1, .float .f64 m2])) (S1 : Gives 117 #[(.agg #[.float .f64 v1, .float .f64 v2]), (.agg #[.float .f64 m1, .float .f64 m2])] (.agg #[.float .f64 r1, .float .f64 r2]))
    (SR : ∀ (b : Nat) (W : World), Box W b (r1, r2) → Calls Tryz.prog 167 #[.int .i64 18, .func (.func 168) #[] #[.pointer (some ⟨b, 0, none⟩)]] W fun e w' => ∃ q : Later W, e = .returned (.agg #[.float .f64 s1, .float .f64 s2]) ∧ w' = q.val)
    (L1 : Gives 170 #[(.float .f64 4607182418800017408), .int .i64 (-75)] (.float .f64 e75)) (A1 : Gives 169 #[(.agg #[.float .f64 s1, .float .f64 s2]), (.float .f64 e75)] (.agg #[.float .f64 t1, .float .f64 t2]))
    (b1 : -851 ≤ ki.tdiv 2) (b2 : ki.tdiv 2 ≤ 851) (b3 : -1701 ≤ ki) (b4 : ki ≤ 1701)
    (L2 : Gives 170 #[(.float .f64 4607182418800017408), .int .i64 (ki.tdiv 2)] (.float .f64 d2)) (P3 : Gives 53 #[(.float .f64 d2)] (.agg #[.float .f64 u1, .float .f64 u2])) (M2 : Gives 166 #[(.agg #[.float .f64 t1, .float .f64 t2]), (.agg #[.float .f64 u1, .float .f64 u2])] (.agg #[.float .f64 n1, .float .f64 n2]))
    (L3 : Gives 170 #[(.float .f64 4607182418800017408), .int .i64 (ki - ki.tdiv 2)] (.float .f64 d3)) (P4 : Gives 53 #[(.float .f64 d3)] (.agg #[.float .f64 y1, .float .f64 y2])) (M3 : Gives 166 #[(.agg #[.float .f64 n1, .float .f64 n2]), (.agg #[.float .f64 y1, .float .f64 y2])] (.agg #[.float .f64 z1, .float .f64 z2])) :
    Gives 84 #[(.float .f64 v)] (.agg #[.float .f64 z1, .float .f64 z2]) := by
  intro w
  go_enter Tryz.func84, Tryz.ntmps84
  go_wp2_with (first
    | (go_at_call 165; (with_reducible refine (FC.go _).mono ?_); rintro _ _ ⟨n, rfl, rfl⟩)
    | (go_at_call 53; first | ((with_reducible refine (P1.go _).mono ?_); rintro _ _ ⟨n, rfl, rfl⟩) | ((with_reducible refine (P2.go _).mono ?_); rintro _ _ ⟨n, rfl, rfl⟩))
    | (go_at_call 37; (with_reducible refine (LN.go _).mono ?_); rintro _ _ ⟨n, rfl, rfl⟩)
    | (go_at_call 166; (with_reducible refine (M1.go _).mono ?_); rintro _ _ ⟨n, rfl, rfl⟩)
    | (go_at_call 117; (with_reducible refine (S1.go _).mono ?_); rintro _ _ ⟨n, rfl, rfl⟩)
    | (go_at_call 167; (with_reducible refine (SR _ _ (Box.new _ _ _)).mono ?_); rintro _ _ ⟨n, rfl, rfl⟩))
  (refine wp_region_tail_later 3 (by kernel_rfl) (by kernel_rfl) ?_; simp only [List.take_succ_cons, List.take_zero, List.drop_succ_cons, List.drop_zero])
  repeat (go_big_quiet_step (first | (go_at_call 170; (with_reducible exact L1.later _)) | (go_at_call 169; (with_reducible exact A1.later _))))
  (refine wpQuiet_nil ?_; rintro _ ⟨nq, rfl⟩)
  go_wp2
  (refine wp_region_tail_later 12 (by kernel_rfl) (by kernel_rfl) ?_; simp only [List.take_succ_cons, List.take_zero, List.drop_succ_cons, List.drop_zero])
  repeat (go_big_quiet_step (first | (go_at_call 170; first | (with_reducible exact L2.later _) | (with_reducible exact L3.later _)) | (go_at_call 53; first | (with_reducible exact P3.later _) | (with_reducible exact P4.later _)) | (go_at_call 166; first | (with_reducible exact M2.later _) | (with_reducible exact M3.later _))))
  (refine wpQuiet_nil ?_; rintro _ ⟨nq, rfl⟩)
  go_wp2
  go_returns
  exact ⟨rfl, by (repeat' first | (with_reducible first | exact Below.refl _ _ | assumption | refine Later.belowOf _ ?_ ?_ | refine Below.alloc ?_ ?_ _ | refine Below.setCell ?_ ?_ _ | refine Below.drewN' _ ?_ | refine Below.drew ?_ | exact Ge.le) | go_size)⟩

set_option maxHeartbeats 4000000 in
theorem exp_c {v : Nat} (hv : v < 18446744073709551616) (nv : nan v = false) : Gives 84 #[(.float .f64 v)] (.agg #[.float .f64 ((expV v).1), .float .f64 ((expV v).2)]) := by
  intro w
  unfold expV
  rcases fot (flt 4649456441864749056 v) with h0 | h0
  · rcases fot (flt v 13873145138068324352) with h1 | h1
    · rw [h0, h1]
      simp only [Bool.false_eq_true, if_false]
      have i1 : idx v ≤ 4649456441864749056 := by
        have : ¬ idx 4649456441864749056 < idx v := fun h => by rw [flt_true.2 ⟨by decide, nv, h⟩] at h0; cases h0
        have e : idx 4649456441864749056 = 4649456441864749056 := by decide
        omega
      have i2 : -4649773101213548544 ≤ idx v := by
        have : ¬ idx v < idx 13873145138068324352 := fun h => by rw [flt_true.2 ⟨nv, by decide, h⟩] at h1; cases h1
        have e : idx 13873145138068324352 = -4649773101213548544 := by decide
        omega
      obtain ⟨q1, q2, q3, q4, q5, q6, q7, q8⟩ := near_ln2 nv i1 i2
      obtain ⟨q1a, q1b⟩ := op_val q1
      obtain ⟨q2a, q2b⟩ := op_val q2
      have cv := cv_int q8
      obtain ⟨b1, b2, b3, b4⟩ := half_bd (k := nearI v 4604418534313441775) (by omega) (by omega)
      have L75 := ldexp_one (-75) (by omega) (by omega)
      have A75 := fun {x : Nat × Nat} (h : Lt x) => around_c h (ldx_lt (-75))
      unfold expT expS expR
      have lk := lt_pt q5
      have lv := lt_pt hv
      have lr := lt_sub lv (lt_mul lk lt_ln2)
      have ls := lt_ser (F := fun i => divP (subP (ptP v) (mulP (ptP (nearF v 4604418534313441775)) ln2P)) (wholeP i)) (fun i => lt_div) 18 (lt_whole 1)
      have la := lt_around ls (ldx_lt (-75))
      have l2 := lt_pt (ldx_lt ((nearI v 4604418534313441775).tdiv 2))
      have l3 := lt_pt (ldx_lt (nearI v 4604418534313441775 - (nearI v 4604418534313441775).tdiv 2))
      exact exp_core v _ _ _ _ _ _ _ _ _ _ _ _ _ _ _ _ _ _ _ _ _ _ _ _ _ _ _ _ (nearI v 4604418534313441775) ln2_p h0 h1 q1a q1b q2a q2b cv (floor_c q3) (ptC hv) (ptC q5) (mulC lk lt_ln2) (subC lv (lt_mul lk lt_ln2))
        (fun b W hb => series_n 18 18 rfl (by decide) (fun i => lt_div) (exp1_c lr b W hb) rfl) L75 (A75 ls) b1 b2 (by omega) (by omega)
        (ldexp_one _ (by omega) (by omega)) (ptC (ldx_lt _)) (mulC la l2) (ldexp_one _ (by omega) (by omega)) (ptC (ldx_lt _)) (mulC (lt_mul la l2) l3) w
    · rw [h0, h1]
      simp only [Bool.false_eq_true, if_false, if_true]
      go_enter Tryz.func84, Tryz.ntmps84
      go_wp2
      go_returns
      exact ⟨rfl, by (repeat' first | (with_reducible first | exact Below.refl _ _ | assumption | refine Later.belowOf _ ?_ ?_ | refine Below.alloc ?_ ?_ _ | refine Below.setCell ?_ ?_ _ | refine Below.drewN' _ ?_ | refine Below.drew ?_ | exact Ge.le) | go_size)⟩
  · rw [h0]
    simp only [if_true]
    go_enter Tryz.func84, Tryz.ntmps84
    go_wp2_with (go_at_call 92; (with_reducible refine (math_Inf_pos.go _).mono ?_); rintro _ _ ⟨n, rfl, rfl⟩)
    go_returns
    exact ⟨rfl, by (repeat' first | (with_reducible first | exact Below.refl _ _ | assumption | refine Later.belowOf _ ?_ ?_ | refine Below.alloc ?_ ?_ _ | refine Below.setCell ?_ ?_ _ | refine Below.drewN' _ ?_ | refine Below.drew ?_ | exact Ge.le) | go_size)⟩
end Go.Proofs.YtkmgfbhnioojhaaGreat

/- Contracts: what rises; Exp; the logarithm; the arc of the tangent. -/
namespace Go.Proofs.YtkmgfbhnioojhaaGreat
set_option linter.unusedSimpArgs false
set_option linter.unusedVariables false
open Go.RowKit
open Fl

@[go_sem] theorem field_iv0 (a b : Nat) (w : World) : (Instr.field 24 (.agg #[.float .f64 a, .float .f64 b]) 0).run Tryz.prog w = .ok (.float .f64 a) w := by kernel_rfl
@[go_sem] theorem field_iv1 (a b : Nat) (w : World) : (Instr.field 24 (.agg #[.float .f64 a, .float .f64 b]) 1).run Tryz.prog w = .ok (.float .f64 b) w := by kernel_rfl

/-- A plain function of floats. -/
def FnV (K : FuncId) (F : Nat → Nat × Nat) : Prop :=
  (∀ (x : Value) (w' : World), (callFunc K #[x]).run Tryz.prog w' = .ok (.enter K #[x]) w') ∧ ∀ v, v < 18446744073709551616 → nan v = false → Gives K #[(.float .f64 v)] (.agg #[.float .f64 ((F v).1), .float .f64 ((F v).2)])

set_option maxHeartbeats 1000000 in
theorem rising_no (a b : Nat) (f : Value) (h : noneB a b = true) : Gives 83 #[(.agg #[.float .f64 a, .float .f64 b]), f] (.agg #[.float .f64 9218868437227405312, .float .f64 18442240474082181120]) := by
  intro w
  have R := right_any a b
  rcases fot (rightB a b) with h1 | h1
  · rw [h1] at R
    clear h
    go_enter Tryz.func83, Tryz.ntmps83
    go_wp2_with (fail)
    refine wp_region_later (by kernel_rfl) (by kernel_rfl) ?_
    repeat (go_big_quiet_step (first | (go_at_call 151; (with_reducible exact R.later _)) | (go_at_call 55; (with_reducible exact empty_any.later _))))
    (refine wpQuiet_nil ?_; rintro _ ⟨nq, rfl⟩)
    go_wp2_with (go_at_call 55; (with_reducible refine (empty_any.go _).mono ?_); rintro _ _ ⟨n, rfl, rfl⟩)
    go_returns
    exact ⟨rfl, by (repeat' first | (with_reducible first | exact Below.refl _ _ | assumption | refine Later.belowOf _ ?_ ?_ | refine Below.alloc ?_ ?_ _ | refine Below.setCell ?_ ?_ _ | refine Below.drewN' _ ?_ | refine Below.drew ?_ | exact Ge.le) | go_size)⟩
  · have h2 : eqI a b 9218868437227405312 18442240474082181120 = true := by
      unfold noneB at h
      rw [h1] at h
      simpa using h
    rw [h1] at R
    clear h
    go_enter Tryz.func83, Tryz.ntmps83
    go_wp2_with (fail)
    refine wp_region_later (by kernel_rfl) (by kernel_rfl) ?_
    repeat (go_big_quiet_step (first | (go_at_call 151; (with_reducible exact R.later _)) | (go_at_call 55; (with_reducible exact empty_any.later _))))
    (refine wpQuiet_nil ?_; rintro _ ⟨nq, rfl⟩)
    go_wp2_with (go_at_call 55; (with_reducible refine (empty_any.go _).mono ?_); rintro _ _ ⟨n, rfl, rfl⟩)
    go_returns
    exact ⟨rfl, by (repeat' first | (with_reducible first | exact Below.refl _ _ | assumption | refine Later.belowOf _ ?_ ?_ | refine Below.alloc ?_ ?_ _ | refine Below.setCell ?_ ?_ _ | refine Below.drewN' _ ?_ | refine Below.drew ?_ | exact Ge.le) | go_size)⟩

set_option maxHeartbeats 1000000 in
theorem rising_core (a b p1 p2 q1 q2 m1 m2 : Nat) (K : FuncId) (R : Gives 151 #[(.agg #[.float .f64 a, .float .f64 b])] (.bool true)) (he : eqI a b 9218868437227405312 18442240474082181120 = false)
    (hcf : ∀ (x : Value) (w' : World), (callFunc K #[x]).run Tryz.prog w' = .ok (.enter K #[x]) w') (F1 : Gives K #[(.float .f64 a)] (.agg #[.float .f64 p1, .float .f64 p2])) (F2 : Gives K #[(.float .f64 b)] (.agg #[.float .f64 q1, .float .f64 q2])) (M : Gives 123 #[(.float .f64 p1), (.float .f64 q2)] (.agg #[.float .f64 m1, .float .f64 m2])) :
    Gives 83 #[(.agg #[.float .f64 a, .float .f64 b]), .func (.func K) #[] #[]] (.agg #[.float .f64 m1, .float .f64 m2]) := by
  intro w
  go_enter Tryz.func83, Tryz.ntmps83
  go_wp2_with (fail)
  refine wp_region_later (by kernel_rfl) (by kernel_rfl) ?_
  repeat (go_big_quiet_step (first | (go_at_call 151; (with_reducible exact R.later _)) | (go_at_call 55; (with_reducible exact empty_any.later _))))
  (refine wpQuiet_nil ?_; rintro _ ⟨nq, rfl⟩)
  go_wp2
  (refine wp_region_tail_later 11 (by kernel_rfl) (by kernel_rfl) ?_; simp only [List.take_succ_cons, List.take_zero, List.drop_succ_cons, List.drop_zero])
  repeat (go_big_quiet_step (first | (go_at_call 123; (with_reducible exact M.later _)) | (with_reducible exact F1.later _) | (with_reducible exact F2.later _)))
  (refine wpQuiet_nil ?_; rintro _ ⟨nq, rfl⟩)
  go_wp2
  go_returns
  exact ⟨rfl, by (repeat' first | (with_reducible first | exact Below.refl _ _ | assumption | refine Later.belowOf _ ?_ ?_ | refine Below.alloc ?_ ?_ _ | refine Below.setCell ?_ ?_ _ | refine Below.drewN' _ ?_ | refine Below.drew ?_ | exact Ge.le) | go_size)⟩

theorem rising_at {x : Nat × Nat} {K : FuncId} {F : Nat → Nat × Nat} (hcf : ∀ (x : Value) (w' : World), (callFunc K #[x]).run Tryz.prog w' = .ok (.enter K #[x]) w')
    (F1 : noneB x.1 x.2 = false → Gives K #[(.float .f64 x.1)] (.agg #[.float .f64 ((F x.1).1), .float .f64 ((F x.1).2)])) (F2 : noneB x.1 x.2 = false → Gives K #[(.float .f64 x.2)] (.agg #[.float .f64 ((F x.2).1), .float .f64 ((F x.2).2)])) (l1 : noneB x.1 x.2 = false → Lt (F x.1)) (l2 : noneB x.1 x.2 = false → Lt (F x.2)) :
    Gives 83 #[(.agg #[.float .f64 x.1, .float .f64 x.2]), .func (.func K) #[] #[]] (.agg #[.float .f64 ((riseP x F).1), .float .f64 ((riseP x F).2)]) := by
  unfold riseP
  rcases fot (noneB x.1 x.2) with h | h
  · have F1 := F1 h
    have F2 := F2 h
    rw [h, if_neg Bool.false_ne_true]
    have R := right_any x.1 x.2
    rw [(right_of h).1] at R
    have he : eqI x.1 x.2 9218868437227405312 18442240474082181120 = false := by
      unfold noneB at h
      rw [Bool.or_eq_false_iff] at h
      exact h.2
    exact rising_core _ _ _ _ _ _ _ _ K R he hcf F1 F2 (make_any _ _ (l1 h).1 (l2 h).2)
  · rw [h, if_pos rfl]
    exact rising_no _ _ _ h

theorem rising_c {x : Nat × Nat} (hx : Lt x) {K : FuncId} {F : Nat → Nat × Nat} (hF : FnV K F) (lF : ∀ v, Lt (F v)) : Gives 83 #[(.agg #[.float .f64 x.1, .float .f64 x.2]), .func (.func K) #[] #[]] (.agg #[.float .f64 ((riseP x F).1), .float .f64 ((riseP x F).2)]) :=
  rising_at hF.1 (fun h => hF.2 _ hx.1 (nums_of h).1) (fun h => hF.2 _ hx.2 (nums_of h).2) (fun _ => lF _) (fun _ => lF _)

theorem exp_fn : FnV 84 expV := ⟨fun x w' => by simp [go_sem], fun v hv nv => exp_c hv nv⟩

set_option maxHeartbeats 400000 in
theorem Exp_c {x : Nat × Nat} (hx : Lt x) : Gives 14 #[(.agg #[.float .f64 x.1, .float .f64 x.2])] (.agg #[.float .f64 ((expP x).1), .float .f64 ((expP x).2)]) := by
  intro w
  have R := rising_c hx exp_fn lt_expV
  unfold expP
  generalize riseP x expV = r at *
  clear hx
  obtain ⟨x1, x2⟩ := x
  go_enter Tryz.func14, Tryz.ntmps14
  go_wp2_with (go_at_call 83; (with_reducible refine (R.go _).mono ?_); rintro _ _ ⟨n, rfl, rfl⟩)
  go_returns
  exact ⟨rfl, by (repeat' first | (with_reducible first | exact Below.refl _ _ | assumption | refine Later.belowOf _ ?_ ?_ | refine Below.alloc ?_ ?_ _ | refine Below.setCell ?_ ?_ _ | refine Below.drewN' _ ?_ | refine Below.drew ?_ | exact Ge.le) | go_size)⟩
end Go.Proofs.YtkmgfbhnioojhaaGreat

/- Contracts: the logarithm. -/
namespace Go.Proofs.YtkmgfbhnioojhaaGreat
set_option linter.unusedSimpArgs false
set_option linter.unusedVariables false
open Go.RowKit
open Fl

end Go.Proofs.YtkmgfbhnioojhaaGreat
