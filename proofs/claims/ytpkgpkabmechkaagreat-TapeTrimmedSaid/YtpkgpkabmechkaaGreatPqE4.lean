/- Contracts: the exponential. -/
import Derived.Test.YtpkgpkabmechkaaGreatPqE1
import Derived.IntWalk
namespace Go.Proofs.YtpkgpkabmechkaaGreat
set_option linter.unusedSimpArgs false
set_option linter.unusedVariables false
open Go.RowKit
open Fl

theorem to_later {f : FuncId} {args : Array Value} {v : Value} {w : World} (h : Calls Tryz.prog f args w fun e w' => e = .returned v ∧ Below w.heap.size w w') :
    Calls Tryz.prog f args w fun e w' => ∃ n : Later w, e = .returned v ∧ w' = n.val := h.mono fun _ w' ⟨he, hb⟩ => ⟨⟨w', hb⟩, he, rfl⟩

/-- The series, at its number as it stands in the text. -/
theorem series_n (N : Int) (n : Nat) (e : N = n) (hn : n ≤ 100) {K : FuncId} {caps : Array Value} {F : Int → Nat × Nat} (hF : ∀ i, Lt (F i)) {w : World} (hK : FnOk K caps F w) {R : Nat × Nat} (hR : serP F n (wholeP 1) = R) :
    Calls Tryz.prog 141 #[.int .i64 N, .func (.func K) #[] caps] w fun e w' => ∃ q : Later w, e = .returned (.agg #[.float .f64 R.1, .float .f64 R.2]) ∧ w' = q.val := by
  subst e
  subst hR
  exact to_later (series_c n hn K caps F hF w hK)

theorem ln2_c : Gives 13 #[] (.agg #[.float .f64 4604418534313441775, .float .f64 4604418534313441776]) := by
  intro w
  go_enter Tryz.func13, Tryz.ntmps13
  go_wp2
  go_returns
  exact ⟨rfl, by (repeat' first | (with_reducible first | exact Below.refl _ _ | assumption | refine Later.belowOf _ ?_ ?_ | refine Below.alloc ?_ ?_ _ | refine Below.setCell ?_ ?_ _ | refine Below.drewN' _ ?_ | refine Below.drew ?_ | exact Ge.le) | go_size)⟩
theorem pi_c : Gives 11 #[] (.agg #[.float .f64 4614256656552045848, .float .f64 4614256656552045849]) := by
  intro w
  go_enter Tryz.func11, Tryz.ntmps11
  go_wp2
  go_returns
  exact ⟨rfl, by (repeat' first | (with_reducible first | exact Below.refl _ _ | assumption | refine Later.belowOf _ ?_ ?_ | refine Below.alloc ?_ ?_ _ | refine Below.setCell ?_ ?_ _ | refine Below.drewN' _ ?_ | refine Below.drew ?_ | exact Ge.le) | go_size)⟩

theorem ln2_p : Gives 13 #[] (.agg #[.float .f64 ln2P.1, .float .f64 ln2P.2]) := by unfold ln2P; exact ln2_c
theorem pi_p : Gives 11 #[] (.agg #[.float .f64 piP.1, .float .f64 piP.2]) := by unfold piP; exact pi_c

theorem half_bd {k : Int} (h1 : -1701 ≤ k) (h2 : k ≤ 1701) : -851 ≤ k.tdiv 2 ∧ k.tdiv 2 ≤ 851 ∧ -852 ≤ k - k.tdiv 2 ∧ k - k.tdiv 2 ≤ 852 := by
  by_cases h : 0 ≤ k
  · rw [Int.tdiv_eq_ediv_of_nonneg h]; omega
  · obtain ⟨j, rfl⟩ : ∃ j : Int, k = -j := ⟨-k, by omega⟩
    rw [Int.neg_tdiv, Int.tdiv_eq_ediv_of_nonneg (by omega)]; omega

/-- The numbers of a machine's operation. -/
theorem op_val {op : BinOp} {a b r : Nat} (h : floatBits op .f64 a b = some r) : (∀ w, fop op a b w = r) ∧ nd op a b = 0 := ⟨fun w => fop_some w h, by unfold nd; rw [h]; rfl⟩
theorem cv_int {x : Nat} {n : Int} (h : floatToIntVal .f64 x .i64 = some n) (w : World) : (convert 22 3 (.float .f64 x)).run Tryz.prog w = .ok (.int .i64 n) w :=
  run_convert_float_int w 22 3 .f64 .i64 x n (by rw [Tryz.underlying22]; rfl) Tryz.underlying3 h

set_option maxHeartbeats 4000000 in
set_option maxRecDepth 100000 in
theorem exp_core (v q X k r1 r2 s1 s2 t1 t2 e75 d2 d3 v1 v2 k1 k2 m1 m2 u1 u2 n1 n2 y1 y2 z1 z2 l1 l2 : Nat) (ki : Int) (LN : Gives 13 #[] (.agg #[.float .f64 l1, .float .f64 l2])) (h0 : flt 4649456441864749056 v = false) (h1 : flt v 13873145138068324352 = false)
    (q1a : ∀ w, fop .quo v 4604418534313441775 w = q) (q1b : nd .quo v 4604418534313441775 = 0) (q2a : ∀ w, fop .add q 4602678819172646912 w = X) (q2b : nd .add q 4602678819172646912 = 0)
    (cv : ∀ w, (convert 22 3 (.float .f64 k)).run Tryz.prog w = .ok (.int .i64 ki) w) (FC : Gives 138 #[(.float .f64 X)] (.float .f64 k)) (P1 : Gives 139 #[(.float .f64 v)] (.agg #[.float .f64 v1, .float .f64 v2])) (P2 : Gives 139 #[(.float .f64 k)] (.agg #[.float .f64 k1, .float .f64 k2]))
    (M1 : Gives 140 #[(.agg #[.float .f64 k1, .float .f64 k2]), (.agg #[.float .f64 l1, .float .f64 l2])] (.agg #[.float .f64 m1, .float .f64 m2])) (S1 : Gives 75 #[(.agg #[.float .f64 v1, .float .f64 v2]), (.agg #[.float .f64 m1, .float .f64 m2])] (.agg #[.float .f64 r1, .float .f64 r2]))
    (SR : ∀ (b : Nat) (W : World), Box W b (r1, r2) → Calls Tryz.prog 141 #[.int .i64 18, .func (.func 142) #[] #[.pointer (some ⟨b, 0, none⟩)]] W fun e w' => ∃ q : Later W, e = .returned (.agg #[.float .f64 s1, .float .f64 s2]) ∧ w' = q.val)
    (L1 : Gives 144 #[(.float .f64 4607182418800017408), .int .i64 (-75)] (.float .f64 e75)) (A1 : Gives 143 #[(.agg #[.float .f64 s1, .float .f64 s2]), (.float .f64 e75)] (.agg #[.float .f64 t1, .float .f64 t2]))
    (b1 : -851 ≤ ki.tdiv 2) (b2 : ki.tdiv 2 ≤ 851) (b3 : -1701 ≤ ki) (b4 : ki ≤ 1701)
    (L2 : Gives 144 #[(.float .f64 4607182418800017408), .int .i64 (ki.tdiv 2)] (.float .f64 d2)) (P3 : Gives 139 #[(.float .f64 d2)] (.agg #[.float .f64 u1, .float .f64 u2])) (M2 : Gives 140 #[(.agg #[.float .f64 t1, .float .f64 t2]), (.agg #[.float .f64 u1, .float .f64 u2])] (.agg #[.float .f64 n1, .float .f64 n2]))
    (L3 : Gives 144 #[(.float .f64 4607182418800017408), .int .i64 (ki - ki.tdiv 2)] (.float .f64 d3)) (P4 : Gives 139 #[(.float .f64 d3)] (.agg #[.float .f64 y1, .float .f64 y2])) (M3 : Gives 140 #[(.agg #[.float .f64 n1, .float .f64 n2]), (.agg #[.float .f64 y1, .float .f64 y2])] (.agg #[.float .f64 z1, .float .f64 z2])) :
    Gives 67 #[(.float .f64 v)] (.agg #[.float .f64 z1, .float .f64 z2]) := by
  intro w
  go_enter Tryz.func67, Tryz.ntmps67
  go_wp2_with (first
    | (go_at_call 138; (with_reducible refine (FC.go _).mono ?_); rintro _ _ ⟨n, rfl, rfl⟩)
    | (go_at_call 139; first | ((with_reducible refine (P1.go _).mono ?_); rintro _ _ ⟨n, rfl, rfl⟩) | ((with_reducible refine (P2.go _).mono ?_); rintro _ _ ⟨n, rfl, rfl⟩))
    | (go_at_call 13; (with_reducible refine (LN.go _).mono ?_); rintro _ _ ⟨n, rfl, rfl⟩)
    | (go_at_call 140; (with_reducible refine (M1.go _).mono ?_); rintro _ _ ⟨n, rfl, rfl⟩)
    | (go_at_call 75; (with_reducible refine (S1.go _).mono ?_); rintro _ _ ⟨n, rfl, rfl⟩)
    | (go_at_call 141; (with_reducible refine (SR _ _ (Box.new _ _ _)).mono ?_); rintro _ _ ⟨n, rfl, rfl⟩))
  (refine wp_region_tail_later 3 (by kernel_rfl) (by kernel_rfl) ?_; simp only [List.take_succ_cons, List.take_zero, List.drop_succ_cons, List.drop_zero])
  repeat (go_big_quiet_step (first | (go_at_call 144; (with_reducible exact L1.later _)) | (go_at_call 143; (with_reducible exact A1.later _))))
  (refine wpQuiet_nil ?_; rintro _ ⟨nq, rfl⟩)
  go_wp2
  (refine wp_region_tail_later 12 (by kernel_rfl) (by kernel_rfl) ?_; simp only [List.take_succ_cons, List.take_zero, List.drop_succ_cons, List.drop_zero])
  repeat (go_big_quiet_step (first | (go_at_call 144; first | (with_reducible exact L2.later _) | (with_reducible exact L3.later _)) | (go_at_call 139; first | (with_reducible exact P3.later _) | (with_reducible exact P4.later _)) | (go_at_call 140; first | (with_reducible exact M2.later _) | (with_reducible exact M3.later _))))
  (refine wpQuiet_nil ?_; rintro _ ⟨nq, rfl⟩)
  go_wp2
  go_returns
  exact ⟨rfl, by (repeat' first | (with_reducible first | exact Below.refl _ _ | assumption | refine Later.belowOf _ ?_ ?_ | refine Below.alloc ?_ ?_ _ | refine Below.setCell ?_ ?_ _ | refine Below.drewN' _ ?_ | refine Below.drew ?_ | exact Ge.le) | go_size)⟩

set_option maxHeartbeats 4000000 in
theorem exp_c {v : Nat} (hv : v < 18446744073709551616) (nv : nan v = false) : Gives 67 #[(.float .f64 v)] (.agg #[.float .f64 ((expV v).1), .float .f64 ((expV v).2)]) := by
  intro w
  unfold expV
  rcases fot (flt 4649456441864749056 v) with h0 | h0
  · rcases fot (flt v 13873145138068324352) with h1 | h1
    · rw [h0, h1]
      simp only [Bool.false_eq_true, if_false]
      have i1 : idx v ≤ 4649456441864749056 := by
        have : ¬ idx 4649456441864749056 < idx v := fun h => by rw [flt_true.2 ⟨by decide, nv, h⟩] at h0; cases h0
        have e : idx 4649456441864749056 = 4649456441864749056 := by decide
        omega
      have i2 : -4649773101213548544 ≤ idx v := by
        have : ¬ idx v < idx 13873145138068324352 := fun h => by rw [flt_true.2 ⟨nv, by decide, h⟩] at h1; cases h1
        have e : idx 13873145138068324352 = -4649773101213548544 := by decide
        omega
      obtain ⟨q1, q2, q3, q4, q5, q6, q7, q8⟩ := near_ln2 nv i1 i2
      obtain ⟨q1a, q1b⟩ := op_val q1
      obtain ⟨q2a, q2b⟩ := op_val q2
      have cv := cv_int q8
      obtain ⟨b1, b2, b3, b4⟩ := half_bd (k := nearI v 4604418534313441775) (by omega) (by omega)
      have L75 := ldexp_one (-75) (by omega) (by omega)
      have A75 := fun {x : Nat × Nat} (h : Lt x) => around_c h (ldx_lt (-75))
      unfold expT expS expR
      have lk := lt_pt q5
      have lv := lt_pt hv
      have lr := lt_sub lv (lt_mul lk lt_ln2)
      have ls := lt_ser (F := fun i => divP (subP (ptP v) (mulP (ptP (nearF v 4604418534313441775)) ln2P)) (wholeP i)) (fun i => lt_div) 18 (lt_whole 1)
      have la := lt_around ls (ldx_lt (-75))
      have l2 := lt_pt (ldx_lt ((nearI v 4604418534313441775).tdiv 2))
      have l3 := lt_pt (ldx_lt (nearI v 4604418534313441775 - (nearI v 4604418534313441775).tdiv 2))
      exact exp_core v _ _ _ _ _ _ _ _ _ _ _ _ _ _ _ _ _ _ _ _ _ _ _ _ _ _ _ _ (nearI v 4604418534313441775) ln2_p h0 h1 q1a q1b q2a q2b cv (floor_c q3) (ptC hv) (ptC q5) (mulC lk lt_ln2) (subC lv (lt_mul lk lt_ln2))
        (fun b W hb => series_n 18 18 rfl (by decide) (fun i => lt_div) (exp1_c lr b W hb) rfl) L75 (A75 ls) b1 b2 (by omega) (by omega)
        (ldexp_one _ (by omega) (by omega)) (ptC (ldx_lt _)) (mulC la l2) (ldexp_one _ (by omega) (by omega)) (ptC (ldx_lt _)) (mulC (lt_mul la l2) l3) w
    · rw [h0, h1]
      simp only [Bool.false_eq_true, if_false, if_true]
      go_enter Tryz.func67, Tryz.ntmps67
      go_wp2
      go_returns
      exact ⟨rfl, by (repeat' first | (with_reducible first | exact Below.refl _ _ | assumption | refine Later.belowOf _ ?_ ?_ | refine Below.alloc ?_ ?_ _ | refine Below.setCell ?_ ?_ _ | refine Below.drewN' _ ?_ | refine Below.drew ?_ | exact Ge.le) | go_size)⟩
  · rw [h0]
    simp only [if_true]
    go_enter Tryz.func67, Tryz.ntmps67
    go_wp2_with (go_at_call 137; (with_reducible refine (math_Inf_pos.go _).mono ?_); rintro _ _ ⟨n, rfl, rfl⟩)
    go_returns
    exact ⟨rfl, by (repeat' first | (with_reducible first | exact Below.refl _ _ | assumption | refine Later.belowOf _ ?_ ?_ | refine Below.alloc ?_ ?_ _ | refine Below.setCell ?_ ?_ _ | refine Below.drewN' _ ?_ | refine Below.drew ?_ | exact Ge.le) | go_size)⟩
end Go.Proofs.YtpkgpkabmechkaaGreat

/- Contracts: what rises; Exp; the logarithm; the arc of the tangent. -/
namespace Go.Proofs.YtpkgpkabmechkaaGreat
set_option linter.unusedSimpArgs false
set_option linter.unusedVariables false
open Go.RowKit
open Fl

@[go_sem] theorem field_iv0 (a b : Nat) (w : World) : (Instr.field 24 (.agg #[.float .f64 a, .float .f64 b]) 0).run Tryz.prog w = .ok (.float .f64 a) w := by kernel_rfl
@[go_sem] theorem field_iv1 (a b : Nat) (w : World) : (Instr.field 24 (.agg #[.float .f64 a, .float .f64 b]) 1).run Tryz.prog w = .ok (.float .f64 b) w := by kernel_rfl

/-- A plain function of floats. -/
def FnV (K : FuncId) (F : Nat → Nat × Nat) : Prop :=
  (∀ (x : Value) (w' : World), (callFunc K #[x]).run Tryz.prog w' = .ok (.enter K #[x]) w') ∧ ∀ v, v < 18446744073709551616 → nan v = false → Gives K #[(.float .f64 v)] (.agg #[.float .f64 ((F v).1), .float .f64 ((F v).2)])

set_option maxHeartbeats 1000000 in
theorem rising_no (a b : Nat) (f : Value) (h : noneB a b = true) : Gives 66 #[(.agg #[.float .f64 a, .float .f64 b]), f] (.agg #[.float .f64 9218868437227405312, .float .f64 18442240474082181120]) := by
  intro w
  have R := right_any a b
  rcases fot (rightB a b) with h1 | h1
  · rw [h1] at R
    clear h
    go_enter Tryz.func66, Tryz.ntmps66
    go_wp2_with (fail)
    refine wp_region_later (by kernel_rfl) (by kernel_rfl) ?_
    repeat (go_big_quiet_step (first | (go_at_call 134; (with_reducible exact R.later _)) | (go_at_call 135; (with_reducible exact empty_any.later _))))
    (refine wpQuiet_nil ?_; rintro _ ⟨nq, rfl⟩)
    go_wp2_with (go_at_call 135; (with_reducible refine (empty_any.go _).mono ?_); rintro _ _ ⟨n, rfl, rfl⟩)
    go_returns
    exact ⟨rfl, by (repeat' first | (with_reducible first | exact Below.refl _ _ | assumption | refine Later.belowOf _ ?_ ?_ | refine Below.alloc ?_ ?_ _ | refine Below.setCell ?_ ?_ _ | refine Below.drewN' _ ?_ | refine Below.drew ?_ | exact Ge.le) | go_size)⟩
  · have h2 : eqI a b 9218868437227405312 18442240474082181120 = true := by
      unfold noneB at h
      rw [h1] at h
      simpa using h
    rw [h1] at R
    clear h
    go_enter Tryz.func66, Tryz.ntmps66
    go_wp2_with (fail)
    refine wp_region_later (by kernel_rfl) (by kernel_rfl) ?_
    repeat (go_big_quiet_step (first | (go_at_call 134; (with_reducible exact R.later _)) | (go_at_call 135; (with_reducible exact empty_any.later _))))
    (refine wpQuiet_nil ?_; rintro _ ⟨nq, rfl⟩)
    go_wp2_with (go_at_call 135; (with_reducible refine (empty_any.go _).mono ?_); rintro _ _ ⟨n, rfl, rfl⟩)
    go_returns
    exact ⟨rfl, by (repeat' first | (with_reducible first | exact Below.refl _ _ | assumption | refine Later.belowOf _ ?_ ?_ | refine Below.alloc ?_ ?_ _ | refine Below.setCell ?_ ?_ _ | refine Below.drewN' _ ?_ | refine Below.drew ?_ | exact Ge.le) | go_size)⟩

set_option maxHeartbeats 1000000 in
theorem rising_core (a b p1 p2 q1 q2 m1 m2 : Nat) (K : FuncId) (R : Gives 134 #[(.agg #[.float .f64 a, .float .f64 b])] (.bool true)) (he : eqI a b 9218868437227405312 18442240474082181120 = false)
    (hcf : ∀ (x : Value) (w' : World), (callFunc K #[x]).run Tryz.prog w' = .ok (.enter K #[x]) w') (F1 : Gives K #[(.float .f64 a)] (.agg #[.float .f64 p1, .float .f64 p2])) (F2 : Gives K #[(.float .f64 b)] (.agg #[.float .f64 q1, .float .f64 q2])) (M : Gives 136 #[(.float .f64 p1), (.float .f64 q2)] (.agg #[.float .f64 m1, .float .f64 m2])) :
    Gives 66 #[(.agg #[.float .f64 a, .float .f64 b]), .func (.func K) #[] #[]] (.agg #[.float .f64 m1, .float .f64 m2]) := by
  intro w
  go_enter Tryz.func66, Tryz.ntmps66
  go_wp2_with (fail)
  refine wp_region_later (by kernel_rfl) (by kernel_rfl) ?_
  repeat (go_big_quiet_step (first | (go_at_call 134; (with_reducible exact R.later _)) | (go_at_call 135; (with_reducible exact empty_any.later _))))
  (refine wpQuiet_nil ?_; rintro _ ⟨nq, rfl⟩)
  go_wp2
  (refine wp_region_tail_later 11 (by kernel_rfl) (by kernel_rfl) ?_; simp only [List.take_succ_cons, List.take_zero, List.drop_succ_cons, List.drop_zero])
  repeat (go_big_quiet_step (first | (go_at_call 136; (with_reducible exact M.later _)) | (with_reducible exact F1.later _) | (with_reducible exact F2.later _)))
  (refine wpQuiet_nil ?_; rintro _ ⟨nq, rfl⟩)
  go_wp2
  go_returns
  exact ⟨rfl, by (repeat' first | (with_reducible first | exact Below.refl _ _ | assumption | refine Later.belowOf _ ?_ ?_ | refine Below.alloc ?_ ?_ _ | refine Below.setCell ?_ ?_ _ | refine Below.drewN' _ ?_ | refine Below.drew ?_ | exact Ge.le) | go_size)⟩

theorem rising_at {x : Nat × Nat} {K : FuncId} {F : Nat → Nat × Nat} (hcf : ∀ (x : Value) (w' : World), (callFunc K #[x]).run Tryz.prog w' = .ok (.enter K #[x]) w')
    (F1 : noneB x.1 x.2 = false → Gives K #[(.float .f64 x.1)] (.agg #[.float .f64 ((F x.1).1), .float .f64 ((F x.1).2)])) (F2 : noneB x.1 x.2 = false → Gives K #[(.float .f64 x.2)] (.agg #[.float .f64 ((F x.2).1), .float .f64 ((F x.2).2)])) (l1 : noneB x.1 x.2 = false → Lt (F x.1)) (l2 : noneB x.1 x.2 = false → Lt (F x.2)) :
    Gives 66 #[(.agg #[.float .f64 x.1, .float .f64 x.2]), .func (.func K) #[] #[]] (.agg #[.float .f64 ((riseP x F).1), .float .f64 ((riseP x F).2)]) := by
  unfold riseP
  rcases fot (noneB x.1 x.2) with h | h
  · have F1 := F1 h
    have F2 := F2 h
    rw [h, if_neg Bool.false_ne_true]
    have R := right_any x.1 x.2
    rw [(right_of h).1] at R
    have he : eqI x.1 x.2 9218868437227405312 18442240474082181120 = false := by
      unfold noneB at h
      rw [Bool.or_eq_false_iff] at h
      exact h.2
    exact rising_core _ _ _ _ _ _ _ _ K R he hcf F1 F2 (make_any _ _ (l1 h).1 (l2 h).2)
  · rw [h, if_pos rfl]
    exact rising_no _ _ _ h

theorem rising_c {x : Nat × Nat} (hx : Lt x) {K : FuncId} {F : Nat → Nat × Nat} (hF : FnV K F) (lF : ∀ v, Lt (F v)) : Gives 66 #[(.agg #[.float .f64 x.1, .float .f64 x.2]), .func (.func K) #[] #[]] (.agg #[.float .f64 ((riseP x F).1), .float .f64 ((riseP x F).2)]) :=
  rising_at hF.1 (fun h => hF.2 _ hx.1 (nums_of h).1) (fun h => hF.2 _ hx.2 (nums_of h).2) (fun _ => lF _) (fun _ => lF _)

theorem exp_fn : FnV 67 expV := ⟨fun x w' => by simp [go_sem], fun v hv nv => exp_c hv nv⟩

set_option maxHeartbeats 400000 in
theorem Exp_c {x : Nat × Nat} (hx : Lt x) : Gives 19 #[(.agg #[.float .f64 x.1, .float .f64 x.2])] (.agg #[.float .f64 ((expP x).1), .float .f64 ((expP x).2)]) := by
  intro w
  have R := rising_c hx exp_fn lt_expV
  unfold expP
  generalize riseP x expV = r at *
  clear hx
  obtain ⟨x1, x2⟩ := x
  go_enter Tryz.func19, Tryz.ntmps19
  go_wp2_with (go_at_call 66; (with_reducible refine (R.go _).mono ?_); rintro _ _ ⟨n, rfl, rfl⟩)
  go_returns
  exact ⟨rfl, by (repeat' first | (with_reducible first | exact Below.refl _ _ | assumption | refine Later.belowOf _ ?_ ?_ | refine Below.alloc ?_ ?_ _ | refine Below.setCell ?_ ?_ _ | refine Below.drewN' _ ?_ | refine Below.drew ?_ | exact Ge.le) | go_size)⟩
end Go.Proofs.YtpkgpkabmechkaaGreat

/- Contracts: the logarithm. -/
namespace Go.Proofs.YtpkgpkabmechkaaGreat
set_option linter.unusedSimpArgs false
set_option linter.unusedVariables false
open Go.RowKit
open Fl

theorem frN_lt {v : Nat} (h : v < 9218868437227405312) : frN v < 9218868437227405312 := by
  unfold frN
  split
  · rename_i h1
    have hr : rung v < INFR := by unfold rung SW INFR; omega
    have e : rung v = v := by unfold rung SW; omega
    have sv : sgn v = false := by unfold sgn SW; simp; omega
    have gv : G v = v := by unfold G BIN; rw [if_pos h1]
    have gc : G 4841369599423283200 = 4503599627370496 * pw 1074 := G_at_num (K := 1074) (m := 0) (by decide) (by decide)
    have gp : G (53 * BIN) = 4503599627370496 * pw 52 := G_at_num (K := 52) (m := 0) (by decide) (by decide)
    have hw := fm_eq hr (show rung 4841369599423283200 < INFR by decide)
    rw [hw, e, gv, show rung 4841369599423283200 = 4841369599423283200 by decide, gc, sv, show sgn 4841369599423283200 = false by decide]
    have ew : ∀ r, word (false ^^ false) r = r := fun r => rfl
    rw [ew]
    have b := rungOf_le_of (N := v * (4503599627370496 * pw 1074)) (D := pw 1074) (r := 53 * BIN) 0 (pw_pos _) (by decide) (by
      rw [gp, ← Nat.mul_assoc]
      refine Nat.mul_le_mul_right _ ?_
      rw [Nat.mul_comm]
      refine Nat.mul_le_mul_left _ ?_
      rw [pw_eq]
      omega)
    generalize rungOf (v * (4503599627370496 * pw 1074)) (pw 1074) 0 = r at *
    have eb : 53 * BIN = 238690780250636288 := by decide
    omega
  · exact h

theorem or_half {M : Int} (h0 : 0 ≤ M) (h1 : M ≤ 4503599627370495) : (bits BinOp.or IntKind.u64 M 4602678819172646912).toNat = 4602678819172646912 + M.toNat := by
  have h := or_exp (M := M) (K := 1022) h0 h1 (by decide) (by decide)
  rw [show (1022 : Int) * 4503599627370496 = 4602678819172646912 by decide] at h
  rw [h, show (1022 : Int).toNat * 4503599627370496 = 4602678819172646912 by decide]

set_option maxHeartbeats 2000000 in
theorem norm_c {v : Nat} (h0 : 0 < v) (h1 : v < 9218868437227405312) : Gives 222 #[(.float .f64 v)] (.tuple #[(.float .f64 (frN v)), .int .i64 (if v < 4503599627370496 then -52 else 0)]) := by
  by_cases h : v < 4503599627370496
  · intro w
    rw [if_pos h]
    unfold frN
    rw [if_pos h]
    have a1 := abs_any v (by omega)
    have e : rung v = v := by unfold rung SW; omega
    rw [e] at a1
    have hr : rung v < INFR := by unfold rung SW INFR; omega
    have t1 : flt v 4503599627370496 = true := by
      have i1 : idx 4503599627370496 = 4503599627370496 := by decide
      have i2 := idx_small (x := v) (by omega)
      refine flt_true.2 ⟨nan_false.2 (Nat.le_of_lt hr), by decide, ?_⟩
      rw [i1, i2]; omega
    obtain ⟨m1, m2⟩ := op_val (fm_some hr (show rung 4841369599423283200 < INFR by decide))
    generalize fm v 4841369599423283200 = r at *
    clear hr e h h0 h1
    go_enter Tryz.func222, Tryz.ntmps222
    go_wp2_with (go_at_call 107; (with_reducible refine (a1.go _).mono ?_); rintro _ _ ⟨n, rfl, rfl⟩)
    go_ret2
    exact ⟨rfl, by (repeat' first | (with_reducible first | exact Below.refl _ _ | assumption | refine Later.belowOf _ ?_ ?_ | refine Below.alloc ?_ ?_ _ | refine Below.setCell ?_ ?_ _ | refine Below.drewN' _ ?_ | refine Below.drew ?_ | exact Ge.le) | go_size)⟩
  · have := normalize_any v h1 (by omega)
    unfold frN
    rw [if_neg h, if_neg h]
    exact this

theorem and_2047u {B : Int} (h0 : 0 ≤ B) (h1 : B ≤ 2047) : bits BinOp.and IntKind.u64 B 2047 = B := by
  have h127 : (BitVec.ofInt 64 2047).toNat = 2 ^ 11 - 1 := by decide
  have key : (BitVec.ofInt 64 B &&& BitVec.ofInt 64 2047).toNat = (B % ((2 ^ 64 : Nat) : Int)).toNat % 2 ^ 11 := by
    rw [BitVec.toNat_and, BitVec.toNat_ofInt, h127, Nat.and_two_pow_sub_one_eq_mod]
  show IntKind.u64.wrap ((BitVec.ofInt 64 B &&& BitVec.ofInt 64 2047).toNat : Nat) = B
  rw [key, wrap64u]
  omega

set_option maxHeartbeats 2000000 in
theorem frexp_c {v : Nat} (h0 : 0 < v) (h1 : v < 9218868437227405312) : Gives 246 #[(.float .f64 v)] (.tuple #[(.float .f64 (frM v)), .int .i64 (frE v)]) := by
  intro w
  have N := norm_c h0 h1
  have I := isInf0_any v (by omega)
  have J := isNaN_any v
  have hr : rung v = v := by unfold rung SW; omega
  have n0 : nan v = false := nan_false.2 (by rw [hr]; unfold INFR; omega)
  have i1 := idx_small (x := v) (by omega)
  have z0 : feq v 0 = false := by
    cases h : feq v 0
    · rfl
    · have := (feq_true.1 h).2.2
      rw [i1] at this
      have e0 : idx 0 = 0 := by decide
      omega
  rw [hr] at I
  have z1 : flt 9218868437227405311 v = false := by
    cases h : flt 9218868437227405311 v
    · rfl
    · have := (flt_true.1 h).2.2
      rw [i1, show idx 9218868437227405311 = 9218868437227405311 by decide] at this
      omega
  rw [z1] at I
  rw [feq_true.2 ⟨n0, n0, rfl⟩] at J
  have hn := frN_lt h1
  have he : frE v = (if v < 4503599627370496 then (-52 : Int) else 0) + ((frN v : Int) / 4503599627370496 - 1023 + 1) := by unfold frE; split <;> omega
  have hm : frM v = 4602678819172646912 + frN v % 4503599627370496 := rfl
  rw [he, hm]
  clear he hm hr n0 i1
  have e5 : -52 ≤ (if v < 4503599627370496 then (-52 : Int) else 0) ∧ (if v < 4503599627370496 then (-52 : Int) else 0) ≤ 0 := by split <;> omega
  generalize (if v < 4503599627370496 then (-52 : Int) else 0) = E at *
  generalize frN v = f at *
  obtain ⟨e6, e7⟩ := e5
  have a1 := and_2047u (B := (f : Int) / 4503599627370496) (by omega) (by omega)
  have a2 := andNot_inf hn
  have a3 := or_half (M := (f : Int) % 4503599627370496) (by omega) (by omega)
  go_enter Tryz.func246, Tryz.ntmps246
  go_wp2_with (first | (go_at_call 222; (with_reducible refine (N.go _).mono ?_); rintro _ _ ⟨n, rfl, rfl⟩) | (go_at_call 167; (with_reducible refine (I.go _).mono ?_); rintro _ _ ⟨n, rfl, rfl⟩) | (go_at_call 176; (with_reducible refine (J.go _).mono ?_); rintro _ _ ⟨n, rfl, rfl⟩))
  go_ret2
  exact ⟨rfl, by (repeat' first | (with_reducible first | exact Below.refl _ _ | assumption | refine Later.belowOf _ ?_ ?_ | refine Below.alloc ?_ ?_ _ | refine Below.setCell ?_ ?_ _ | refine Below.drewN' _ ?_ | refine Below.drew ?_ | exact Ge.le) | go_size)⟩

set_option maxHeartbeats 400000 in
theorem Frexp_c {v : Nat} (h0 : 0 < v) (h1 : v < 9218868437227405312) : Gives 236 #[(.float .f64 v)] (.tuple #[(.float .f64 (frM v)), .int .i64 (frE v)]) := by
  intro w
  have R := frexp_c h0 h1
  generalize frM v = m at *
  generalize frE v = e at *
  clear h0 h1
  go_enter Tryz.func236, Tryz.ntmps236
  go_wp2_with (go_at_call 246; (with_reducible refine (R.go _).mono ?_); rintro _ _ ⟨n, rfl, rfl⟩)
  go_ret2
  exact ⟨rfl, by (repeat' first | (with_reducible first | exact Below.refl _ _ | assumption | refine Later.belowOf _ ?_ ?_ | refine Below.alloc ?_ ?_ _ | refine Below.setCell ?_ ?_ _ | refine Below.drewN' _ ?_ | refine Below.drew ?_ | exact Ge.le) | go_size)⟩

set_option maxHeartbeats 1000000 in
theorem log1_c {q : Nat × Nat} (hq : Lt q) (b : Nat) (w : World) (hc : Box w b q) : FnOk 237 #[.pointer (some ⟨b, 0, none⟩)] (fun i => divP (mulP q (wholeP (2 * i - 1))) (wholeP (2 * i + 1))) w := by
  refine ⟨fun x w' => by simp [go_sem], fun i m i1 i2 hm => ?_⟩
  have hc := hc.below hm
  have W1 := whole_c (2 * i - 1)
  have W2 := whole_c (2 * i + 1)
  have M := mulC hq (lt_whole (2 * i - 1))
  have D := divC (lt_mul hq (lt_whole (2 * i - 1))) (lt_whole (2 * i + 1))
  have c0 := hc.c0
  have c1 := hc.c1
  haveI gb : Ge m (b + 1) := ⟨hc.lt⟩
  clear hc hm
  simp only [List.append_toArray, List.cons_append, List.nil_append]
  generalize divP (mulP q (wholeP (2 * i - 1))) (wholeP (2 * i + 1)) = d at *
  generalize mulP q (wholeP (2 * i - 1)) = p at *
  generalize wholeP (2 * i - 1) = u at *
  generalize wholeP (2 * i + 1) = u' at *
  obtain ⟨q1, q2⟩ := q
  have a1 : IntKind.i64.wrap (2 * i) = 2 * i := IntWalk.i64_in _ (by omega)
  have a2 : IntKind.i64.wrap (2 * i - 1) = 2 * i - 1 := IntWalk.i64_in _ (by omega)
  have a3 : IntKind.i64.wrap (2 * i + 1) = 2 * i + 1 := IntWalk.i64_in _ (by omega)
  go_enter Tryz.func237, Tryz.ntmps237
  go_wp2_with (fail)
  (refine wp_region_tail_later 11 (by kernel_rfl) (by kernel_rfl) ?_; simp only [List.take_succ_cons, List.take_zero, List.drop_succ_cons, List.drop_zero])
  repeat (go_big_quiet_step (first | (go_at_call 82; first | (with_reducible exact W1.later _) | (with_reducible exact W2.later _)) | (go_at_call 140; (with_reducible exact M.later _)) | (go_at_call 70; (with_reducible exact D.later _))))
  (refine wpQuiet_nil ?_; rintro _ ⟨nq, rfl⟩)
  clear a1 a2 a3
  go_wp2
  go_returns
  exact ⟨rfl, by (repeat' first | (with_reducible first | exact Below.refl _ _ | assumption | refine Later.belowOf _ ?_ ?_ | refine Below.alloc ?_ ?_ _ | refine Below.setCell ?_ ?_ _ | refine Below.drewN' _ ?_ | refine Below.drew ?_ | exact Ge.le) | go_size)⟩
end Go.Proofs.YtpkgpkabmechkaaGreat
