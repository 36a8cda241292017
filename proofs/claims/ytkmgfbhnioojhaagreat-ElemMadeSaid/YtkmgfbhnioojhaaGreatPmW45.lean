/- Contracts: the least interval of quotients of ends. -/
import Derived.Test.YtkmgfbhnioojhaaGreatPmW44
namespace Go.Proofs.YtkmgfbhnioojhaaGreat
set_option linter.unusedSimpArgs false
set_option linter.unusedVariables false
open Go.RowKit
open Fl

theorem feq_no {r s : Nat} (h : Eqv r s) (hs : nan s = true) : feq r r = false := by rw [feq_self, h.nan, hs]; rfl

set_option maxHeartbeats 8000000 in
theorem corners_div (a b c d d1 d2 d3 d4 u1 u2 u3 u4 : Nat)
    (h1 : GivesF 191 #[(.float .f64 a), (.float .f64 c), .int .i64 (-1)] d1) (k1 : GivesF 191 #[(.float .f64 a), (.float .f64 c), .int .i64 1] u1)
    (h2 : GivesF 191 #[(.float .f64 a), (.float .f64 d), .int .i64 (-1)] d2) (k2 : GivesF 191 #[(.float .f64 a), (.float .f64 d), .int .i64 1] u2)
    (h3 : GivesF 191 #[(.float .f64 b), (.float .f64 c), .int .i64 (-1)] d3) (k3 : GivesF 191 #[(.float .f64 b), (.float .f64 c), .int .i64 1] u3)
    (h4 : GivesF 191 #[(.float .f64 b), (.float .f64 d), .int .i64 (-1)] d4) (k4 : GivesF 191 #[(.float .f64 b), (.float .f64 d), .int .i64 1] u4)
    (c1 : nan d1 = false → Can d1) (e1 : nan d1 = false → Can u1) (g1 : nan u1 = nan d1)
    (c2 : nan d2 = false → Can d2) (e2 : nan d2 = false → Can u2) (g2 : nan u2 = nan d2)
    (c3 : nan d3 = false → Can d3) (e3 : nan d3 = false → Can u3) (g3 : nan u3 = nan d3)
    (c4 : nan d4 = false → Can d4) (e4 : nan d4 = false → Can u4) (g4 : nan u4 = nan d4)
    : Gives 190 #[(.agg #[.float .f64 a, .float .f64 b]), (.agg #[.float .f64 c, .float .f64 d]), .func (.func 191) #[] #[]] (.agg #[.float .f64 ((endsI (minN (minN (minN (minN 9218868437227405312 d1) d2) d3) d4) (maxN (maxN (maxN (maxN 18442240474082181120 d1 u1) d2 u2) d3 u3) d4 u4)).1), .float .f64 ((endsI (minN (minN (minN (minN 9218868437227405312 d1) d2) d3) d4) (maxN (maxN (maxN (maxN 18442240474082181120 d1 u1) d2 u2) d3 u3) d4 u4)).2)]) := by
  intro w
  have cl1 := can_minN can_pinf c1
  have cu1 := can_maxN can_ninf e1
  have cl2 := can_minN cl1 c2
  have cu2 := can_maxN cu1 e2
  have cl3 := can_minN cl2 c3
  have cu3 := can_maxN cu2 e3
  have cl4 := can_minN cl3 c4
  have cu4 := can_maxN cu3 e4
  have M1 := Lib.hid (show nan d1 = false → (∀ (w : World) ts t, (Builtin.min_ ts t #[(.float .f64 9218868437227405312), (.float .f64 d1)]).run Tryz.prog w = .ok (.float .f64 (minN 9218868437227405312 d1)) w) ∧ (∀ (w : World) ts t, (Builtin.max_ ts t #[(.float .f64 18442240474082181120), (.float .f64 u1)]).run Tryz.prog w = .ok (.float .f64 (maxN 18442240474082181120 d1 u1)) w) from fun hn => by
    rw [show (minN 9218868437227405312 d1) = minF 9218868437227405312 d1 from if_neg (by rw [hn]; exact Bool.false_ne_true), show (maxN 18442240474082181120 d1 u1) = maxF 18442240474082181120 u1 from if_neg (by rw [hn]; exact Bool.false_ne_true)]
    exact ⟨fun w ts t => run_min_f w ts t _ _ can_pinf.num (c1 hn).num (can_pinf.inj (c1 hn)), fun w ts t => run_max_f w ts t _ _ can_ninf.num (e1 hn).num (can_ninf.inj (e1 hn))⟩)
  have N1 := Lib.hid (show nan d1 = true → (minN 9218868437227405312 d1) = 9218868437227405312 ∧ (maxN 18442240474082181120 d1 u1) = 18442240474082181120 from fun hn => ⟨if_pos hn, if_pos hn⟩)
  have M2 := Lib.hid (show nan d2 = false → (∀ (w : World) ts t, (Builtin.min_ ts t #[(.float .f64 (minN 9218868437227405312 d1)), (.float .f64 d2)]).run Tryz.prog w = .ok (.float .f64 (minN (minN 9218868437227405312 d1) d2)) w) ∧ (∀ (w : World) ts t, (Builtin.max_ ts t #[(.float .f64 (maxN 18442240474082181120 d1 u1)), (.float .f64 u2)]).run Tryz.prog w = .ok (.float .f64 (maxN (maxN 18442240474082181120 d1 u1) d2 u2)) w) from fun hn => by
    rw [show (minN (minN 9218868437227405312 d1) d2) = minF (minN 9218868437227405312 d1) d2 from if_neg (by rw [hn]; exact Bool.false_ne_true), show (maxN (maxN 18442240474082181120 d1 u1) d2 u2) = maxF (maxN 18442240474082181120 d1 u1) u2 from if_neg (by rw [hn]; exact Bool.false_ne_true)]
    exact ⟨fun w ts t => run_min_f w ts t _ _ cl1.num (c2 hn).num (cl1.inj (c2 hn)), fun w ts t => run_max_f w ts t _ _ cu1.num (e2 hn).num (cu1.inj (e2 hn))⟩)
  have N2 := Lib.hid (show nan d2 = true → (minN (minN 9218868437227405312 d1) d2) = (minN 9218868437227405312 d1) ∧ (maxN (maxN 18442240474082181120 d1 u1) d2 u2) = (maxN 18442240474082181120 d1 u1) from fun hn => ⟨if_pos hn, if_pos hn⟩)
  have M3 := Lib.hid (show nan d3 = false → (∀ (w : World) ts t, (Builtin.min_ ts t #[(.float .f64 (minN (minN 9218868437227405312 d1) d2)), (.float .f64 d3)]).run Tryz.prog w = .ok (.float .f64 (minN (minN (minN 9218868437227405312 d1) d2) d3)) w) ∧ (∀ (w : World) ts t, (Builtin.max_ ts t #[(.float .f64 (maxN (maxN 18442240474082181120 d1 u1) d2 u2)), (.float .f64 u3)]).run Tryz.prog w = .ok (.float .f64 (maxN (maxN (maxN 18442240474082181120 d1 u1) d2 u2) d3 u3)) w) from fun hn => by
    rw [show (minN (minN (minN 9218868437227405312 d1) d2) d3) = minF (minN (minN 9218868437227405312 d1) d2) d3 from if_neg (by rw [hn]; exact Bool.false_ne_true), show (maxN (maxN (maxN 18442240474082181120 d1 u1) d2 u2) d3 u3) = maxF (maxN (maxN 18442240474082181120 d1 u1) d2 u2) u3 from if_neg (by rw [hn]; exact Bool.false_ne_true)]
    exact ⟨fun w ts t => run_min_f w ts t _ _ cl2.num (c3 hn).num (cl2.inj (c3 hn)), fun w ts t => run_max_f w ts t _ _ cu2.num (e3 hn).num (cu2.inj (e3 hn))⟩)
  have N3 := Lib.hid (show nan d3 = true → (minN (minN (minN 9218868437227405312 d1) d2) d3) = (minN (minN 9218868437227405312 d1) d2) ∧ (maxN (maxN (maxN 18442240474082181120 d1 u1) d2 u2) d3 u3) = (maxN (maxN 18442240474082181120 d1 u1) d2 u2) from fun hn => ⟨if_pos hn, if_pos hn⟩)
  have M4 := Lib.hid (show nan d4 = false → (∀ (w : World) ts t, (Builtin.min_ ts t #[(.float .f64 (minN (minN (minN 9218868437227405312 d1) d2) d3)), (.float .f64 d4)]).run Tryz.prog w = .ok (.float .f64 (minN (minN (minN (minN 9218868437227405312 d1) d2) d3) d4)) w) ∧ (∀ (w : World) ts t, (Builtin.max_ ts t #[(.float .f64 (maxN (maxN (maxN 18442240474082181120 d1 u1) d2 u2) d3 u3)), (.float .f64 u4)]).run Tryz.prog w = .ok (.float .f64 (maxN (maxN (maxN (maxN 18442240474082181120 d1 u1) d2 u2) d3 u3) d4 u4)) w) from fun hn => by
    rw [show (minN (minN (minN (minN 9218868437227405312 d1) d2) d3) d4) = minF (minN (minN (minN 9218868437227405312 d1) d2) d3) d4 from if_neg (by rw [hn]; exact Bool.false_ne_true), show (maxN (maxN (maxN (maxN 18442240474082181120 d1 u1) d2 u2) d3 u3) d4 u4) = maxF (maxN (maxN (maxN 18442240474082181120 d1 u1) d2 u2) d3 u3) u4 from if_neg (by rw [hn]; exact Bool.false_ne_true)]
    exact ⟨fun w ts t => run_min_f w ts t _ _ cl3.num (c4 hn).num (cl3.inj (c4 hn)), fun w ts t => run_max_f w ts t _ _ cu3.num (e4 hn).num (cu3.inj (e4 hn))⟩)
  have N4 := Lib.hid (show nan d4 = true → (minN (minN (minN (minN 9218868437227405312 d1) d2) d3) d4) = (minN (minN (minN 9218868437227405312 d1) d2) d3) ∧ (maxN (maxN (maxN (maxN 18442240474082181120 d1 u1) d2 u2) d3 u3) d4 u4) = (maxN (maxN (maxN 18442240474082181120 d1 u1) d2 u2) d3 u3) from fun hn => ⟨if_pos hn, if_pos hn⟩)
  have en := ends_any _ _ cl4.lt cu4.lt cl4.num cu4.num
  generalize endsI (minN (minN (minN (minN 9218868437227405312 d1) d2) d3) d4) (maxN (maxN (maxN (maxN 18442240474082181120 d1 u1) d2 u2) d3 u3) d4 u4) = r at *
  generalize (minN (minN (minN (minN 9218868437227405312 d1) d2) d3) d4) = l4 at *
  generalize (maxN (maxN (maxN (maxN 18442240474082181120 d1 u1) d2 u2) d3 u3) d4 u4) = q4 at *
  generalize (minN (minN (minN 9218868437227405312 d1) d2) d3) = l3 at *
  generalize (maxN (maxN (maxN 18442240474082181120 d1 u1) d2 u2) d3 u3) = q3 at *
  generalize (minN (minN 9218868437227405312 d1) d2) = l2 at *
  generalize (maxN (maxN 18442240474082181120 d1 u1) d2 u2) = q2 at *
  generalize (minN 9218868437227405312 d1) = l1 at *
  generalize (maxN 18442240474082181120 d1 u1) = q1 at *
  clear c1 c2 c3 c4 e1 e2 e3 e4 cl1 cl2 cl3 cl4 cu1 cu2 cu3 cu4
  have H1 := Lib.hid (show _ ∧ _ ∧ _ ∧ _ from ⟨h1, h2, h3, h4⟩)
  have K1 := Lib.hid (show _ ∧ _ ∧ _ ∧ _ from ⟨k1, k2, k3, k4⟩)
  have G1 := Lib.hid (show _ ∧ _ ∧ _ ∧ _ from ⟨g1, g2, g3, g4⟩)
  clear h1 h2 h3 h4 k1 k2 k3 k4 g1 g2 g3 g4
  go_enter Tryz.func190, Tryz.ntmps190
  go_wp2_with (go_at_call 92; first | ((with_reducible refine (math_Inf_pos.go _).mono ?_); rintro _ _ ⟨n, rfl, rfl⟩) | ((with_reducible refine (math_Inf_neg.go _).mono ?_); rintro _ _ ⟨n, rfl, rfl⟩))
  refine wp_loop_rounds 3 ?_
  rw [rounds_succ]
  go_wp2_with (fail)
  refine wp_loop_rounds 3 ?_
  rw [rounds_succ]
  go_upto_block 3 with (fail)
  refine cut_world ?_
  intro W1 eW1
  go_cut [7, 8] (fun v7 v8 wc => v7 = (.float .f64 l1) ∧ v8 = (.float .f64 q1) ∧ ∃ n : Later W1, wc = n.val)
  case first =>
    subst eW1
    rcases fot (nan d1) with hn | hn
    · obtain ⟨ml, mh⟩ := M1.out hn
      have D := GivesF.num H1.out.1 hn
      have U := GivesF.num K1.out.1 (by rw [G1.out.1]; exact hn)
      have f : feq d1 d1 = true := by rw [feq_self, hn]; rfl
      clear hn
      go_wp2_with (first | (go_at_call 191; first | ((with_reducible refine (D.go _).mono ?_); rintro _ _ ⟨n, rfl, rfl⟩) | ((with_reducible refine (U.go _).mono ?_); rintro _ _ ⟨n, rfl, rfl⟩)) | (go_at_call 221; refine ((isNaN_any _).go _).mono ?_; rintro _ _ ⟨n, rfl, rfl⟩))
      go_meet
      case rel => exact ⟨rfl, rfl, ⟨_, by (repeat' first | (with_reducible first | exact Below.refl _ _ | assumption | refine Later.belowOf _ ?_ ?_ | refine Below.alloc ?_ ?_ _ | refine Below.setCell ?_ ?_ _ | refine Below.drewN' _ ?_ | refine Below.drew ?_ | exact Ge.le) | go_size)⟩, rfl⟩
    · obtain ⟨ml, mh⟩ := N1.out hn
      have ML := Lib.hid ml
      have MH := Lib.hid mh
      have D := H1.out.1
      have U := K1.out.1
      have HN := Lib.hid hn
      clear hn ml mh
      go_wp2_with (first | (go_at_call 191; first | ((with_reducible refine (D.go _).mono ?_); rintro _ _ ⟨r1, n, hr1, he1, rfl, rfl⟩; have f1 : feq r1 r1 = false := feq_no he1 HN.out; clear hr1 he1) | ((with_reducible refine (U.go _).mono ?_); rintro _ _ ⟨r2, n, hr2, he2, rfl, rfl⟩; clear hr2 he2)) | (go_at_call 221; refine ((isNaN_any _).go _).mono ?_; rintro _ _ ⟨n, rfl, rfl⟩))
      go_meet
      case rel => exact ⟨by rw [ML.out], by rw [MH.out], ⟨_, by (repeat' first | (with_reducible first | exact Below.refl _ _ | assumption | refine Later.belowOf _ ?_ ?_ | refine Below.alloc ?_ ?_ _ | refine Below.setCell ?_ ?_ _ | refine Below.drewN' _ ?_ | refine Below.drew ?_ | exact Ge.le) | go_size)⟩, rfl⟩
  obtain ⟨rfl, rfl, m1, rfl⟩ := hcut
  subst eW1
  go_wp2_with (fail)
  rw [rounds_succ]
  go_upto_block 3 with (fail)
  refine cut_world ?_
  intro W2 eW2
  go_cut [7, 8] (fun v7 v8 wc => v7 = (.float .f64 l2) ∧ v8 = (.float .f64 q2) ∧ ∃ n : Later W2, wc = n.val)
  case first =>
    subst eW2
    rcases fot (nan d2) with hn | hn
    · obtain ⟨ml, mh⟩ := M2.out hn
      have D := GivesF.num H1.out.2.1 hn
      have U := GivesF.num K1.out.2.1 (by rw [G1.out.2.1]; exact hn)
      have f : feq d2 d2 = true := by rw [feq_self, hn]; rfl
      clear hn
      go_wp2_with (first | (go_at_call 191; first | ((with_reducible refine (D.go _).mono ?_); rintro _ _ ⟨n, rfl, rfl⟩) | ((with_reducible refine (U.go _).mono ?_); rintro _ _ ⟨n, rfl, rfl⟩)) | (go_at_call 221; refine ((isNaN_any _).go _).mono ?_; rintro _ _ ⟨n, rfl, rfl⟩))
      go_meet
      case rel => exact ⟨rfl, rfl, ⟨_, by (repeat' first | (with_reducible first | exact Below.refl _ _ | assumption | refine Later.belowOf _ ?_ ?_ | refine Below.alloc ?_ ?_ _ | refine Below.setCell ?_ ?_ _ | refine Below.drewN' _ ?_ | refine Below.drew ?_ | exact Ge.le) | go_size)⟩, rfl⟩
    · obtain ⟨ml, mh⟩ := N2.out hn
      have ML := Lib.hid ml
      have MH := Lib.hid mh
      have D := H1.out.2.1
      have U := K1.out.2.1
      have HN := Lib.hid hn
      clear hn ml mh
      go_wp2_with (first | (go_at_call 191; first | ((with_reducible refine (D.go _).mono ?_); rintro _ _ ⟨r1, n, hr1, he1, rfl, rfl⟩; have f1 : feq r1 r1 = false := feq_no he1 HN.out; clear hr1 he1) | ((with_reducible refine (U.go _).mono ?_); rintro _ _ ⟨r2, n, hr2, he2, rfl, rfl⟩; clear hr2 he2)) | (go_at_call 221; refine ((isNaN_any _).go _).mono ?_; rintro _ _ ⟨n, rfl, rfl⟩))
      go_meet
      case rel => exact ⟨by rw [ML.out], by rw [MH.out], ⟨_, by (repeat' first | (with_reducible first | exact Below.refl _ _ | assumption | refine Later.belowOf _ ?_ ?_ | refine Below.alloc ?_ ?_ _ | refine Below.setCell ?_ ?_ _ | refine Below.drewN' _ ?_ | refine Below.drew ?_ | exact Ge.le) | go_size)⟩, rfl⟩
  obtain ⟨rfl, rfl, m2, rfl⟩ := hcut
  subst eW2
  go_wp2_with (fail)
  rw [rounds_succ]
  go_wp2_with (fail)
  rw [rounds_succ]
  go_wp2_with (fail)
  refine wp_loop_rounds 3 ?_
  rw [rounds_succ]
  go_upto_block 3 with (fail)
  refine cut_world ?_
  intro W3 eW3
  go_cut [7, 8] (fun v7 v8 wc => v7 = (.float .f64 l3) ∧ v8 = (.float .f64 q3) ∧ ∃ n : Later W3, wc = n.val)
  case first =>
    subst eW3
    rcases fot (nan d3) with hn | hn
    · obtain ⟨ml, mh⟩ := M3.out hn
      have D := GivesF.num H1.out.2.2.1 hn
      have U := GivesF.num K1.out.2.2.1 (by rw [G1.out.2.2.1]; exact hn)
      have f : feq d3 d3 = true := by rw [feq_self, hn]; rfl
      clear hn
      go_wp2_with (first | (go_at_call 191; first | ((with_reducible refine (D.go _).mono ?_); rintro _ _ ⟨n, rfl, rfl⟩) | ((with_reducible refine (U.go _).mono ?_); rintro _ _ ⟨n, rfl, rfl⟩)) | (go_at_call 221; refine ((isNaN_any _).go _).mono ?_; rintro _ _ ⟨n, rfl, rfl⟩))
      go_meet
      case rel => exact ⟨rfl, rfl, ⟨_, by (repeat' first | (with_reducible first | exact Below.refl _ _ | assumption | refine Later.belowOf _ ?_ ?_ | refine Below.alloc ?_ ?_ _ | refine Below.setCell ?_ ?_ _ | refine Below.drewN' _ ?_ | refine Below.drew ?_ | exact Ge.le) | go_size)⟩, rfl⟩
    · obtain ⟨ml, mh⟩ := N3.out hn
      have ML := Lib.hid ml
      have MH := Lib.hid mh
      have D := H1.out.2.2.1
      have U := K1.out.2.2.1
      have HN := Lib.hid hn
      clear hn ml mh
      go_wp2_with (first | (go_at_call 191; first | ((with_reducible refine (D.go _).mono ?_); rintro _ _ ⟨r1, n, hr1, he1, rfl, rfl⟩; have f1 : feq r1 r1 = false := feq_no he1 HN.out; clear hr1 he1) | ((with_reducible refine (U.go _).mono ?_); rintro _ _ ⟨r2, n, hr2, he2, rfl, rfl⟩; clear hr2 he2)) | (go_at_call 221; refine ((isNaN_any _).go _).mono ?_; rintro _ _ ⟨n, rfl, rfl⟩))
      go_meet
      case rel => exact ⟨by rw [ML.out], by rw [MH.out], ⟨_, by (repeat' first | (with_reducible first | exact Below.refl _ _ | assumption | refine Later.belowOf _ ?_ ?_ | refine Below.alloc ?_ ?_ _ | refine Below.setCell ?_ ?_ _ | refine Below.drewN' _ ?_ | refine Below.drew ?_ | exact Ge.le) | go_size)⟩, rfl⟩
  obtain ⟨rfl, rfl, m3, rfl⟩ := hcut
  subst eW3
  go_wp2_with (fail)
  rw [rounds_succ]
  go_upto_block 3 with (fail)
  refine cut_world ?_
  intro W4 eW4
  go_cut [7, 8] (fun v7 v8 wc => v7 = (.float .f64 l4) ∧ v8 = (.float .f64 q4) ∧ ∃ n : Later W4, wc = n.val)
  case first =>
    subst eW4
    rcases fot (nan d4) with hn | hn
    · obtain ⟨ml, mh⟩ := M4.out hn
      have D := GivesF.num H1.out.2.2.2 hn
      have U := GivesF.num K1.out.2.2.2 (by rw [G1.out.2.2.2]; exact hn)
      have f : feq d4 d4 = true := by rw [feq_self, hn]; rfl
      clear hn
      go_wp2_with (first | (go_at_call 191; first | ((with_reducible refine (D.go _).mono ?_); rintro _ _ ⟨n, rfl, rfl⟩) | ((with_reducible refine (U.go _).mono ?_); rintro _ _ ⟨n, rfl, rfl⟩)) | (go_at_call 221; refine ((isNaN_any _).go _).mono ?_; rintro _ _ ⟨n, rfl, rfl⟩))
      go_meet
      case rel => exact ⟨rfl, rfl, ⟨_, by (repeat' first | (with_reducible first | exact Below.refl _ _ | assumption | refine Later.belowOf _ ?_ ?_ | refine Below.alloc ?_ ?_ _ | refine Below.setCell ?_ ?_ _ | refine Below.drewN' _ ?_ | refine Below.drew ?_ | exact Ge.le) | go_size)⟩, rfl⟩
    · obtain ⟨ml, mh⟩ := N4.out hn
      have ML := Lib.hid ml
      have MH := Lib.hid mh
      have D := H1.out.2.2.2
      have U := K1.out.2.2.2
      have HN := Lib.hid hn
      clear hn ml mh
      go_wp2_with (first | (go_at_call 191; first | ((with_reducible refine (D.go _).mono ?_); rintro _ _ ⟨r1, n, hr1, he1, rfl, rfl⟩; have f1 : feq r1 r1 = false := feq_no he1 HN.out; clear hr1 he1) | ((with_reducible refine (U.go _).mono ?_); rintro _ _ ⟨r2, n, hr2, he2, rfl, rfl⟩; clear hr2 he2)) | (go_at_call 221; refine ((isNaN_any _).go _).mono ?_; rintro _ _ ⟨n, rfl, rfl⟩))
      go_meet
      case rel => exact ⟨by rw [ML.out], by rw [MH.out], ⟨_, by (repeat' first | (with_reducible first | exact Below.refl _ _ | assumption | refine Later.belowOf _ ?_ ?_ | refine Below.alloc ?_ ?_ _ | refine Below.setCell ?_ ?_ _ | refine Below.drewN' _ ?_ | refine Below.drew ?_ | exact Ge.le) | go_size)⟩, rfl⟩
  obtain ⟨rfl, rfl, m4, rfl⟩ := hcut
  subst eW4
  go_wp2_with (fail)
  rw [rounds_succ]
  go_wp2_with (fail)
  rw [rounds_succ]
  go_wp2_with (go_at_call 193; (with_reducible refine (en.go _).mono ?_); rintro _ _ ⟨n, rfl, rfl⟩)
  go_returns
  exact ⟨rfl, by (repeat' first | (with_reducible first | exact Below.refl _ _ | assumption | refine Later.belowOf _ ?_ ?_ | refine Below.alloc ?_ ?_ _ | refine Below.setCell ?_ ?_ _ | refine Below.drewN' _ ?_ | refine Below.drew ?_ | exact Ge.le) | go_size)⟩
end Go.Proofs.YtkmgfbhnioojhaaGreat

/- Contracts: ival's quotients, case by case. -/
namespace Go.Proofs.YtkmgfbhnioojhaaGreat
set_option linter.unusedSimpArgs false
set_option linter.unusedVariables false
open Go.RowKit
open Fl

set_option maxHeartbeats 2000000 in
theorem div_none (a b c d : Nat) (h0 : (noneB a b || noneB c d) = true) : Gives 113 #[(.agg #[.float .f64 a, .float .f64 b]), (.agg #[.float .f64 c, .float .f64 d])] (.agg #[.float .f64 9218868437227405312, .float .f64 18442240474082181120]) := by
  intro w
  go_enter Tryz.func113, Tryz.ntmps113
  go_wp2_with (first | (go_at_call 124; refine Calls.mono (none2_any a b c d _ _ inferInstance (by simp [go_sem]) (by simp [go_sem]) (by simp [go_sem]) (by simp [go_sem])) ?_; rintro _ _ ⟨n, rfl, rfl⟩) | (go_at_call 55; refine (empty_any.go _).mono ?_; rintro _ _ ⟨n, rfl, rfl⟩))
  go_returns
  exact ⟨rfl, by (repeat' first | (with_reducible first | exact Below.refl _ _ | assumption | refine Later.belowOf _ ?_ ?_ | refine Below.alloc ?_ ?_ _ | refine Below.setCell ?_ ?_ _ | refine Below.drewN' _ ?_ | refine Below.drew ?_ | exact Ge.le) | go_size)⟩

set_option maxHeartbeats 2000000 in
theorem div_by0 (a b c d : Nat) (h0 : (noneB a b || noneB c d) = false) (h1 : eqI c d 0 0 = true) : Gives 113 #[(.agg #[.float .f64 a, .float .f64 b]), (.agg #[.float .f64 c, .float .f64 d])] (.agg #[.float .f64 9218868437227405312, .float .f64 18442240474082181120]) := by
  intro w
  go_enter Tryz.func113, Tryz.ntmps113
  go_wp2_with (first | (go_at_call 124; refine Calls.mono (none2_any a b c d _ _ inferInstance (by simp [go_sem]) (by simp [go_sem]) (by simp [go_sem]) (by simp [go_sem])) ?_; rintro _ _ ⟨n, rfl, rfl⟩) | (go_at_call 55; refine (empty_any.go _).mono ?_; rintro _ _ ⟨n, rfl, rfl⟩))
  go_returns
  exact ⟨rfl, by (repeat' first | (with_reducible first | exact Below.refl _ _ | assumption | refine Later.belowOf _ ?_ ?_ | refine Below.alloc ?_ ?_ _ | refine Below.setCell ?_ ?_ _ | refine Below.drewN' _ ?_ | refine Below.drew ?_ | exact Ge.le) | go_size)⟩

set_option maxHeartbeats 2000000 in
theorem div_of0 (a b c d : Nat) (h0 : (noneB a b || noneB c d) = false) (h1 : eqI c d 0 0 = false) (h2 : eqI a b 0 0 = true) : Gives 113 #[(.agg #[.float .f64 a, .float .f64 b]), (.agg #[.float .f64 c, .float .f64 d])] (.agg #[.float .f64 0, .float .f64 0]) := by
  intro w
  go_enter Tryz.func113, Tryz.ntmps113
  go_wp2_with (go_at_call 124; refine Calls.mono (none2_any a b c d _ _ inferInstance (by simp [go_sem]) (by simp [go_sem]) (by simp [go_sem]) (by simp [go_sem])) ?_; rintro _ _ ⟨n, rfl, rfl⟩)
  go_returns
  exact ⟨rfl, by (repeat' first | (with_reducible first | exact Below.refl _ _ | assumption | refine Later.belowOf _ ?_ ?_ | refine Below.alloc ?_ ?_ _ | refine Below.setCell ?_ ?_ _ | refine Below.drewN' _ ?_ | refine Below.drew ?_ | exact Ge.le) | go_size)⟩

set_option maxHeartbeats 2000000 in
theorem div_cnr (a b c d r1 r2 : Nat) (h0 : (noneB a b || noneB c d) = false) (h1 : eqI c d 0 0 = false) (h2 : eqI a b 0 0 = false) (h3 : flt 0 c = true ∨ flt 0 c = false ∧ flt d 0 = true)
    (K : Gives 190 #[(.agg #[.float .f64 a, .float .f64 b]), (.agg #[.float .f64 c, .float .f64 d]), .func (.func 191) #[] #[]] (.agg #[.float .f64 r1, .float .f64 r2])) : Gives 113 #[(.agg #[.float .f64 a, .float .f64 b]), (.agg #[.float .f64 c, .float .f64 d])] (.agg #[.float .f64 r1, .float .f64 r2]) := by
  intro w
  rcases h3 with h3 | ⟨h3, h4⟩
  all_goals
    go_enter Tryz.func113, Tryz.ntmps113
    go_wp2_with (first | (go_at_call 124; refine Calls.mono (none2_any a b c d _ _ inferInstance (by simp [go_sem]) (by simp [go_sem]) (by simp [go_sem]) (by simp [go_sem])) ?_; rintro _ _ ⟨n, rfl, rfl⟩) | (go_at_call 190; refine (K.go _).mono ?_; rintro _ _ ⟨n, rfl, rfl⟩))
    go_returns
    exact ⟨rfl, by (repeat' first | (with_reducible first | exact Below.refl _ _ | assumption | refine Later.belowOf _ ?_ ?_ | refine Below.alloc ?_ ?_ _ | refine Below.setCell ?_ ?_ _ | refine Below.drewN' _ ?_ | refine Below.drew ?_ | exact Ge.le) | go_size)⟩

set_option maxHeartbeats 2000000 in
theorem div_whole (a b c d : Nat) (h0 : (noneB a b || noneB c d) = false) (h1 : eqI c d 0 0 = false) (h2 : eqI a b 0 0 = false) (h3 : flt 0 c = false) (h4 : flt d 0 = false)
    (h5 : (flt c 0 = true ∧ flt 0 d = true) ∨ (flt c 0 = true ∧ flt 0 d = false ∧ flt a 0 = true ∧ flt 0 b = true) ∨ (flt c 0 = false ∧ flt a 0 = true ∧ flt 0 b = true)) : Gives 113 #[(.agg #[.float .f64 a, .float .f64 b]), (.agg #[.float .f64 c, .float .f64 d])] (.agg #[.float .f64 18442240474082181120, .float .f64 9218868437227405312]) := by
  intro w
  rcases h5 with ⟨h5, h6⟩ | ⟨h5, h6, h7, h8⟩ | ⟨h5, h7, h8⟩
  all_goals
    go_enter Tryz.func113, Tryz.ntmps113
    go_wp2_with (first | (go_at_call 124; refine Calls.mono (none2_any a b c d _ _ inferInstance (by simp [go_sem]) (by simp [go_sem]) (by simp [go_sem]) (by simp [go_sem])) ?_; rintro _ _ ⟨n, rfl, rfl⟩) | (go_at_call 192; refine (whole_any.go _).mono ?_; rintro _ _ ⟨n, rfl, rfl⟩))
    go_returns
    exact ⟨rfl, by (repeat' first | (with_reducible first | exact Below.refl _ _ | assumption | refine Later.belowOf _ ?_ ?_ | refine Below.alloc ?_ ?_ _ | refine Below.setCell ?_ ?_ _ | refine Below.drewN' _ ?_ | refine Below.drew ?_ | exact Ge.le) | go_size)⟩

set_option maxHeartbeats 2000000 in
theorem div_mir (a b c d a' b' c' d' r1 r2 : Nat) (h0 : (noneB a b || noneB c d) = false) (h1 : eqI c d 0 0 = false) (h2 : eqI a b 0 0 = false) (h3 : flt 0 c = false) (h4 : flt d 0 = false)
    (h5 : flt c 0 = true) (h6 : flt 0 d = false) (h7 : flt a 0 = true ∧ flt 0 b = false ∨ flt a 0 = false)
    (N1 : Gives 118 #[(.agg #[.float .f64 a, .float .f64 b])] (.agg #[.float .f64 a', .float .f64 b'])) (N2 : Gives 118 #[(.agg #[.float .f64 c, .float .f64 d])] (.agg #[.float .f64 c', .float .f64 d']))
    (K : Gives 113 #[(.agg #[.float .f64 a', .float .f64 b']), (.agg #[.float .f64 c', .float .f64 d'])] (.agg #[.float .f64 r1, .float .f64 r2])) : Gives 113 #[(.agg #[.float .f64 a, .float .f64 b]), (.agg #[.float .f64 c, .float .f64 d])] (.agg #[.float .f64 r1, .float .f64 r2]) := by
  intro w
  rcases h7 with ⟨h7, h8⟩ | h7
  all_goals
    go_enter Tryz.func113, Tryz.ntmps113
    go_wp2_with (go_at_call 124; refine Calls.mono (none2_any a b c d _ _ inferInstance (by simp [go_sem]) (by simp [go_sem]) (by simp [go_sem]) (by simp [go_sem])) ?_; rintro _ _ ⟨n, rfl, rfl⟩)
    go_region_held3 (fun w' => w'.cell? ⟨w.heap.size, 0, none⟩ = some (.float .f64 a) ∧ w'.cell? ⟨w.heap.size, 1, none⟩ = some (.float .f64 b) ∧ w'.cell? ⟨w.heap.size + 1, 0, none⟩ = some (.float .f64 c) ∧ w'.cell? ⟨w.heap.size + 1, 1, none⟩ = some (.float .f64 d))
      (first | (go_simp; done) | go_keep)
      ((first | (go_at_call 118; first | ((with_reducible refine (N1.go _).mono ?_); rintro _ _ ⟨n, rfl, rfl⟩) | ((with_reducible refine (N2.go _).mono ?_); rintro _ _ ⟨n, rfl, rfl⟩)) | (go_at_call 113; (with_reducible refine (K.go _).mono ?_); rintro _ _ ⟨n, rfl, rfl⟩)))
    all_goals
      rename_i hHeld
      clear hHeld
      go_wp2
      go_returns
      exact ⟨rfl, by (repeat' first | (with_reducible first | exact Below.refl _ _ | assumption | refine Later.belowOf _ ?_ ?_ | refine Below.alloc ?_ ?_ _ | refine Below.setCell ?_ ?_ _ | refine Below.drewN' _ ?_ | refine Below.drew ?_ | exact Ge.le) | go_size)⟩

set_option maxHeartbeats 2000000 in
theorem div_up (a b c d s r1 r2 : Nat) (h0 : (noneB a b || noneB c d) = false) (h1 : eqI c d 0 0 = false) (h2 : eqI a b 0 0 = false) (h3 : flt 0 c = false) (h4 : flt d 0 = false) (h5 : flt c 0 = false) (h6 : flt a 0 = false) (h7 : fle 0 a = true)
    (D : Gives 191 #[(.float .f64 a), (.float .f64 d), .int .i64 (-1)] (.float .f64 s)) (K : Gives 193 #[(.float .f64 s), (.float .f64 9218868437227405312)] (.agg #[.float .f64 r1, .float .f64 r2])) : Gives 113 #[(.agg #[.float .f64 a, .float .f64 b]), (.agg #[.float .f64 c, .float .f64 d])] (.agg #[.float .f64 r1, .float .f64 r2]) := by
  intro w
  go_enter Tryz.func113, Tryz.ntmps113
  go_wp2_with (first | (go_at_call 124; refine Calls.mono (none2_any a b c d _ _ inferInstance (by simp [go_sem]) (by simp [go_sem]) (by simp [go_sem]) (by simp [go_sem])) ?_; rintro _ _ ⟨n, rfl, rfl⟩) | (go_at_call 191; refine (D.go _).mono ?_; rintro _ _ ⟨n, rfl, rfl⟩) | (go_at_call 92; refine (math_Inf_pos.go _).mono ?_; rintro _ _ ⟨n, rfl, rfl⟩) | (go_at_call 193; refine (K.go _).mono ?_; rintro _ _ ⟨n, rfl, rfl⟩))
  go_returns
  exact ⟨rfl, by (repeat' first | (with_reducible first | exact Below.refl _ _ | assumption | refine Later.belowOf _ ?_ ?_ | refine Below.alloc ?_ ?_ _ | refine Below.setCell ?_ ?_ _ | refine Below.drewN' _ ?_ | refine Below.drew ?_ | exact Ge.le) | go_size)⟩

set_option maxHeartbeats 2000000 in
theorem div_down (a b c d s r1 r2 : Nat) (h0 : (noneB a b || noneB c d) = false) (h1 : eqI c d 0 0 = false) (h2 : eqI a b 0 0 = false) (h3 : flt 0 c = false) (h4 : flt d 0 = false) (h5 : flt c 0 = false) (h6 : flt a 0 = true) (h8 : flt 0 b = false) (h7 : fle 0 a = false)
    (D : Gives 191 #[(.float .f64 b), (.float .f64 d), .int .i64 1] (.float .f64 s)) (K : Gives 193 #[(.float .f64 18442240474082181120), (.float .f64 s)] (.agg #[.float .f64 r1, .float .f64 r2])) : Gives 113 #[(.agg #[.float .f64 a, .float .f64 b]), (.agg #[.float .f64 c, .float .f64 d])] (.agg #[.float .f64 r1, .float .f64 r2]) := by
  intro w
  go_enter Tryz.func113, Tryz.ntmps113
  go_wp2_with (go_at_call 124; refine Calls.mono (none2_any a b c d _ _ inferInstance (by simp [go_sem]) (by simp [go_sem]) (by simp [go_sem]) (by simp [go_sem])) ?_; rintro _ _ ⟨n, rfl, rfl⟩)
  go_region_held3 (fun w' => w'.cell? ⟨w.heap.size, 0, none⟩ = some (.float .f64 a) ∧ w'.cell? ⟨w.heap.size, 1, none⟩ = some (.float .f64 b) ∧ w'.cell? ⟨w.heap.size + 1, 0, none⟩ = some (.float .f64 c) ∧ w'.cell? ⟨w.heap.size + 1, 1, none⟩ = some (.float .f64 d))
    (first | (go_simp; done) | go_keep)
    ((first | (go_at_call 92; (with_reducible refine (math_Inf_neg.go _).mono ?_); rintro _ _ ⟨n, rfl, rfl⟩) | (go_at_call 191; (with_reducible refine (D.go _).mono ?_); rintro _ _ ⟨n, rfl, rfl⟩) | (go_at_call 193; (with_reducible refine (K.go _).mono ?_); rintro _ _ ⟨n, rfl, rfl⟩)))
  all_goals
    rename_i hHeld
    clear hHeld
    go_wp2
    go_returns
    exact ⟨rfl, by (repeat' first | (with_reducible first | exact Below.refl _ _ | assumption | refine Later.belowOf _ ?_ ?_ | refine Below.alloc ?_ ?_ _ | refine Below.setCell ?_ ?_ _ | refine Below.drewN' _ ?_ | refine Below.drew ?_ | exact Ge.le) | go_size)⟩
end Go.Proofs.YtkmgfbhnioojhaaGreat

/- Contracts: quotients of intervals, of both, are one. -/
namespace Go.Proofs.YtkmgfbhnioojhaaGreat
set_option linter.unusedSimpArgs false
set_option linter.unusedVariables false
open Go.RowKit
open Fl

theorem can_plus {x : Nat} (h : Can x) : plusB x = true := by
  rw [plusB_eq h.lt]
  cases hf : feq x 0
  · rfl
  · have := h.zero (by rw [(feq_true.1 hf).2.2]; decide)
    subst this; rfl
theorem can_neg {x : Nat} (h : nan x = false) : Can (cl (fneg x)) := ⟨cl_lt (fneg_lt x), nan_cl _ (by rw [nan_fneg]; exact h), fun h0 => by rw [idx_cl] at h0; unfold cl; rw [if_pos h0]⟩
theorem can_cl {x : Nat} (h : Can x) : cl x = x := by
  unfold cl
  split
  · rename_i h0; exact (h.zero h0).symm
  · rfl
theorem idx_clneg (x : Nat) : idx (cl (fneg x)) = - idx x := by rw [idx_cl, idx_fneg]
theorem right_can {p q : Nat} (hp : Can p) (hq : Can q) (h1 : idx p ≤ idx q) (h2 : idx p < 9218868437227405312) (h3 : -9218868437227405312 < idx q) : rightB p q = true := by
  unfold rightB
  rw [can_plus hp, can_plus hq, fle_true.2 ⟨hp.num, hq.num, h1⟩, flt_true.2 ⟨hp.num, nan_pinf, by rw [idx_pinf]; exact h2⟩, flt_true.2 ⟨nan_ninf, hq.num, by rw [idx_ninf]; exact h3⟩]
  simp
theorem none_can {p q : Nat} (hp : Can p) (hq : Can q) (h1 : idx p ≤ idx q) (h2 : idx p < 9218868437227405312) (h3 : -9218868437227405312 < idx q) : noneB p q = false := by
  unfold noneB
  rw [right_can hp hq h1 h2 h3]
  have : eqI p q 9218868437227405312 18442240474082181120 = false := by
    unfold eqI
    have : feq p 9218868437227405312 = false := by
      unfold feq
      rw [hp.num, nan_pinf, idx_pinf]
      simp; omega
    rw [this]; rfl
  rw [this]; rfl
theorem make_can {p q : Nat} (hp : Can p) (hq : Can q) (h1 : idx p ≤ idx q) (h2 : idx p < 9218868437227405312) (h3 : -9218868437227405312 < idx q) : makeI p q = (p, q) := by
  unfold makeI
  rw [can_cl hp, can_cl hq, if_pos (right_can hp hq h1 h2 h3)]
theorem ends_ninf {h : Nat} (c : Can h) : endsI 18442240474082181120 h = (18442240474082181120, maxF h 18442240474082181119) ∧ noneB 18442240474082181120 (maxF h 18442240474082181119) = false ∧ Can (maxF h 18442240474082181119) := by
  have c2 : Can 18442240474082181119 := ⟨by decide, by decide, by decide⟩
  have cm := can_max c c2
  have e : idx (maxF h 18442240474082181119) = max (idx h) (-9218868437227405311) := by rw [maxF_idx c.num (by decide)]; rfl
  have l := idx_le cm.num
  refine ⟨?_, none_can can_ninf cm (by rw [idx_ninf]; omega) (by decide) (by omega), cm⟩
  unfold endsI
  rw [show minF 18442240474082181120 9218868437227405311 = 18442240474082181120 by decide]
  exact make_can can_ninf cm (by rw [idx_ninf]; omega) (by decide) (by omega)
theorem ends_pinf {g : Nat} (c : Can g) : endsI g 9218868437227405312 = (minF g 9218868437227405311, 9218868437227405312) ∧ noneB (minF g 9218868437227405311) 9218868437227405312 = false ∧ Can (minF g 9218868437227405311) := by
  have c2 : Can 9218868437227405311 := ⟨by decide, by decide, by decide⟩
  have cm := can_min c c2
  have e : idx (minF g 9218868437227405311) = min (idx g) 9218868437227405311 := by rw [minF_idx c.num (by decide)]; rfl
  have l := idx_le cm.num
  refine ⟨?_, none_can cm can_pinf (by rw [idx_pinf]; omega) (by omega) (by decide), cm⟩
  unfold endsI
  rw [show maxF 9218868437227405312 18442240474082181119 = 9218868437227405312 by decide]
  exact make_can cm can_pinf (by rw [idx_pinf]; omega) (by omega) (by decide)

theorem make_none {p q : Nat} (hp : p < 18446744073709551616) (hq : q < 18446744073709551616) (h : noneB (makeI p q).1 (makeI p q).2 = true) : makeI p q = (9218868437227405312, 18442240474082181120) := by
  unfold makeI at h ⊢
  split
  · rename_i hr
    rw [if_pos hr] at h
    unfold noneB at h
    rw [hr] at h
    simp only [Bool.not_true, Bool.false_or] at h
    unfold eqI at h
    rw [Bool.and_eq_true] at h
    rw [pinf_of (cl_lt hp) h.1, ninf_of (cl_lt hq) h.2]
  · rfl
theorem hull_none {z : Nat × Nat} (h : noneB z.1 z.2 = true → z = (9218868437227405312, 18442240474082181120)) : hullI 9218868437227405312 18442240474082181120 z.1 z.2 = z := by
  unfold hullI
  rw [show noneB 9218868437227405312 18442240474082181120 = true by decide]
  cases hz : noneB z.1 z.2
  · simp
  · rw [h hz]; rfl
theorem ends_none {p q : Nat} (hp : p < 18446744073709551616) (hq : q < 18446744073709551616) (h : noneB (endsI p q).1 (endsI p q).2 = true) : endsI p q = (9218868437227405312, 18442240474082181120) :=
  make_none (minF_lt hp (by decide)) (maxF_lt hq (by decide)) h

theorem neg_facts {a b : Nat} (ha : a < 18446744073709551616) (hb : b < 18446744073709551616) (h : noneB a b = false) : negI a b = (cl (fneg b), cl (fneg a)) ∧ noneB (cl (fneg b)) (cl (fneg a)) = false := by
  obtain ⟨n1, n2⟩ := nums_of h
  obtain ⟨s1, s2⟩ := sides_of h
  have r := (fle_true.1 (right_of h).2).2.2
  have s1 := (flt_true.1 s1).2.2
  have s2 := (flt_true.1 s2).2.2
  rw [idx_pinf] at s1
  rw [idx_ninf] at s2
  have i1 := idx_clneg a
  have i2 := idx_clneg b
  refine ⟨?_, none_can (can_neg n2) (can_neg n1) (by omega) (by omega) (by omega)⟩
  unfold negI
  rw [h, if_neg Bool.false_ne_true, ← makeI_cl]
  exact make_can (can_neg n2) (can_neg n1) (by omega) (by omega) (by omega)

theorem sgn_clneg {x : Nat} (h : rung x ≠ 0) : sgn (cl (fneg x)) = !sgn x ∧ rung (cl (fneg x)) = rung x := by
  have : cl (fneg x) = fneg x := by
    unfold cl
    rw [if_neg (by rw [idx_fneg]; intro h0; exact h ((idx_zero_iff x).1 (by omega)))]
  rw [this]
  exact ⟨sgn_fneg x, rung_fneg x⟩
theorem rung_clneg (x : Nat) : rung (cl (fneg x)) = rung x := by
  by_cases h : rung x = 0
  · unfold cl
    rw [if_pos (by rw [idx_fneg, (idx_zero_iff x).2 h]; rfl), h]; rfl
  · exact (sgn_clneg h).2
theorem val_clneg (x : Nat) : val (cl (fneg x)) = - val x := by
  rw [val_pv, idx_clneg, val_pv]
  unfold pv
  by_cases h1 : idx x < 0
  · rw [if_neg (by omega), if_pos h1]; simp
  · by_cases h2 : idx x = 0
    · rw [h2]; rfl
    · rw [if_pos (by omega), if_neg h1]; simp
theorem div_negs {p q : Nat} (dir : Int) (np : nan p = false) (nq : nan q = false) (hq : rung q ≠ 0) : divS (cl (fneg p)) (cl (fneg q)) dir = divS p q dir := by
  have n1 : nan (cl (fneg p)) = false := (can_neg np).num
  have n2 : nan (cl (fneg q)) = false := (can_neg nq).num
  have f1 : finB (cl (fneg p)) = finB p := by unfold finB; rw [rung_clneg]
  have f2 : finB (cl (fneg q)) = finB q := by unfold finB; rw [rung_clneg]
  unfold divS
  rw [n1, n2, np, nq, rung_clneg, f1, f2, val_clneg, (sgn_clneg hq).1]
  cases fp : finB p
  · have hp : rung p ≠ 0 := by have := finB_false.1 fp; unfold INFR at this; omega
    rw [(sgn_clneg hp).1]
    cases finB q <;> simp
  · have : -val p * (if (!sgn q) = true then (-1 : Int) else 1) = val p * (if sgn q = true then (-1 : Int) else 1) := by cases sgn q <;> simp
    rw [this]
    simp

theorem lo_sym {a b c d : Nat} (n1 : nan a = false) (n2 : nan b = false) (n3 : nan c = false) (n4 : nan d = false) (hc : rung c ≠ 0) (hd : rung d ≠ 0) :
    loD (cl (fneg b)) (cl (fneg a)) (cl (fneg d)) (cl (fneg c)) = loD a b c d := by
  refine (can_loD _ _ _ _).inj (can_loD _ _ _ _) ?_
  rw [loD_idx, loD_idx, div_negs _ n2 n4 hd, div_negs _ n2 n3 hc, div_negs _ n1 n4 hd, div_negs _ n1 n3 hc]
  simp only []
  have g : ∀ p q, nan (divS p q (-1)) = false → _ := fun p q h => idx_le (can_div (p := p) (q := q) (-1) h).num
  have g1 := g a c
  have g2 := g a d
  have g3 := g b c
  have g4 := g b d
  cases nan (divS a c (-1)) <;> cases nan (divS a d (-1)) <;> cases nan (divS b c (-1)) <;> cases nan (divS b d (-1)) <;> simp only [Bool.false_eq_true, if_false, if_true] <;> omega
theorem hi_sym {a b c d : Nat} (n1 : nan a = false) (n2 : nan b = false) (n3 : nan c = false) (n4 : nan d = false) (hc : rung c ≠ 0) (hd : rung d ≠ 0) :
    hiD (cl (fneg b)) (cl (fneg a)) (cl (fneg d)) (cl (fneg c)) = hiD a b c d := by
  refine (can_hiD _ _ _ _).inj (can_hiD _ _ _ _) ?_
  rw [hiD_idx, hiD_idx, div_negs _ n2 n4 hd, div_negs _ n2 n3 hc, div_negs _ n1 n4 hd, div_negs _ n1 n3 hc, div_negs _ n2 n4 hd, div_negs _ n2 n3 hc, div_negs _ n1 n4 hd, div_negs _ n1 n3 hc]
  simp only []
  cases nan (divS a c (-1)) <;> cases nan (divS a d (-1)) <;> cases nan (divS b c (-1)) <;> cases nan (divS b d (-1)) <;> simp only [Bool.false_eq_true, if_false, if_true] <;> omega

/-! ### The quotient -/
def quotB (a b d : Nat) : Nat × Nat := if fle 0 a then endsI (divS a d (-1)) 9218868437227405312 else endsI 18442240474082181120 (divS b d 1)
def quotI (a b c d : Nat) : Nat × Nat :=
  if noneB a b || noneB c d then (9218868437227405312, 18442240474082181120)
  else if eqI c d 0 0 then (9218868437227405312, 18442240474082181120)
  else if eqI a b 0 0 then (0, 0)
  else if flt 0 c || flt d 0 then endsI (loD a b c d) (hiD a b c d)
  else if (flt c 0 && flt 0 d) || (flt a 0 && flt 0 b) then (18442240474082181120, 9218868437227405312)
  else if flt c 0 then quotB (cl (fneg b)) (cl (fneg a)) (cl (fneg c)) else quotB a b d

/-- What two ends that may be say of themselves. -/
structure Ends (a b : Nat) : Prop where
  ca : Can a
  cb : Can b
  le : idx a ≤ idx b
  up : idx a < 9218868437227405312
  dn : -9218868437227405312 < idx b
theorem ends_of {a b : Nat} (ha : a < 18446744073709551616) (hb : b < 18446744073709551616) (h : noneB a b = false) : Ends a b := by
  obtain ⟨c1, c2⟩ := can_ends ha hb h
  obtain ⟨s1, s2⟩ := sides_of h
  have r := (fle_true.1 (right_of h).2).2.2
  have s1 := (flt_true.1 s1).2.2
  have s2 := (flt_true.1 s2).2.2
  rw [idx_pinf] at s1
  rw [idx_ninf] at s2
  exact ⟨c1, c2, r, s1, s2⟩
theorem flt0 {x : Nat} (h : Can x) : (flt x 0 = decide (idx x < 0)) ∧ (flt 0 x = decide (0 < idx x)) ∧ (fle 0 x = decide (0 ≤ idx x)) ∧ (feq x 0 = decide (idx x = 0)) := by
  unfold flt fle feq
  rw [h.num, show nan 0 = false by decide, show idx 0 = 0 by decide]
  simp

set_option maxHeartbeats 4000000 in
theorem half_ival {a b d : Nat} (E1 : Ends a b) (E2 : Ends 0 d) (hd : 0 < idx d) (h0 : (noneB a b || noneB 0 d) = false) (hx : ¬ (idx a = 0 ∧ idx b = 0)) (hs : ¬ (idx a < 0 ∧ 0 < idx b)) :
    Gives 113 #[(.agg #[.float .f64 a, .float .f64 b]), (.agg #[.float .f64 0, .float .f64 d])] (.agg #[.float .f64 ((quotB a b d).1), .float .f64 ((quotB a b d).2)]) := by
  obtain ⟨a1, a2, a3, a4⟩ := flt0 E1.ca
  obtain ⟨b1, b2, b3, b4⟩ := flt0 E1.cb
  obtain ⟨d1, d2, d3, d4⟩ := flt0 E2.cb
  have le := E1.le
  have h1 : eqI 0 d 0 0 = false := by unfold eqI; rw [d4]; simp; omega
  have h2 : eqI a b 0 0 = false := by unfold eqI; rw [a4, b4]; simp; omega
  have h3 : flt 0 0 = false := by decide
  have h4 : flt d 0 = false := by rw [d1]; simp; omega
  unfold quotB
  by_cases ha : 0 ≤ idx a
  · have h7 : fle 0 a = true := by rw [a3]; simpa using ha
    have fa : finB a = true := fin_of_idx E1.ca.num (by omega) E1.up
    have nn : nan (divS a d (-1)) = false := by rw [div_nan_iff _ E1.ca.num E2.cb.num hd, fa]; simp
    have cd := can_div (-1) nn
    rw [if_pos h7]
    exact div_up a b 0 d _ _ _ h0 h1 h2 h3 h4 h3 (by rw [a1]; simp; omega) h7 ((div_any a d (-1) E1.ca.lt E2.cb.lt).num nn) (ends_any _ _ cd.lt (by decide) cd.num (by decide))
  · have h7 : fle 0 a = false := by rw [a3]; simp; omega
    have hb : idx b ≤ 0 := by omega
    have fb : finB b = true := fin_of_idx E1.cb.num E1.dn (by omega)
    have nn : nan (divS b d 1) = false := by rw [div_nan_iff _ E1.cb.num E2.cb.num hd, fb]; simp
    have cd := can_div 1 nn
    rw [if_neg (by rw [h7]; exact Bool.false_ne_true)]
    exact div_down a b 0 d _ _ _ h0 h1 h2 h3 h4 h3 (by rw [a1]; simp; omega) (by rw [b2]; simp; omega) h7 ((div_any b d 1 E1.cb.lt E2.cb.lt).num nn) (ends_any _ _ (by decide) cd.lt (by decide) cd.num)

theorem quot_ival_any (a b c d : Nat) (ha : a < 18446744073709551616) (hb : b < 18446744073709551616) (hc : c < 18446744073709551616) (hd : d < 18446744073709551616) : Gives 113 #[(.agg #[.float .f64 a, .float .f64 b]), (.agg #[.float .f64 c, .float .f64 d])] (.agg #[.float .f64 ((quotI a b c d).1), .float .f64 ((quotI a b c d).2)]) := by
  unfold quotI
  cases h0 : noneB a b || noneB c d
  · have h0' := h0
    rw [Bool.or_eq_false_iff] at h0'
    have E1 := ends_of ha hb h0'.1
    have E2 := ends_of hc hd h0'.2
    obtain ⟨a1, a2, a3, a4⟩ := flt0 E1.ca
    obtain ⟨b1, b2, b3, b4⟩ := flt0 E1.cb
    obtain ⟨c1, c2, c3, c4⟩ := flt0 E2.ca
    obtain ⟨d1, d2, d3, d4⟩ := flt0 E2.cb
    have le1 := E1.le
    have le2 := E2.le
    simp only [Bool.false_eq_true, if_false]
    cases h1 : eqI c d 0 0
    · simp only [Bool.false_eq_true, if_false]
      cases h2 : eqI a b 0 0
      · simp only [Bool.false_eq_true, if_false]
        have hz1 : ¬ (idx c = 0 ∧ idx d = 0) := by unfold eqI at h1; rw [c4, d4] at h1; simpa using h1
        have hz2 : ¬ (idx a = 0 ∧ idx b = 0) := by unfold eqI at h2; rw [a4, b4] at h2; simpa using h2
        by_cases h3 : 0 < idx c ∨ idx d < 0
        · have e : (flt 0 c || flt d 0) = true := by rw [c2, d1]; simpa using h3
          rw [if_pos e]
          refine div_cnr a b c d _ _ h0 h1 h2 ?_ (corners_div a b c d _ _ _ _ _ _ _ _ (div_any a c (-1) ha hc) (div_any a c 1 ha hc) (div_any a d (-1) ha hd) (div_any a d 1 ha hd) (div_any b c (-1) hb hc) (div_any b c 1 hb hc) (div_any b d (-1) hb hd) (div_any b d 1 hb hd)
            (can_div _) (fun h => can_div _ (by rw [nan_div _ _ 1 (-1)]; exact h)) (nan_div _ _ _ _) (can_div _) (fun h => can_div _ (by rw [nan_div _ _ 1 (-1)]; exact h)) (nan_div _ _ _ _) (can_div _) (fun h => can_div _ (by rw [nan_div _ _ 1 (-1)]; exact h)) (nan_div _ _ _ _) (can_div _) (fun h => can_div _ (by rw [nan_div _ _ 1 (-1)]; exact h)) (nan_div _ _ _ _))
          rw [c2, d1]
          by_cases h4 : 0 < idx c
          · left; simpa using h4
          · right; exact ⟨by simpa using h4, by simp; omega⟩
        · have e : (flt 0 c || flt d 0) = false := by rw [c2, d1]; simp; omega
          have e1 : flt 0 c = false := by rw [c2]; simp; omega
          have e2 : flt d 0 = false := by rw [d1]; simp; omega
          rw [if_neg (by rw [e]; exact Bool.false_ne_true)]
          by_cases h4 : (idx c < 0 ∧ 0 < idx d) ∨ (idx a < 0 ∧ 0 < idx b)
          · have e3 : ((flt c 0 && flt 0 d) || (flt a 0 && flt 0 b)) = true := by rw [c1, d2, a1, b2]; simpa using h4
            rw [if_pos e3]
            refine div_whole a b c d h0 h1 h2 e1 e2 ?_
            rw [c1, d2, a1, b2]
            simp only [decide_eq_true_eq, decide_eq_false_iff_not]
            omega
          · have e3 : ((flt c 0 && flt 0 d) || (flt a 0 && flt 0 b)) = false := by
              rw [c1, d2, a1, b2]
              cases hh : (decide (idx c < 0) && decide (0 < idx d) || decide (idx a < 0) && decide (0 < idx b))
              · rfl
              · exact absurd (by simpa using hh) h4
            rw [if_neg (by rw [e3]; exact Bool.false_ne_true)]
            by_cases h5 : idx c < 0
            · rw [if_pos (by rw [c1]; simpa using h5)]
              have hd0 : idx d = 0 := by omega
              have hd00 : d = 0 := E2.cb.zero hd0
              obtain ⟨m1, m2⟩ := neg_facts ha hb h0'.1
              obtain ⟨m3, m4⟩ := neg_facts hc hd h0'.2
              have N1 := neg_any a b ha hb
              have N2 := neg_any c d hc hd
              rw [m1] at N1
              rw [m3] at N2
              have z : cl (fneg d) = 0 := by rw [hd00]; decide
              rw [z] at N2 m4
              have i1 := idx_clneg a
              have i2 := idx_clneg b
              have i3 := idx_clneg c
              have E1' := ends_of (cl_lt (fneg_lt b)) (cl_lt (fneg_lt a)) m2
              have E2' := ends_of (by decide) (cl_lt (fneg_lt c)) m4
              refine div_mir a b c d (cl (fneg b)) (cl (fneg a)) 0 (cl (fneg c)) _ _ h0 h1 h2 e1 e2 (by rw [c1]; simpa using h5) (by rw [d2]; simp; omega) ?_ N1 N2 (half_ival E1' E2' (by omega) (by rw [m2, m4]; rfl) (by omega) (by omega))
              rw [a1, b2]
              simp only [decide_eq_true_eq, decide_eq_false_iff_not]
              omega
            · rw [if_neg (by rw [c1]; simpa using h5)]
              have hc0 : idx c = 0 := by omega
              have hc00 : c = 0 := E2.ca.zero hc0
              subst hc00
              exact half_ival E1 E2 (by omega) h0 hz2 (by omega)
      · exact div_of0 a b c d h0 h1 h2
    · exact div_by0 a b c d h0 h1
  · exact div_none a b c d h0
end Go.Proofs.YtkmgfbhnioojhaaGreat
