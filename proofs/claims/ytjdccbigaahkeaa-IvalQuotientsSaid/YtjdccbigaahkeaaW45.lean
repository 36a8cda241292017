/- Contracts: the least interval of quotients of ends. -/
import Derived.Test.YtjdccbigaahkeaaW44
namespace Go.Proofs.Ytjdccbigaahkeaa
set_option linter.unusedSimpArgs false
set_option linter.unusedVariables false
open Go.RowKit
open Fl

theorem feq_no {r s : Nat} (h : Eqv r s) (hs : nan s = true) : feq r r = false := by rw [feq_self, h.nan, hs]; rfl

set_option maxHeartbeats 8000000 in
theorem corners_div (a b c d d1 d2 d3 d4 u1 u2 u3 u4 : Nat)
    (h1 : GivesF 52 #[(.float .f64 a), (.float .f64 c), .int .i64 (-1)] d1) (k1 : GivesF 52 #[(.float .f64 a), (.float .f64 c), .int .i64 1] u1)
    (h2 : GivesF 52 #[(.float .f64 a), (.float .f64 d), .int .i64 (-1)] d2) (k2 : GivesF 52 #[(.float .f64 a), (.float .f64 d), .int .i64 1] u2)
    (h3 : GivesF 52 #[(.float .f64 b), (.float .f64 c), .int .i64 (-1)] d3) (k3 : GivesF 52 #[(.float .f64 b), (.float .f64 c), .int .i64 1] u3)
    (h4 : GivesF 52 #[(.float .f64 b), (.float .f64 d), .int .i64 (-1)] d4) (k4 : GivesF 52 #[(.float .f64 b), (.float .f64 d), .int .i64 1] u4)
    (c1 : nan d1 = false → Can d1) (e1 : nan d1 = false → Can u1) (g1 : nan u1 = nan d1)
    (c2 : nan d2 = false → Can d2) (e2 : nan d2 = false → Can u2) (g2 : nan u2 = nan d2)
    (c3 : nan d3 = false → Can d3) (e3 : nan d3 = false → Can u3) (g3 : nan u3 = nan d3)
    (c4 : nan d4 = false → Can d4) (e4 : nan d4 = false → Can u4) (g4 : nan u4 = nan d4)
    : Gives 120 #[(.agg #[.float .f64 a, .float .f64 b]), (.agg #[.float .f64 c, .float .f64 d]), .func (.func 52) #[] #[]] (.agg #[.float .f64 ((endsI (minN (minN (minN (minN 9218868437227405312 d1) d2) d3) d4) (maxN (maxN (maxN (maxN 18442240474082181120 d1 u1) d2 u2) d3 u3) d4 u4)).1), .float .f64 ((endsI (minN (minN (minN (minN 9218868437227405312 d1) d2) d3) d4) (maxN (maxN (maxN (maxN 18442240474082181120 d1 u1) d2 u2) d3 u3) d4 u4)).2)]) := by
  intro w
  have cl1 := can_minN can_pinf c1
  have cu1 := can_maxN can_ninf e1
  have cl2 := can_minN cl1 c2
  have cu2 := can_maxN cu1 e2
  have cl3 := can_minN cl2 c3
  have cu3 := can_maxN cu2 e3
  have cl4 := can_minN cl3 c4
  have cu4 := can_maxN cu3 e4
  have M1 := Lib.hid (show nan d1 = false → (∀ (w : World) ts t, (Builtin.min_ ts t #[(.float .f64 9218868437227405312), (.float .f64 d1)]).run Try.prog w = .ok (.float .f64 (minN 9218868437227405312 d1)) w) ∧ (∀ (w : World) ts t, (Builtin.max_ ts t #[(.float .f64 18442240474082181120), (.float .f64 u1)]).run Try.prog w = .ok (.float .f64 (maxN 18442240474082181120 d1 u1)) w) from fun hn => by
    rw [show (minN 9218868437227405312 d1) = minF 9218868437227405312 d1 from if_neg (by rw [hn]; exact Bool.false_ne_true), show (maxN 18442240474082181120 d1 u1) = maxF 18442240474082181120 u1 from if_neg (by rw [hn]; exact Bool.false_ne_true)]
    exact ⟨fun w ts t => run_min_f w ts t _ _ can_pinf.num (c1 hn).num (can_pinf.inj (c1 hn)), fun w ts t => run_max_f w ts t _ _ can_ninf.num (e1 hn).num (can_ninf.inj (e1 hn))⟩)
  have N1 := Lib.hid (show nan d1 = true → (minN 9218868437227405312 d1) = 9218868437227405312 ∧ (maxN 18442240474082181120 d1 u1) = 18442240474082181120 from fun hn => ⟨if_pos hn, if_pos hn⟩)
  have M2 := Lib.hid (show nan d2 = false → (∀ (w : World) ts t, (Builtin.min_ ts t #[(.float .f64 (minN 9218868437227405312 d1)), (.float .f64 d2)]).run Try.prog w = .ok (.float .f64 (minN (minN 9218868437227405312 d1) d2)) w) ∧ (∀ (w : World) ts t, (Builtin.max_ ts t #[(.float .f64 (maxN 18442240474082181120 d1 u1)), (.float .f64 u2)]).run Try.prog w = .ok (.float .f64 (maxN (maxN 18442240474082181120 d1 u1) d2 u2)) w) from fun hn => by
    rw [show (minN (minN 9218868437227405312 d1) d2) = minF (minN 9218868437227405312 d1) d2 from if_neg (by rw [hn]; exact Bool.false_ne_true), show (maxN (maxN 18442240474082181120 d1 u1) d2 u2) = maxF (maxN 18442240474082181120 d1 u1) u2 from if_neg (by rw [hn]; exact Bool.false_ne_true)]
    exact ⟨fun w ts t => run_min_f w ts t _ _ cl1.num (c2 hn).num (cl1.inj (c2 hn)), fun w ts t => run_max_f w ts t _ _ cu1.num (e2 hn).num (cu1.inj (e2 hn))⟩)
  have N2 := Lib.hid (show nan d2 = true → (minN (minN 9218868437227405312 d1) d2) = (minN 9218868437227405312 d1) ∧ (maxN (maxN 18442240474082181120 d1 u1) d2 u2) = (maxN 18442240474082181120 d1 u1) from fun hn => ⟨if_pos hn, if_pos hn⟩)
  have M3 := Lib.hid (show nan d3 = false → (∀ (w : World) ts t, (Builtin.min_ ts t #[(.float .f64 (minN (minN 9218868437227405312 d1) d2)), (.float .f64 d3)]).run Try.prog w = .ok (.float .f64 (minN (minN (minN 9218868437227405312 d1) d2) d3)) w) ∧ (∀ (w : World) ts t, (Builtin.max_ ts t #[(.float .f64 (maxN (maxN 18442240474082181120 d1 u1) d2 u2)), (.float .f64 u3)]).run Try.prog w = .ok (.float .f64 (maxN (maxN (maxN 18442240474082181120 d1 u1) d2 u2) d3 u3)) w) from fun hn => by
    rw [show (minN (minN (minN 9218868437227405312 d1) d2) d3) = minF (minN (minN 9218868437227405312 d1) d2) d3 from if_neg (by rw [hn]; exact Bool.false_ne_true), show (maxN (maxN (maxN 18442240474082181120 d1 u1) d2 u2) d3 u3) = maxF (maxN (maxN 18442240474082181120 d1 u1) d2 u2) u3 from if_neg (by rw [hn]; exact Bool.false_ne_true)]
    exact ⟨fun w ts t => run_min_f w ts t _ _ cl2.num (c3 hn).num (cl2.inj (c3 hn)), fun w ts t => run_max_f w ts t _ _ cu2.num (e3 hn).num (cu2.inj (e3 hn))⟩)
  have N3 := Lib.hid (show nan d3 = true → (minN (minN (minN 9218868437227405312 d1) d2) d3) = (minN (minN 9218868437227405312 d1) d2) ∧ (maxN (maxN (maxN 18442240474082181120 d1 u1) d2 u2) d3 u3) = (maxN (maxN 18442240474082181120 d1 u1) d2 u2) from fun hn => ⟨if_pos hn, if_pos hn⟩)
  have M4 := Lib.hid (show nan d4 = false → (∀ (w : World) ts t, (Builtin.min_ ts t #[(.float .f64 (minN (minN (minN 9218868437227405312 d1) d2) d3)), (.float .f64 d4)]).run Try.prog w = .ok (.float .f64 (minN (minN (minN (minN 9218868437227405312 d1) d2) d3) d4)) w) ∧ (∀ (w : World) ts t, (Builtin.max_ ts t #[(.float .f64 (maxN (maxN (maxN 18442240474082181120 d1 u1) d2 u2) d3 u3)), (.float .f64 u4)]).run Try.prog w = .ok (.float .f64 (maxN (maxN (maxN (maxN 18442240474082181120 d1 u1) d2 u2) d3 u3) d4 u4)) w) from fun hn => by
    rw [show (minN (minN (minN (minN 9218868437227405312 d1) d2) d3) d4) = minF (minN (minN (minN 9218868437227405312 d1) d2) d3) d4 from if_neg (by rw [hn]; exact Bool.false_ne_true), show (maxN (maxN (maxN (maxN 18442240474082181120 d1 u1) d2 u2) d3 u3) d4 u4) = maxF (maxN (maxN (maxN 18442240474082181120 d1 u1) d2 u2) d3 u3) u4 from if_neg (by rw [hn]; exact Bool.false_ne_true)]
    exact ⟨fun w ts t => run_min_f w ts t _ _ cl3.num (c4 hn).num (cl3.inj (c4 hn)), fun w ts t => run_max_f w ts t _ _ cu3.num (e4 hn).num (cu3.inj (e4 hn))⟩)
  have N4 := Lib.hid (show nan d4 = true → (minN (minN (minN (minN 9218868437227405312 d1) d2) d3) d4) = (minN (minN (minN 9218868437227405312 d1) d2) d3) ∧ (maxN (maxN (maxN (maxN 18442240474082181120 d1 u1) d2 u2) d3 u3) d4 u4) = (maxN (maxN (maxN 18442240474082181120 d1 u1) d2 u2) d3 u3) from fun hn => ⟨if_pos hn, if_pos hn⟩)
  have en := ends_any _ _ cl4.lt cu4.lt cl4.num cu4.num
  generalize endsI (minN (minN (minN (minN 9218868437227405312 d1) d2) d3) d4) (maxN (maxN (maxN (maxN 18442240474082181120 d1 u1) d2 u2) d3 u3) d4 u4) = r at *
  generalize (minN (minN (minN (minN 9218868437227405312 d1) d2) d3) d4) = l4 at *
  generalize (maxN (maxN (maxN (maxN 18442240474082181120 d1 u1) d2 u2) d3 u3) d4 u4) = q4 at *
  generalize (minN (minN (minN 9218868437227405312 d1) d2) d3) = l3 at *
  generalize (maxN (maxN (maxN 18442240474082181120 d1 u1) d2 u2) d3 u3) = q3 at *
  generalize (minN (minN 9218868437227405312 d1) d2) = l2 at *
  generalize (maxN (maxN 18442240474082181120 d1 u1) d2 u2) = q2 at *
  generalize (minN 9218868437227405312 d1) = l1 at *
  generalize (maxN 18442240474082181120 d1 u1) = q1 at *
  clear c1 c2 c3 c4 e1 e2 e3 e4 cl1 cl2 cl3 cl4 cu1 cu2 cu3 cu4
  have H1 := Lib.hid (show _ ∧ _ ∧ _ ∧ _ from ⟨h1, h2, h3, h4⟩)
  have K1 := Lib.hid (show _ ∧ _ ∧ _ ∧ _ from ⟨k1, k2, k3, k4⟩)
  have G1 := Lib.hid (show _ ∧ _ ∧ _ ∧ _ from ⟨g1, g2, g3, g4⟩)
  clear h1 h2 h3 h4 k1 k2 k3 k4 g1 g2 g3 g4
  go_enter Try.func120, Try.ntmps120
  go_wp2_with (go_at_call 88; first | ((with_reducible refine (math_Inf_pos.go _).mono ?_); rintro _ _ ⟨n, rfl, rfl⟩) | ((with_reducible refine (math_Inf_neg.go _).mono ?_); rintro _ _ ⟨n, rfl, rfl⟩))
  refine wp_loop_rounds 3 ?_
  rw [rounds_succ]
  go_wp2_with (fail)
  refine wp_loop_rounds 3 ?_
  rw [rounds_succ]
  go_upto_block 3 with (fail)
  refine cut_world ?_
  intro W1 eW1
  go_cut [7, 8] (fun v7 v8 wc => v7 = (.float .f64 l1) ∧ v8 = (.float .f64 q1) ∧ ∃ n : Later W1, wc = n.val)
  case first =>
    subst eW1
    rcases fot (nan d1) with hn | hn
    · obtain ⟨ml, mh⟩ := M1.out hn
      have D := GivesF.num H1.out.1 hn
      have U := GivesF.num K1.out.1 (by rw [G1.out.1]; exact hn)
      have f : feq d1 d1 = true := by rw [feq_self, hn]; rfl
      clear hn
      go_wp2_with (first | (go_at_call 52; first | ((with_reducible refine (D.go _).mono ?_); rintro _ _ ⟨n, rfl, rfl⟩) | ((with_reducible refine (U.go _).mono ?_); rintro _ _ ⟨n, rfl, rfl⟩)) | (go_at_call 94; refine ((isNaN_any _).go _).mono ?_; rintro _ _ ⟨n, rfl, rfl⟩))
      go_meet
      case rel => exact ⟨rfl, rfl, ⟨_, by (repeat' (first | (with_reducible exact Below.refl _ _) | (with_reducible assumption) | (with_reducible refine Later.belowOf _ ?_ ?_) | (with_reducible refine Below.alloc ?_ ?_ _) | (with_reducible refine Below.setCell ?_ ?_ _) | (with_reducible refine Below.drewN' _ ?_) | (with_reducible refine Below.drew ?_) | (with_reducible exact Ge.le) | go_size))⟩, rfl⟩
    · obtain ⟨ml, mh⟩ := N1.out hn
      have ML := Lib.hid ml
      have MH := Lib.hid mh
      have D := H1.out.1
      have U := K1.out.1
      have HN := Lib.hid hn
      clear hn ml mh
      go_wp2_with (first | (go_at_call 52; first | ((with_reducible refine (D.go _).mono ?_); rintro _ _ ⟨r1, n, hr1, he1, rfl, rfl⟩; have f1 : feq r1 r1 = false := feq_no he1 HN.out; clear hr1 he1) | ((with_reducible refine (U.go _).mono ?_); rintro _ _ ⟨r2, n, hr2, he2, rfl, rfl⟩; clear hr2 he2)) | (go_at_call 94; refine ((isNaN_any _).go _).mono ?_; rintro _ _ ⟨n, rfl, rfl⟩))
      go_meet
      case rel => exact ⟨by rw [ML.out], by rw [MH.out], ⟨_, by (repeat' (first | (with_reducible exact Below.refl _ _) | (with_reducible assumption) | (with_reducible refine Later.belowOf _ ?_ ?_) | (with_reducible refine Below.alloc ?_ ?_ _) | (with_reducible refine Below.setCell ?_ ?_ _) | (with_reducible refine Below.drewN' _ ?_) | (with_reducible refine Below.drew ?_) | (with_reducible exact Ge.le) | go_size))⟩, rfl⟩
  obtain ⟨rfl, rfl, m1, rfl⟩ := hcut
  subst eW1
  go_wp2_with (fail)
  rw [rounds_succ]
  go_upto_block 3 with (fail)
  refine cut_world ?_
  intro W2 eW2
  go_cut [7, 8] (fun v7 v8 wc => v7 = (.float .f64 l2) ∧ v8 = (.float .f64 q2) ∧ ∃ n : Later W2, wc = n.val)
  case first =>
    subst eW2
    rcases fot (nan d2) with hn | hn
    · obtain ⟨ml, mh⟩ := M2.out hn
      have D := GivesF.num H1.out.2.1 hn
      have U := GivesF.num K1.out.2.1 (by rw [G1.out.2.1]; exact hn)
      have f : feq d2 d2 = true := by rw [feq_self, hn]; rfl
      clear hn
      go_wp2_with (first | (go_at_call 52; first | ((with_reducible refine (D.go _).mono ?_); rintro _ _ ⟨n, rfl, rfl⟩) | ((with_reducible refine (U.go _).mono ?_); rintro _ _ ⟨n, rfl, rfl⟩)) | (go_at_call 94; refine ((isNaN_any _).go _).mono ?_; rintro _ _ ⟨n, rfl, rfl⟩))
      go_meet
      case rel => exact ⟨rfl, rfl, ⟨_, by (repeat' (first | (with_reducible exact Below.refl _ _) | (with_reducible assumption) | (with_reducible refine Later.belowOf _ ?_ ?_) | (with_reducible refine Below.alloc ?_ ?_ _) | (with_reducible refine Below.setCell ?_ ?_ _) | (with_reducible refine Below.drewN' _ ?_) | (with_reducible refine Below.drew ?_) | (with_reducible exact Ge.le) | go_size))⟩, rfl⟩
    · obtain ⟨ml, mh⟩ := N2.out hn
      have ML := Lib.hid ml
      have MH := Lib.hid mh
      have D := H1.out.2.1
      have U := K1.out.2.1
      have HN := Lib.hid hn
      clear hn ml mh
      go_wp2_with (first | (go_at_call 52; first | ((with_reducible refine (D.go _).mono ?_); rintro _ _ ⟨r1, n, hr1, he1, rfl, rfl⟩; have f1 : feq r1 r1 = false := feq_no he1 HN.out; clear hr1 he1) | ((with_reducible refine (U.go _).mono ?_); rintro _ _ ⟨r2, n, hr2, he2, rfl, rfl⟩; clear hr2 he2)) | (go_at_call 94; refine ((isNaN_any _).go _).mono ?_; rintro _ _ ⟨n, rfl, rfl⟩))
      go_meet
      case rel => exact ⟨by rw [ML.out], by rw [MH.out], ⟨_, by (repeat' (first | (with_reducible exact Below.refl _ _) | (with_reducible assumption) | (with_reducible refine Later.belowOf _ ?_ ?_) | (with_reducible refine Below.alloc ?_ ?_ _) | (with_reducible refine Below.setCell ?_ ?_ _) | (with_reducible refine Below.drewN' _ ?_) | (with_reducible refine Below.drew ?_) | (with_reducible exact Ge.le) | go_size))⟩, rfl⟩
  obtain ⟨rfl, rfl, m2, rfl⟩ := hcut
  subst eW2
  go_wp2_with (fail)
  rw [rounds_succ]
  go_wp2_with (fail)
  rw [rounds_succ]
  go_wp2_with (fail)
  refine wp_loop_rounds 3 ?_
  rw [rounds_succ]
  go_upto_block 3 with (fail)
  refine cut_world ?_
  intro W3 eW3
  go_cut [7, 8] (fun v7 v8 wc => v7 = (.float .f64 l3) ∧ v8 = (.float .f64 q3) ∧ ∃ n : Later W3, wc = n.val)
  case first =>
    subst eW3
    rcases fot (nan d3) with hn | hn
    · obtain ⟨ml, mh⟩ := M3.out hn
      have D := GivesF.num H1.out.2.2.1 hn
      have U := GivesF.num K1.out.2.2.1 (by rw [G1.out.2.2.1]; exact hn)
      have f : feq d3 d3 = true := by rw [feq_self, hn]; rfl
      clear hn
      go_wp2_with (first | (go_at_call 52; first | ((with_reducible refine (D.go _).mono ?_); rintro _ _ ⟨n, rfl, rfl⟩) | ((with_reducible refine (U.go _).mono ?_); rintro _ _ ⟨n, rfl, rfl⟩)) | (go_at_call 94; refine ((isNaN_any _).go _).mono ?_; rintro _ _ ⟨n, rfl, rfl⟩))
      go_meet
      case rel => exact ⟨rfl, rfl, ⟨_, by (repeat' (first | (with_reducible exact Below.refl _ _) | (with_reducible assumption) | (with_reducible refine Later.belowOf _ ?_ ?_) | (with_reducible refine Below.alloc ?_ ?_ _) | (with_reducible refine Below.setCell ?_ ?_ _) | (with_reducible refine Below.drewN' _ ?_) | (with_reducible refine Below.drew ?_) | (with_reducible exact Ge.le) | go_size))⟩, rfl⟩
    · obtain ⟨ml, mh⟩ := N3.out hn
      have ML := Lib.hid ml
      have MH := Lib.hid mh
      have D := H1.out.2.2.1
      have U := K1.out.2.2.1
      have HN := Lib.hid hn
      clear hn ml mh
      go_wp2_with (first | (go_at_call 52; first | ((with_reducible refine (D.go _).mono ?_); rintro _ _ ⟨r1, n, hr1, he1, rfl, rfl⟩; have f1 : feq r1 r1 = false := feq_no he1 HN.out; clear hr1 he1) | ((with_reducible refine (U.go _).mono ?_); rintro _ _ ⟨r2, n, hr2, he2, rfl, rfl⟩; clear hr2 he2)) | (go_at_call 94; refine ((isNaN_any _).go _).mono ?_; rintro _ _ ⟨n, rfl, rfl⟩))
      go_meet
      case rel => exact ⟨by rw [ML.out], by rw [MH.out], ⟨_, by (repeat' (first | (with_reducible exact Below.refl _ _) | (with_reducible assumption) | (with_reducible refine Later.belowOf _ ?_ ?_) | (with_reducible refine Below.alloc ?_ ?_ _) | (with_reducible refine Below.setCell ?_ ?_ _) | (with_reducible refine Below.drewN' _ ?_) | (with_reducible refine Below.drew ?_) | (with_reducible exact Ge.le) | go_size))⟩, rfl⟩
  obtain ⟨rfl, rfl, m3, rfl⟩ := hcut
  subst eW3
  go_wp2_with (fail)
  rw [rounds_succ]
  go_upto_block 3 with (fail)
  refine cut_world ?_
  intro W4 eW4
  go_cut [7, 8] (fun v7 v8 wc => v7 = (.float .f64 l4) ∧ v8 = (.float .f64 q4) ∧ ∃ n : Later W4, wc = n.val)
  case first =>
    subst eW4
    rcases fot (nan d4) with hn | hn
    · obtain ⟨ml, mh⟩ := M4.out hn
      have D := GivesF.num H1.out.2.2.2 hn
      have U := GivesF.num K1.out.2.2.2 (by rw [G1.out.2.2.2]; exact hn)
      have f : feq d4 d4 = true := by rw [feq_self, hn]; rfl
      clear hn
      go_wp2_with (first | (go_at_call 52; first | ((with_reducible refine (D.go _).mono ?_); rintro _ _ ⟨n, rfl, rfl⟩) | ((with_reducible refine (U.go _).mono ?_); rintro _ _ ⟨n, rfl, rfl⟩)) | (go_at_call 94; refine ((isNaN_any _).go _).mono ?_; rintro _ _ ⟨n, rfl, rfl⟩))
      go_meet
      case rel => exact ⟨rfl, rfl, ⟨_, by (repeat' (first | (with_reducible exact Below.refl _ _) | (with_reducible assumption) | (with_reducible refine Later.belowOf _ ?_ ?_) | (with_reducible refine Below.alloc ?_ ?_ _) | (with_reducible refine Below.setCell ?_ ?_ _) | (with_reducible refine Below.drewN' _ ?_) | (with_reducible refine Below.drew ?_) | (with_reducible exact Ge.le) | go_size))⟩, rfl⟩
    · obtain ⟨ml, mh⟩ := N4.out hn
      have ML := Lib.hid ml
      have MH := Lib.hid mh
      have D := H1.out.2.2.2
      have U := K1.out.2.2.2
      have HN := Lib.hid hn
      clear hn ml mh
      go_wp2_with (first | (go_at_call 52; first | ((with_reducible refine (D.go _).mono ?_); rintro _ _ ⟨r1, n, hr1, he1, rfl, rfl⟩; have f1 : feq r1 r1 = false := feq_no he1 HN.out; clear hr1 he1) | ((with_reducible refine (U.go _).mono ?_); rintro _ _ ⟨r2, n, hr2, he2, rfl, rfl⟩; clear hr2 he2)) | (go_at_call 94; refine ((isNaN_any _).go _).mono ?_; rintro _ _ ⟨n, rfl, rfl⟩))
      go_meet
      case rel => exact ⟨by rw [ML.out], by rw [MH.out], ⟨_, by (repeat' (first | (with_reducible exact Below.refl _ _) | (with_reducible assumption) | (with_reducible refine Later.belowOf _ ?_ ?_) | (with_reducible refine Below.alloc ?_ ?_ _) | (with_reducible refine Below.setCell ?_ ?_ _) | (with_reducible refine Below.drewN' _ ?_) | (with_reducible refine Below.drew ?_) | (with_reducible exact Ge.le) | go_size))⟩, rfl⟩
  obtain ⟨rfl, rfl, m4, rfl⟩ := hcut
  subst eW4
  go_wp2_with (fail)
  rw [rounds_succ]
  go_wp2_with (fail)
  rw [rounds_succ]
  go_wp2_with (go_at_call 118; (with_reducible refine (en.go _).mono ?_); rintro _ _ ⟨n, rfl, rfl⟩)
  go_returns
  exact ⟨rfl, by (repeat' (first | (with_reducible exact Below.refl _ _) | (with_reducible assumption) | (with_reducible refine Later.belowOf _ ?_ ?_) | (with_reducible refine Below.alloc ?_ ?_ _) | (with_reducible refine Below.setCell ?_ ?_ _) | (with_reducible refine Below.drewN' _ ?_) | (with_reducible refine Below.drew ?_) | (with_reducible exact Ge.le) | go_size))⟩
end Go.Proofs.Ytjdccbigaahkeaa

/- Contracts: ival's quotients, case by case. -/
namespace Go.Proofs.Ytjdccbigaahkeaa
set_option linter.unusedSimpArgs false
set_option linter.unusedVariables false
open Go.RowKit
open Fl

set_option maxHeartbeats 2000000 in
theorem div_none (a b c d : Nat) (h0 : (noneB a b || noneB c d) = true) : Gives 74 #[(.agg #[.float .f64 a, .float .f64 b]), (.agg #[.float .f64 c, .float .f64 d])] (.agg #[.float .f64 9218868437227405312, .float .f64 18442240474082181120]) := by
  intro w
  go_enter Try.func74, Try.ntmps74
  go_wp2_with (first | (go_at_call 99; refine Calls.mono (none2_any a b c d _ _ inferInstance (by simp [go_sem]) (by simp [go_sem]) (by simp [go_sem]) (by simp [go_sem])) ?_; rintro _ _ ⟨n, rfl, rfl⟩) | (go_at_call 26; refine (empty_any.go _).mono ?_; rintro _ _ ⟨n, rfl, rfl⟩))
  go_returns
  exact ⟨rfl, by (repeat' (first | (with_reducible exact Below.refl _ _) | (with_reducible assumption) | (with_reducible refine Later.belowOf _ ?_ ?_) | (with_reducible refine Below.alloc ?_ ?_ _) | (with_reducible refine Below.setCell ?_ ?_ _) | (with_reducible refine Below.drewN' _ ?_) | (with_reducible refine Below.drew ?_) | (with_reducible exact Ge.le) | go_size))⟩

set_option maxHeartbeats 2000000 in
theorem div_by0 (a b c d : Nat) (h0 : (noneB a b || noneB c d) = false) (h1 : eqI c d 0 0 = true) : Gives 74 #[(.agg #[.float .f64 a, .float .f64 b]), (.agg #[.float .f64 c, .float .f64 d])] (.agg #[.float .f64 9218868437227405312, .float .f64 18442240474082181120]) := by
  intro w
  go_enter Try.func74, Try.ntmps74
  go_wp2_with (first | (go_at_call 99; refine Calls.mono (none2_any a b c d _ _ inferInstance (by simp [go_sem]) (by simp [go_sem]) (by simp [go_sem]) (by simp [go_sem])) ?_; rintro _ _ ⟨n, rfl, rfl⟩) | (go_at_call 26; refine (empty_any.go _).mono ?_; rintro _ _ ⟨n, rfl, rfl⟩))
  go_returns
  exact ⟨rfl, by (repeat' (first | (with_reducible exact Below.refl _ _) | (with_reducible assumption) | (with_reducible refine Later.belowOf _ ?_ ?_) | (with_reducible refine Below.alloc ?_ ?_ _) | (with_reducible refine Below.setCell ?_ ?_ _) | (with_reducible refine Below.drewN' _ ?_) | (with_reducible refine Below.drew ?_) | (with_reducible exact Ge.le) | go_size))⟩

set_option maxHeartbeats 2000000 in
theorem div_of0 (a b c d : Nat) (h0 : (noneB a b || noneB c d) = false) (h1 : eqI c d 0 0 = false) (h2 : eqI a b 0 0 = true) : Gives 74 #[(.agg #[.float .f64 a, .float .f64 b]), (.agg #[.float .f64 c, .float .f64 d])] (.agg #[.float .f64 0, .float .f64 0]) := by
  intro w
  go_enter Try.func74, Try.ntmps74
  go_wp2_with (go_at_call 99; refine Calls.mono (none2_any a b c d _ _ inferInstance (by simp [go_sem]) (by simp [go_sem]) (by simp [go_sem]) (by simp [go_sem])) ?_; rintro _ _ ⟨n, rfl, rfl⟩)
  go_returns
  exact ⟨rfl, by (repeat' (first | (with_reducible exact Below.refl _ _) | (with_reducible assumption) | (with_reducible refine Later.belowOf _ ?_ ?_) | (with_reducible refine Below.alloc ?_ ?_ _) | (with_reducible refine Below.setCell ?_ ?_ _) | (with_reducible refine Below.drewN' _ ?_) | (with_reducible refine Below.drew ?_) | (with_reducible exact Ge.le) | go_size))⟩

set_option maxHeartbeats 2000000 in
theorem div_cnr (a b c d r1 r2 : Nat) (h0 : (noneB a b || noneB c d) = false) (h1 : eqI c d 0 0 = false) (h2 : eqI a b 0 0 = false) (h3 : flt 0 c = true ∨ flt 0 c = false ∧ flt d 0 = true)
    (K : Gives 120 #[(.agg #[.float .f64 a, .float .f64 b]), (.agg #[.float .f64 c, .float .f64 d]), .func (.func 52) #[] #[]] (.agg #[.float .f64 r1, .float .f64 r2])) : Gives 74 #[(.agg #[.float .f64 a, .float .f64 b]), (.agg #[.float .f64 c, .float .f64 d])] (.agg #[.float .f64 r1, .float .f64 r2]) := by
  intro w
  rcases h3 with h3 | ⟨h3, h4⟩
  all_goals
    go_enter Try.func74, Try.ntmps74
    go_wp2_with (first | (go_at_call 99; refine Calls.mono (none2_any a b c d _ _ inferInstance (by simp [go_sem]) (by simp [go_sem]) (by simp [go_sem]) (by simp [go_sem])) ?_; rintro _ _ ⟨n, rfl, rfl⟩) | (go_at_call 120; refine (K.go _).mono ?_; rintro _ _ ⟨n, rfl, rfl⟩))
    go_returns
    exact ⟨rfl, by (repeat' (first | (with_reducible exact Below.refl _ _) | (with_reducible assumption) | (with_reducible refine Later.belowOf _ ?_ ?_) | (with_reducible refine Below.alloc ?_ ?_ _) | (with_reducible refine Below.setCell ?_ ?_ _) | (with_reducible refine Below.drewN' _ ?_) | (with_reducible refine Below.drew ?_) | (with_reducible exact Ge.le) | go_size))⟩

set_option maxHeartbeats 2000000 in
theorem div_whole (a b c d : Nat) (h0 : (noneB a b || noneB c d) = false) (h1 : eqI c d 0 0 = false) (h2 : eqI a b 0 0 = false) (h3 : flt 0 c = false) (h4 : flt d 0 = false)
    (h5 : (flt c 0 = true ∧ flt 0 d = true) ∨ (flt c 0 = true ∧ flt 0 d = false ∧ flt a 0 = true ∧ flt 0 b = true) ∨ (flt c 0 = false ∧ flt a 0 = true ∧ flt 0 b = true)) : Gives 74 #[(.agg #[.float .f64 a, .float .f64 b]), (.agg #[.float .f64 c, .float .f64 d])] (.agg #[.float .f64 18442240474082181120, .float .f64 9218868437227405312]) := by
  intro w
  rcases h5 with ⟨h5, h6⟩ | ⟨h5, h6, h7, h8⟩ | ⟨h5, h7, h8⟩
  all_goals
    go_enter Try.func74, Try.ntmps74
    go_wp2_with (first | (go_at_call 99; refine Calls.mono (none2_any a b c d _ _ inferInstance (by simp [go_sem]) (by simp [go_sem]) (by simp [go_sem]) (by simp [go_sem])) ?_; rintro _ _ ⟨n, rfl, rfl⟩) | (go_at_call 28; refine (whole_any.go _).mono ?_; rintro _ _ ⟨n, rfl, rfl⟩))
    go_returns
    exact ⟨rfl, by (repeat' (first | (with_reducible exact Below.refl _ _) | (with_reducible assumption) | (with_reducible refine Later.belowOf _ ?_ ?_) | (with_reducible refine Below.alloc ?_ ?_ _) | (with_reducible refine Below.setCell ?_ ?_ _) | (with_reducible refine Below.drewN' _ ?_) | (with_reducible refine Below.drew ?_) | (with_reducible exact Ge.le) | go_size))⟩

/-- Neither of the first cases. -/
def OneSide (a b c d : Nat) : Prop := (flt c 0 = true ∧ flt 0 d = false ∨ flt c 0 = false) ∧ (flt a 0 = true ∧ flt 0 b = false ∨ flt a 0 = false)

set_option maxHeartbeats 2000000 in
theorem div_mir (a b c d a' b' c' d' r1 r2 : Nat) (h0 : (noneB a b || noneB c d) = false) (h1 : eqI c d 0 0 = false) (h2 : eqI a b 0 0 = false) (h3 : flt 0 c = false) (h4 : flt d 0 = false)
    (h5 : flt c 0 = true) (h6 : flt 0 d = false) (h7 : flt a 0 = true ∧ flt 0 b = false ∨ flt a 0 = false)
    (N1 : Gives 68 #[(.agg #[.float .f64 a, .float .f64 b])] (.agg #[.float .f64 a', .float .f64 b'])) (N2 : Gives 68 #[(.agg #[.float .f64 c, .float .f64 d])] (.agg #[.float .f64 c', .float .f64 d']))
    (K : Gives 74 #[(.agg #[.float .f64 a', .float .f64 b']), (.agg #[.float .f64 c', .float .f64 d'])] (.agg #[.float .f64 r1, .float .f64 r2])) : Gives 74 #[(.agg #[.float .f64 a, .float .f64 b]), (.agg #[.float .f64 c, .float .f64 d])] (.agg #[.float .f64 r1, .float .f64 r2]) := by
  intro w
  rcases h7 with ⟨h7, h8⟩ | h7
  all_goals
    go_enter Try.func74, Try.ntmps74
    go_wp2_with (go_at_call 99; refine Calls.mono (none2_any a b c d _ _ inferInstance (by simp [go_sem]) (by simp [go_sem]) (by simp [go_sem]) (by simp [go_sem])) ?_; rintro _ _ ⟨n, rfl, rfl⟩)
    go_region_held3 (fun w' => w'.cell? ⟨w.heap.size, 0, none⟩ = some (.float .f64 a) ∧ w'.cell? ⟨w.heap.size, 1, none⟩ = some (.float .f64 b) ∧ w'.cell? ⟨w.heap.size + 1, 0, none⟩ = some (.float .f64 c) ∧ w'.cell? ⟨w.heap.size + 1, 1, none⟩ = some (.float .f64 d))
      (first | (go_simp; done) | go_keep)
      ((first | (go_at_call 68; first | ((with_reducible refine (N1.go _).mono ?_); rintro _ _ ⟨n, rfl, rfl⟩) | ((with_reducible refine (N2.go _).mono ?_); rintro _ _ ⟨n, rfl, rfl⟩)) | (go_at_call 74; (with_reducible refine (K.go _).mono ?_); rintro _ _ ⟨n, rfl, rfl⟩)))
    all_goals
      rename_i hHeld
      clear hHeld
      go_wp2
      go_returns
      exact ⟨rfl, by (repeat' (first | (with_reducible exact Below.refl _ _) | (with_reducible assumption) | (with_reducible refine Later.belowOf _ ?_ ?_) | (with_reducible refine Below.alloc ?_ ?_ _) | (with_reducible refine Below.setCell ?_ ?_ _) | (with_reducible refine Below.drewN' _ ?_) | (with_reducible refine Below.drew ?_) | (with_reducible exact Ge.le) | go_size))⟩

set_option maxHeartbeats 2000000 in
theorem div_up (a b c d s r1 r2 : Nat) (h0 : (noneB a b || noneB c d) = false) (h1 : eqI c d 0 0 = false) (h2 : eqI a b 0 0 = false) (h3 : flt 0 c = false) (h4 : flt d 0 = false) (h5 : flt c 0 = false) (h6 : flt a 0 = false) (h7 : fle 0 a = true)
    (D : Gives 52 #[(.float .f64 a), (.float .f64 d), .int .i64 (-1)] (.float .f64 s)) (K : Gives 118 #[(.float .f64 s), (.float .f64 9218868437227405312)] (.agg #[.float .f64 r1, .float .f64 r2])) : Gives 74 #[(.agg #[.float .f64 a, .float .f64 b]), (.agg #[.float .f64 c, .float .f64 d])] (.agg #[.float .f64 r1, .float .f64 r2]) := by
  intro w
  go_enter Try.func74, Try.ntmps74
  go_wp2_with (first | (go_at_call 99; refine Calls.mono (none2_any a b c d _ _ inferInstance (by simp [go_sem]) (by simp [go_sem]) (by simp [go_sem]) (by simp [go_sem])) ?_; rintro _ _ ⟨n, rfl, rfl⟩) | (go_at_call 52; refine (D.go _).mono ?_; rintro _ _ ⟨n, rfl, rfl⟩) | (go_at_call 88; refine (math_Inf_pos.go _).mono ?_; rintro _ _ ⟨n, rfl, rfl⟩) | (go_at_call 118; refine (K.go _).mono ?_; rintro _ _ ⟨n, rfl, rfl⟩))
  go_returns
  exact ⟨rfl, by (repeat' (first | (with_reducible exact Below.refl _ _) | (with_reducible assumption) | (with_reducible refine Later.belowOf _ ?_ ?_) | (with_reducible refine Below.alloc ?_ ?_ _) | (with_reducible refine Below.setCell ?_ ?_ _) | (with_reducible refine Below.drewN' _ ?_) | (with_reducible refine Below.drew ?_) | (with_reducible exact Ge.le) | go_size))⟩

set_option maxHeartbeats 2000000 in
theorem div_down (a b c d s r1 r2 : Nat) (h0 : (noneB a b || noneB c d) = false) (h1 : eqI c d 0 0 = false) (h2 : eqI a b 0 0 = false) (h3 : flt 0 c = false) (h4 : flt d 0 = false) (h5 : flt c 0 = false) (h6 : flt a 0 = true) (h8 : flt 0 b = false) (h7 : fle 0 a = false)
    (D : Gives 52 #[(.float .f64 b), (.float .f64 d), .int .i64 1] (.float .f64 s)) (K : Gives 118 #[(.float .f64 18442240474082181120), (.float .f64 s)] (.agg #[.float .f64 r1, .float .f64 r2])) : Gives 74 #[(.agg #[.float .f64 a, .float .f64 b]), (.agg #[.float .f64 c, .float .f64 d])] (.agg #[.float .f64 r1, .float .f64 r2]) := by
  intro w
  go_enter Try.func74, Try.ntmps74
  go_wp2_with (go_at_call 99; refine Calls.mono (none2_any a b c d _ _ inferInstance (by simp [go_sem]) (by simp [go_sem]) (by simp [go_sem]) (by simp [go_sem])) ?_; rintro _ _ ⟨n, rfl, rfl⟩)
  go_region_held3 (fun w' => w'.cell? ⟨w.heap.size, 0, none⟩ = some (.float .f64 a) ∧ w'.cell? ⟨w.heap.size, 1, none⟩ = some (.float .f64 b) ∧ w'.cell? ⟨w.heap.size + 1, 0, none⟩ = some (.float .f64 c) ∧ w'.cell? ⟨w.heap.size + 1, 1, none⟩ = some (.float .f64 d))
    (first | (go_simp; done) | go_keep)
    ((first | (go_at_call 88; (with_reducible refine (math_Inf_neg.go _).mono ?_); rintro _ _ ⟨n, rfl, rfl⟩) | (go_at_call 52; (with_reducible refine (D.go _).mono ?_); rintro _ _ ⟨n, rfl, rfl⟩) | (go_at_call 118; (with_reducible refine (K.go _).mono ?_); rintro _ _ ⟨n, rfl, rfl⟩)))
  all_goals
    rename_i hHeld
    clear hHeld
    go_wp2
    go_returns
    exact ⟨rfl, by (repeat' (first | (with_reducible exact Below.refl _ _) | (with_reducible assumption) | (with_reducible refine Later.belowOf _ ?_ ?_) | (with_reducible refine Below.alloc ?_ ?_ _) | (with_reducible refine Below.setCell ?_ ?_ _) | (with_reducible refine Below.drewN' _ ?_) | (with_reducible refine Below.drew ?_) | (with_reducible exact Ge.le) | go_size))⟩
end Go.Proofs.Ytjdccbigaahkeaa
