/- Contracts: elem.Tan, half, Sinh, Cosh, Tanh. -/
import Derived.Test.YtkmgfbhnioojhaaGreatPmE10
namespace Go.Proofs.YtkmgfbhnioojhaaGreat
set_option linter.unusedSimpArgs false
set_option linter.unusedVariables false
open Go.RowKit
open Fl

def halfP (x : Nat × Nat) : Nat × Nat := mulP (ptP 4602678819172646912) x
def tanP (x : Nat × Nat) : Nat × Nat := divP (roundP x 0) (roundP x 1)
def sinhP (x : Nat × Nat) : Nat × Nat := halfP (subP (expP x) (expP (negP x)))
def coshP (x : Nat × Nat) : Nat × Nat := halfP (addP (expP x) (expP (negP x)))
def tanhP (x : Nat × Nat) : Nat × Nat := subP (wholeP 1) (divP (wholeP 2) (addP (expP (addP x x)) (wholeP 1)))
theorem lt_roundQ {x : Nat × Nat} (hx : Lt x) {on : Int} : Lt (roundP x on) := by
  unfold roundP
  rcases fot (noneB x.1 x.2) with hn | hn
  · rw [hn, if_neg Bool.false_ne_true]
    rcases fot (flt 4652007308841189376 (magI x.1 x.2)) with hm | hm
    · rw [hm, if_neg Bool.false_ne_true]
      obtain ⟨⟨i1, i2⟩, i3, i4⟩ := ends_1000 hx hn hm
      obtain ⟨n1, n2⟩ := nums_of hn
      exact lt_meet (lt_roundGo _ _ (lt_hull (lt_turnV hx.1 (near_quarter n1 i1 i2).2.2.2.2.1 on) (lt_turnV hx.2 (near_quarter n2 i3 i4).2.2.2.2.1 on))) lt_unit
    · rw [hm, if_pos rfl]; exact lt_unit
  · rw [hn, if_pos rfl]; exact lt_emp

set_option maxHeartbeats 4000000 in
theorem Tan_c {x : Nat × Nat} (hx : Lt x) : Gives 44 #[(.agg #[.float .f64 x.1, .float .f64 x.2])] (.agg #[.float .f64 ((tanP x).1), .float .f64 ((tanP x).2)]) := by
  intro w
  have c1 := Sin_c hx
  have c2 := Cos_c hx
  have c3 := divC (x := roundP x 0) (y := roundP x 1) (lt_roundQ hx) (lt_roundQ hx)
  unfold tanP
  generalize divP (roundP x 0) (roundP x 1) = z at *
  generalize roundP x 0 = a at *
  generalize roundP x 1 = b at *
  clear hx
  obtain ⟨x1, x2⟩ := x
  go_enter Tryz.func44, Tryz.ntmps44
  go_wp2_with (fail)
  (refine wp_region_tail_later 5 (by kernel_rfl) (by kernel_rfl) ?_; simp only [List.take_succ_cons, List.take_zero, List.drop_succ_cons, List.drop_zero])
  repeat (go_big_quiet_step (first | (go_at_call 30; (with_reducible exact c1.later _)) | (go_at_call 31; (with_reducible exact c2.later _)) | (go_at_call 113; (with_reducible exact c3.later _))))
  (refine wpQuiet_nil ?_; rintro _ ⟨nq, rfl⟩)
  go_wp2
  go_returns
  exact ⟨rfl, by (repeat' first | (with_reducible first | exact Below.refl _ _ | assumption | refine Later.belowOf _ ?_ ?_ | refine Below.alloc ?_ ?_ _ | refine Below.setCell ?_ ?_ _ | refine Below.drewN' _ ?_ | refine Below.drew ?_ | exact Ge.le) | go_size)⟩

set_option maxHeartbeats 4000000 in
theorem half_c {x : Nat × Nat} (hx : Lt x) : Gives 116 #[(.agg #[.float .f64 x.1, .float .f64 x.2])] (.agg #[.float .f64 ((halfP x).1), .float .f64 ((halfP x).2)]) := by
  intro w
  have c1 := ptC (a := 4602678819172646912) (by decide)
  have c2 := mulC (x := ptP 4602678819172646912) (y := x) (lt_pt (by decide)) hx
  unfold halfP
  generalize mulP (ptP 4602678819172646912) x = z at *
  generalize ptP 4602678819172646912 = a at *
  clear hx
  obtain ⟨x1, x2⟩ := x
  go_enter Tryz.func116, Tryz.ntmps116
  go_wp2_with (fail)
  (refine wp_region_tail_later 3 (by kernel_rfl) (by kernel_rfl) ?_; simp only [List.take_succ_cons, List.take_zero, List.drop_succ_cons, List.drop_zero])
  repeat (go_big_quiet_step (first | (go_at_call 53; (with_reducible exact c1.later _)) | (go_at_call 166; (with_reducible exact c2.later _))))
  (refine wpQuiet_nil ?_; rintro _ ⟨nq, rfl⟩)
  go_wp2
  go_returns
  exact ⟨rfl, by (repeat' first | (with_reducible first | exact Below.refl _ _ | assumption | refine Later.belowOf _ ?_ ?_ | refine Below.alloc ?_ ?_ _ | refine Below.setCell ?_ ?_ _ | refine Below.drewN' _ ?_ | refine Below.drew ?_ | exact Ge.le) | go_size)⟩

set_option maxHeartbeats 4000000 in
theorem Sinh_c {x : Nat × Nat} (hx : Lt x) : Gives 46 #[(.agg #[.float .f64 x.1, .float .f64 x.2])] (.agg #[.float .f64 ((sinhP x).1), .float .f64 ((sinhP x).2)]) := by
  intro w
  have c1 := Exp_c hx
  have c2 := negC hx
  have c3 := Exp_c (lt_neg hx)
  have c4 := subC (lt_exp x) (lt_exp (negP x))
  have c5 := half_c (x := subP (expP x) (expP (negP x))) (lt_sub (lt_exp x) (lt_exp (negP x)))
  unfold sinhP
  generalize halfP (subP (expP x) (expP (negP x))) = z at *
  generalize subP (expP x) (expP (negP x)) = y at *
  generalize expP (negP x) = a at *
  generalize expP x = b at *
  generalize negP x = c at *
  clear hx
  obtain ⟨x1, x2⟩ := x
  go_enter Tryz.func46, Tryz.ntmps46
  go_wp2_with (fail)
  (refine wp_region_tail_later 7 (by kernel_rfl) (by kernel_rfl) ?_; simp only [List.take_succ_cons, List.take_zero, List.drop_succ_cons, List.drop_zero])
  repeat (go_big_quiet_step (first | (go_at_call 14; first | (with_reducible exact c1.later _) | (with_reducible exact c3.later _)) | (go_at_call 118; (with_reducible exact c2.later _)) | (go_at_call 117; (with_reducible exact c4.later _)) | (go_at_call 116; (with_reducible exact c5.later _))))
  (refine wpQuiet_nil ?_; rintro _ ⟨nq, rfl⟩)
  go_wp2
  go_returns
  exact ⟨rfl, by (repeat' first | (with_reducible first | exact Below.refl _ _ | assumption | refine Later.belowOf _ ?_ ?_ | refine Below.alloc ?_ ?_ _ | refine Below.setCell ?_ ?_ _ | refine Below.drewN' _ ?_ | refine Below.drew ?_ | exact Ge.le) | go_size)⟩

set_option maxHeartbeats 4000000 in
theorem Cosh_c {x : Nat × Nat} (hx : Lt x) : Gives 49 #[(.agg #[.float .f64 x.1, .float .f64 x.2])] (.agg #[.float .f64 ((coshP x).1), .float .f64 ((coshP x).2)]) := by
  intro w
  have c1 := Exp_c hx
  have c2 := negC hx
  have c3 := Exp_c (lt_neg hx)
  have c4 := addC (lt_exp x) (lt_exp (negP x))
  have c5 := half_c (x := addP (expP x) (expP (negP x))) (lt_add (lt_exp x) (lt_exp (negP x)))
  unfold coshP
  generalize halfP (addP (expP x) (expP (negP x))) = z at *
  generalize addP (expP x) (expP (negP x)) = y at *
  generalize expP (negP x) = a at *
  generalize expP x = b at *
  generalize negP x = c at *
  clear hx
  obtain ⟨x1, x2⟩ := x
  go_enter Tryz.func49, Tryz.ntmps49
  go_wp2_with (fail)
  (refine wp_region_tail_later 7 (by kernel_rfl) (by kernel_rfl) ?_; simp only [List.take_succ_cons, List.take_zero, List.drop_succ_cons, List.drop_zero])
  repeat (go_big_quiet_step (first | (go_at_call 14; first | (with_reducible exact c1.later _) | (with_reducible exact c3.later _)) | (go_at_call 118; (with_reducible exact c2.later _)) | (go_at_call 121; (with_reducible exact c4.later _)) | (go_at_call 116; (with_reducible exact c5.later _))))
  (refine wpQuiet_nil ?_; rintro _ ⟨nq, rfl⟩)
  go_wp2
  go_returns
  exact ⟨rfl, by (repeat' first | (with_reducible first | exact Below.refl _ _ | assumption | refine Later.belowOf _ ?_ ?_ | refine Below.alloc ?_ ?_ _ | refine Below.setCell ?_ ?_ _ | refine Below.drewN' _ ?_ | refine Below.drew ?_ | exact Ge.le) | go_size)⟩

set_option maxHeartbeats 4000000 in
theorem Tanh_c {x : Nat × Nat} (hx : Lt x) : Gives 51 #[(.agg #[.float .f64 x.1, .float .f64 x.2])] (.agg #[.float .f64 ((tanhP x).1), .float .f64 ((tanhP x).2)]) := by
  intro w
  have c1 := whole_c 1
  have c2 := whole_c 2
  have c3 := addC hx hx
  have c4 := Exp_c (lt_add hx hx)
  have c5 := addC (lt_exp (addP x x)) (lt_whole 1)
  have c6 := divC (x := wholeP 2) (y := addP (expP (addP x x)) (wholeP 1)) (lt_whole 2) (lt_add (lt_exp (addP x x)) (lt_whole 1))
  have c7 := subC (x := wholeP 1) (y := divP (wholeP 2) (addP (expP (addP x x)) (wholeP 1))) (lt_whole 1) lt_div
  unfold tanhP
  generalize subP (wholeP 1) (divP (wholeP 2) (addP (expP (addP x x)) (wholeP 1))) = z at *
  generalize divP (wholeP 2) (addP (expP (addP x x)) (wholeP 1)) = y at *
  generalize addP (expP (addP x x)) (wholeP 1) = a at *
  generalize expP (addP x x) = b at *
  generalize addP x x = c at *
  generalize wholeP 1 = d at *
  generalize wholeP 2 = e at *
  clear hx
  obtain ⟨x1, x2⟩ := x
  go_enter Tryz.func51, Tryz.ntmps51
  go_wp2_with (fail)
  (refine wp_region_tail_later 10 (by kernel_rfl) (by kernel_rfl) ?_; simp only [List.take_succ_cons, List.take_zero, List.drop_succ_cons, List.drop_zero])
  repeat (go_big_quiet_step (first | (go_at_call 122; first | (with_reducible exact c1.later _) | (with_reducible exact c2.later _)) | (go_at_call 121; first | (with_reducible exact c3.later _) | (with_reducible exact c5.later _)) | (go_at_call 14; (with_reducible exact c4.later _)) | (go_at_call 113; (with_reducible exact c6.later _)) | (go_at_call 117; (with_reducible exact c7.later _))))
  (refine wpQuiet_nil ?_; rintro _ ⟨nq, rfl⟩)
  go_wp2
  go_returns
  exact ⟨rfl, by (repeat' first | (with_reducible first | exact Below.refl _ _ | assumption | refine Later.belowOf _ ?_ ?_ | refine Below.alloc ?_ ?_ _ | refine Below.setCell ?_ ?_ _ | refine Below.drewN' _ ?_ | refine Below.drew ?_ | exact Ge.le) | go_size)⟩
end Go.Proofs.YtkmgfbhnioojhaaGreat
