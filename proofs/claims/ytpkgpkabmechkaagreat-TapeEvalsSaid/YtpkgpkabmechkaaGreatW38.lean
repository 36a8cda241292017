/- Contracts: intervals' hulls. -/
import Derived.Test.YtpkgpkabmechkaaGreatW36
namespace Go.Proofs.YtpkgpkabmechkaaGreat
set_option linter.unusedSimpArgs false
set_option linter.unusedVariables false
open Go.RowKit
open Fl

theorem cl_plus {x : Nat} (hx : x < 18446744073709551616) (h : plusB x = true) : cl x = x := by
  rw [cl_feq]
  cases hf : feq x 0
  · rfl
  · rw [plusB_eq hx, hf] at h
    have : x = 0 := by simpa using h
    rw [this]; rfl
theorem right_of {a b : Nat} (h : noneB a b = false) : rightB a b = true ∧ fle a b = true := by
  unfold noneB at h
  rw [Bool.or_eq_false_iff] at h
  have hr : rightB a b = true := notB _ h.1
  refine ⟨hr, ?_⟩
  unfold rightB at hr
  rw [h.2] at hr
  simp only [Bool.false_or, Bool.and_eq_true] at hr
  exact hr.1

theorem make_hull {a b c d : Nat} (ha : a < 18446744073709551616) (hb : b < 18446744073709551616) (hc : c < 18446744073709551616) (hd : d < 18446744073709551616) (h1 : noneB a b = false) (h2 : noneB c d = false) :
    makeI (minF a c) (maxF b d) = (minF a c, maxF b d) := by
  obtain ⟨p1, p2⟩ := plus_of h1
  obtain ⟨p3, p4⟩ := plus_of h2
  obtain ⟨s1, s2⟩ := sides_of h1
  obtain ⟨s3, s4⟩ := sides_of h2
  obtain ⟨n1, n2⟩ := nums_of h1
  obtain ⟨n3, n4⟩ := nums_of h2
  have r1 := (right_of h1).2
  have r2 := (right_of h2).2
  have pa : plusB (minF a c) = true := by unfold minF; split <;> assumption
  have pb : plusB (maxF b d) = true := by unfold maxF; split <;> assumption
  have sa : flt (minF a c) 9218868437227405312 = true := by unfold minF; split <;> assumption
  have sb : flt 18442240474082181120 (maxF b d) = true := by unfold maxF; split <;> assumption
  have na : nan (minF a c) = false := by unfold minF; split <;> assumption
  have nb : nan (maxF b d) = false := by unfold maxF; split <;> assumption
  have le : fle (minF a c) (maxF b d) = true := by
    refine fle_true.2 ⟨na, nb, ?_⟩
    have r1 := (fle_true.1 r1).2.2
    have r2 := (fle_true.1 r2).2.2
    unfold minF maxF flt
    rw [n1, n2, n3, n4]
    by_cases q1 : idx c < idx a <;> by_cases q2 : idx b < idx d <;> simp [q1, q2] <;> omega
  unfold makeI
  rw [cl_plus (minF_lt ha hc) pa, cl_plus (maxF_lt hb hd) pb, if_pos]
  unfold rightB
  rw [le, sa, sb, pa, pb]
  simp

/-- A hull. -/
def hullI (a b c d : Nat) : Nat × Nat :=
  if noneB a b && noneB c d then (9218868437227405312, 18442240474082181120) else if noneB a b then (c, d) else if noneB c d then (a, b) else (minF a c, maxF b d)

set_option maxHeartbeats 1000000 in
theorem hull_any (a b c d : Nat) (ha : a < 18446744073709551616) (hb : b < 18446744073709551616) (hc : c < 18446744073709551616) (hd : d < 18446744073709551616) : Gives 152 #[(.agg #[.float .f64 a, .float .f64 b]), (.agg #[.float .f64 c, .float .f64 d])] (.agg #[.float .f64 ((hullI a b c d).1), .float .f64 ((hullI a b c d).2)]) := by
  intro w
  have em : hullI a b c d = if noneB a b && noneB c d then (9218868437227405312, 18442240474082181120) else if noneB a b then (c, d) else if noneB c d then (a, b) else (minF a c, maxF b d) := rfl
  rw [em]
  clear em
  rcases fot (noneB a b) with h0 | h0 <;> rcases fot (noneB c d) with h1 | h1
  · obtain ⟨n1, n2⟩ := nums_of h0
    obtain ⟨n3, n4⟩ := nums_of h1
    obtain ⟨p1, p2⟩ := plus_of h0
    obtain ⟨p3, p4⟩ := plus_of h1
    have mk := make_any (minF a c) (maxF b d) (minF_lt ha hc) (maxF_lt hb hd)
    rw [make_hull ha hb hc hd h0 h1] at mk
    have m1 := fun (w : World) ts t => run_min_f (P := Tryz.prog) w ts t a c n1 n3 (plus_inj ha hc n1 n3 p1 p3)
    have m2 := fun (w : World) ts t => run_max_f (P := Tryz.prog) w ts t b d n2 n4 (plus_inj hb hd n2 n4 p2 p4)
    generalize minF a c = q1 at *
    generalize maxF b d = q2 at *
    clear ha hb hc hd n1 n2 n3 n4 p1 p2 p3 p4
    simp only [h0, h1, Bool.and_self, ite_true, Bool.false_eq_true, ite_false]
    go_enter Tryz.func152, Tryz.ntmps152
    go_wp2_with (fail)
    refine Calls.mono (go_none1 (a := a) (b := b) (by simp [go_sem]) (by simp [go_sem])) ?_
    rintro _ _ ⟨n0, rfl, rfl⟩
    go_wp2_with (fail)
    refine Calls.mono (go_none1 (a := a) (b := b) (by simp [go_sem]) (by simp [go_sem])) ?_
    rintro _ _ ⟨n1, rfl, rfl⟩
    go_wp2_with (fail)
    refine Calls.mono (go_none1 (a := c) (b := d) (by simp [go_sem]) (by simp [go_sem])) ?_
    rintro _ _ ⟨n2, rfl, rfl⟩
    go_wp2_with (go_at_call 136; refine (mk.go _).mono ?_; rintro _ _ ⟨n, rfl, rfl⟩)
    go_returns
    exact ⟨rfl, by (repeat' (first | (with_reducible exact Below.refl _ _) | (with_reducible assumption) | (with_reducible refine Later.belowOf _ ?_ ?_) | (with_reducible refine Below.alloc ?_ ?_ _) | (with_reducible refine Below.setCell ?_ ?_ _) | (with_reducible refine Below.drewN' _ ?_) | (with_reducible refine Below.drew ?_) | (with_reducible exact Ge.le) | go_size))⟩
  · clear ha hb hc hd
    simp only [h0, h1, Bool.and_self, Bool.and_true, Bool.and_false, Bool.true_and, Bool.false_and, ite_true, Bool.false_eq_true, ite_false]
    go_enter Tryz.func152, Tryz.ntmps152
    go_wp2_with (fail)
    refine Calls.mono (go_none1 (a := a) (b := b) (by simp [go_sem]) (by simp [go_sem])) ?_
    rintro _ _ ⟨n0, rfl, rfl⟩
    go_wp2_with (fail)
    refine Calls.mono (go_none1 (a := a) (b := b) (by simp [go_sem]) (by simp [go_sem])) ?_
    rintro _ _ ⟨n1, rfl, rfl⟩
    go_wp2_with (fail)
    refine Calls.mono (go_none1 (a := c) (b := d) (by simp [go_sem]) (by simp [go_sem])) ?_
    rintro _ _ ⟨n2, rfl, rfl⟩
    go_wp2_with (fail)
    go_returns
    exact ⟨rfl, by (repeat' (first | (with_reducible exact Below.refl _ _) | (with_reducible assumption) | (with_reducible refine Later.belowOf _ ?_ ?_) | (with_reducible refine Below.alloc ?_ ?_ _) | (with_reducible refine Below.setCell ?_ ?_ _) | (with_reducible refine Below.drewN' _ ?_) | (with_reducible refine Below.drew ?_) | (with_reducible exact Ge.le) | go_size))⟩
  · clear ha hb hc hd
    simp only [h0, h1, Bool.and_self, Bool.and_true, Bool.and_false, Bool.true_and, Bool.false_and, ite_true, Bool.false_eq_true, ite_false]
    go_enter Tryz.func152, Tryz.ntmps152
    go_wp2_with (fail)
    refine Calls.mono (go_none1 (a := a) (b := b) (by simp [go_sem]) (by simp [go_sem])) ?_
    rintro _ _ ⟨n0, rfl, rfl⟩
    go_wp2_with (fail)
    refine Calls.mono (go_none1 (a := c) (b := d) (by simp [go_sem]) (by simp [go_sem])) ?_
    rintro _ _ ⟨n1, rfl, rfl⟩
    go_wp2_with (fail)
    refine Calls.mono (go_none1 (a := a) (b := b) (by simp [go_sem]) (by simp [go_sem])) ?_
    rintro _ _ ⟨n2, rfl, rfl⟩
    go_wp2_with (fail)
    go_returns
    exact ⟨rfl, by (repeat' (first | (with_reducible exact Below.refl _ _) | (with_reducible assumption) | (with_reducible refine Later.belowOf _ ?_ ?_) | (with_reducible refine Below.alloc ?_ ?_ _) | (with_reducible refine Below.setCell ?_ ?_ _) | (with_reducible refine Below.drewN' _ ?_) | (with_reducible refine Below.drew ?_) | (with_reducible exact Ge.le) | go_size))⟩
  · clear ha hb hc hd
    simp only [h0, h1, Bool.and_self, Bool.and_true, Bool.and_false, Bool.true_and, Bool.false_and, ite_true, Bool.false_eq_true, ite_false]
    go_enter Tryz.func152, Tryz.ntmps152
    go_wp2_with (fail)
    refine Calls.mono (go_none1 (a := a) (b := b) (by simp [go_sem]) (by simp [go_sem])) ?_
    rintro _ _ ⟨n0, rfl, rfl⟩
    go_wp2_with (fail)
    refine Calls.mono (go_none1 (a := c) (b := d) (by simp [go_sem]) (by simp [go_sem])) ?_
    rintro _ _ ⟨n1, rfl, rfl⟩
    go_wp2_with (go_at_call 135; refine (empty_any.go _).mono ?_; rintro _ _ ⟨n, rfl, rfl⟩)
    go_returns
    exact ⟨rfl, by (repeat' (first | (with_reducible exact Below.refl _ _) | (with_reducible assumption) | (with_reducible refine Later.belowOf _ ?_ ?_) | (with_reducible refine Below.alloc ?_ ?_ _) | (with_reducible refine Below.setCell ?_ ?_ _) | (with_reducible refine Below.drewN' _ ?_) | (with_reducible refine Below.drew ?_) | (with_reducible exact Ge.le) | go_size))⟩

set_option maxHeartbeats 1000000 in
theorem hull_ref_any (a b c d : Nat) (ha : a < 18446744073709551616) (hb : b < 18446744073709551616) (hc : c < 18446744073709551616) (hd : d < 18446744073709551616) : Gives 71 #[(.agg #[.float .f64 a, .float .f64 b]), (.agg #[.float .f64 c, .float .f64 d])] (.agg #[.float .f64 ((hullI a b c d).1), .float .f64 ((hullI a b c d).2)]) := by
  intro w
  have nx := none_ref_any a b ha hb
  have ny := none_ref_any c d hc hd
  clear ha hb hc hd
  have em : hullI a b c d = if noneB a b && noneB c d then (9218868437227405312, 18442240474082181120) else if noneB a b then (c, d) else if noneB c d then (a, b) else (if flt c a then c else a, if flt b d then d else b) := rfl
  rw [em]
  clear em
  rcases fot (noneB a b) with h0 | h0 <;> rcases fot (noneB c d) with h1 | h1 <;> rcases fot (flt c a) with h2 | h2 <;> rcases fot (flt b d) with h3 | h3
  all_goals
    rw [h0] at nx
    rw [h1] at ny
    simp only [h0, h1, h2, h3, Bool.and_self, Bool.and_true, Bool.and_false, Bool.true_and, Bool.false_and, ite_true, Bool.false_eq_true, ite_false]
    go_enter Tryz.func71, Tryz.ntmps71
    go_wp2_with (first | (go_at_call 68; first | ((with_reducible refine (nx.go _).mono ?_); rintro _ _ ⟨n, rfl, rfl⟩) | ((with_reducible refine (ny.go _).mono ?_); rintro _ _ ⟨n, rfl, rfl⟩)) | (go_at_call 65; refine (empty2_any.go _).mono ?_; rintro _ _ ⟨n, rfl, rfl⟩))
    go_returns
    exact ⟨rfl, by (repeat' (first | (with_reducible exact Below.refl _ _) | (with_reducible assumption) | (with_reducible refine Later.belowOf _ ?_ ?_) | (with_reducible refine Below.alloc ?_ ?_ _) | (with_reducible refine Below.setCell ?_ ?_ _) | (with_reducible refine Below.drewN' _ ?_) | (with_reducible refine Below.drew ?_) | (with_reducible exact Ge.le) | go_size))⟩

end Go.Proofs.YtpkgpkabmechkaaGreat
