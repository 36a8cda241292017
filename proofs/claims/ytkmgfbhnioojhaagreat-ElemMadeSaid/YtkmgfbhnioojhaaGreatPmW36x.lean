/- Contracts: intervals' negatives. -/
import Derived.Test.YtkmgfbhnioojhaaGreatPmW1
import Derived.Test.YtkmgfbhnioojhaaGreatPmW32
import Derived.Test.YtkmgfbhnioojhaaGreatPmFlC
set_option linter.unusedSimpArgs false
set_option linter.unusedVariables false
namespace Go.Proofs.YtkmgfbhnioojhaaGreat.Fl
open Go

theorem fzero_add {x : Nat} (hx : x < 18446744073709551616) (h : nan x = false) : FloatKind.f64.format.add 0 x = some (cl x) := by
  rcases Nat.lt_or_eq_of_le (nan_false.1 h) with h1 | h1
  · rw [← fadd_zero hx h, fadd_eq (by decide) h1, fadd_eq h1 (by decide), Int.add_comm]
    congr 2
    unfold sumNeg
    rw [Int.add_comm, Bool.and_comm]
  · unfold Ieee.Format.add
    rw [read_eq, read_eq, if_neg (by omega : ¬ rung x < INFR), if_pos h1, if_pos (show rung 0 < INFR by decide)]
    simp only [Ieee.Datum.sum, Option.map_some, Ieee.Format.write, fmt_inf, fword]
    congr 1
    unfold cl
    rw [if_neg (fun hh => by have := (idx_zero_iff x).1 hh; rw [h1] at this; exact absurd this (by decide)), ← h1]
    exact word_of hx

theorem read_fneg (x : Nat) : FloatKind.f64.format.read (fneg x) = (FloatKind.f64.format.read x).opposite := by
  rw [read_eq, read_eq, rung_fneg, sgn_fneg]
  split
  · rfl
  · split <;> rfl

theorem fzero_sub {x : Nat} (h : nan x = false) : floatBits .sub .f64 0 x = some (cl (fneg x)) := by
  rw [← fzero_add (fneg_lt x) (by rw [nan_fneg]; exact h)]
  unfold floatBits
  simp only [Ieee.Format.sub, Ieee.Format.add, read_fneg]

/-- 0 - x, in the walk's words. -/
theorem fop_zero_sub {x : Nat} (w : World) (h : nan x = false) : fop .sub 0 x w = cl (fneg x) ∧ nd .sub 0 x = 0 :=
  ⟨fop_some w (fzero_sub h), by unfold nd; rw [fzero_sub h]; rfl⟩
/-- The greater of two floats, neither of which is no number, and of which no two are the noughts. -/
def maxF (a b : Nat) : Nat := if flt a b then b else a
def minF (a b : Nat) : Nat := if flt b a then b else a
theorem run_max_f {P : Program} (w : World) (ts : Array TypeId) (t : TypeId) (a b : Nat) (ha : nan a = false) (hb : nan b = false) (he : idx a = idx b → a = b) :
    (Builtin.max_ ts t #[.float .f64 a, .float .f64 b]).run P w = .ok (.float .f64 (maxF a b)) w := by
  have o := order_eq a b
  rw [ha, hb] at o
  unfold maxF flt
  rw [ha, hb]
  simp only [compare, compareOfLessAndEq, Bool.false_or, Bool.or_self, Bool.false_eq_true, if_false] at o
  by_cases h1 : idx a < idx b
  · rw [if_pos h1] at o
    simp [Builtin.max_, Builtin.max2, o, h1]
  · by_cases h2 : idx a = idx b
    · have := he h2
      subst this
      rw [if_neg h1, if_pos rfl] at o
      simp [Builtin.max_, Builtin.max2, o]
    · rw [if_neg h1, if_neg h2] at o
      simp [Builtin.max_, Builtin.max2, o, h1]
theorem run_min_f {P : Program} (w : World) (ts : Array TypeId) (t : TypeId) (a b : Nat) (ha : nan a = false) (hb : nan b = false) (he : idx a = idx b → a = b) :
    (Builtin.min_ ts t #[.float .f64 a, .float .f64 b]).run P w = .ok (.float .f64 (minF a b)) w := by
  have o := order_eq a b
  rw [ha, hb] at o
  unfold minF flt
  rw [ha, hb]
  simp only [compare, compareOfLessAndEq, Bool.false_or, Bool.or_self, Bool.false_eq_true, if_false] at o
  by_cases h1 : idx a < idx b
  · rw [if_pos h1] at o
    have : ¬ idx b < idx a := by omega
    simp [Builtin.min_, Builtin.min2, o, h1, this]
  · by_cases h2 : idx a = idx b
    · have := he h2
      subst this
      rw [if_neg h1, if_pos rfl] at o
      simp [Builtin.min_, Builtin.min2, o]
    · rw [if_neg h1, if_neg h2] at o
      have : idx b < idx a := by omega
      simp [Builtin.min_, Builtin.min2, o, h1, this]
theorem cl_cl (x : Nat) : cl (cl x) = cl x := by
  unfold cl; split <;> simp [*]
end Go.Proofs.YtkmgfbhnioojhaaGreat.Fl
namespace Go.Proofs.YtkmgfbhnioojhaaGreat
open Go.RowKit
open Fl

/-- A negative. -/
def negI (a b : Nat) : Nat × Nat := if noneB a b then (9218868437227405312, 18442240474082181120) else makeI (fneg b) (fneg a)

set_option maxHeartbeats 1000000 in
theorem neg_any (a b : Nat) (ha : a < 18446744073709551616) (hb : b < 18446744073709551616) : Gives 118 #[(.agg #[.float .f64 a, .float .f64 b])] (.agg #[.float .f64 ((negI a b).1), .float .f64 ((negI a b).2)]) := by
  intro w
  have mk := make_any (fneg b) (fneg a) (fneg_lt b) (fneg_lt a)
  have na := fneg_eq ha
  have nb := fneg_eq hb
  unfold negI
  generalize makeI (fneg b) (fneg a) = r at *
  clear ha hb
  refine (byB (noneB a b) (fun hc0 => ?_) (fun hc0 => ?_))
  all_goals
    simp only [hc0, ite_true, Bool.false_eq_true, ite_false]
    go_enter Tryz.func118, Tryz.ntmps118
    go_wp2_with (first | (go_at_call 124; refine (go_none1 (a := a) (b := b) (by go_simp) (by go_simp)).mono ?_; rintro _ _ ⟨n, rfl, rfl⟩) | (go_at_call 55; refine (empty_any.go _).mono ?_; rintro _ _ ⟨n, rfl, rfl⟩) | (go_at_call 123; refine (mk.go _).mono ?_; rintro _ _ ⟨n, rfl, rfl⟩))
    go_returns
    exact ⟨rfl, by (repeat' first | (with_reducible first | exact Below.refl _ _ | assumption | refine Later.belowOf _ ?_ ?_ | refine Below.alloc ?_ ?_ _ | refine Below.setCell ?_ ?_ _ | refine Below.drewN' _ ?_ | refine Below.drew ?_ | exact Ge.le) | go_size)⟩

theorem makeI_cl (a b : Nat) : makeI (cl a) (cl b) = makeI a b := by unfold makeI; rw [cl_cl, cl_cl]
theorem nums_of {a b : Nat} (h : noneB a b = false) : nan a = false ∧ nan b = false := by
  unfold noneB at h
  rw [Bool.or_eq_false_iff] at h
  have hr : rightB a b = true := notB _ h.1
  constructor
  · cases hn : nan a
    · rfl
    · rw [rightB_nan (Or.inl hn)] at hr; cases hr
  · cases hn : nan b
    · rfl
    · rw [rightB_nan (Or.inr hn)] at hr; cases hr

set_option maxHeartbeats 1000000 in
theorem neg_ref_any (a b : Nat) (ha : a < 18446744073709551616) (hb : b < 18446744073709551616) : Gives 43 #[(.agg #[.float .f64 a, .float .f64 b])] (.agg #[.float .f64 ((negI a b).1), .float .f64 ((negI a b).2)]) := by
  intro w
  have mk := make2_any (cl (fneg b)) (cl (fneg a)) (cl_lt (fneg_lt b)) (cl_lt (fneg_lt a))
  have nn := none_ref_any a b ha hb
  rw [makeI_cl] at mk
  unfold negI
  cases hc0 : noneB a b
  · have f1 := fun w => fop_zero_sub w (nums_of hc0).1
    have f2 := fun w => fop_zero_sub w (nums_of hc0).2
    rw [hc0] at nn
    generalize makeI (fneg b) (fneg a) = r at *
    clear ha hb
    simp only [hc0, ite_true, Bool.false_eq_true, ite_false]
    have g1 := fun w => (f1 w).1
    have g2 := fun w => (f2 w).1
    have g3 := (f1 w).2
    have g4 := (f2 w).2
    clear f1 f2
    go_enter Tryz.func43, Tryz.ntmps43
    go_wp2_with (first | (go_at_call 15; refine (nn.go _).mono ?_; rintro _ _ ⟨n, rfl, rfl⟩) | (go_at_call 42; refine (mk.go _).mono ?_; rintro _ _ ⟨n, rfl, rfl⟩))
    go_returns
    exact ⟨rfl, by (repeat' first | (with_reducible first | exact Below.refl _ _ | assumption | refine Later.belowOf _ ?_ ?_ | refine Below.alloc ?_ ?_ _ | refine Below.setCell ?_ ?_ _ | refine Below.drewN' _ ?_ | refine Below.drew ?_ | exact Ge.le) | go_size)⟩
  · rw [hc0] at nn
    clear ha hb mk
    simp only [hc0, ite_true, Bool.false_eq_true, ite_false]
    go_enter Tryz.func43, Tryz.ntmps43
    go_wp2_with (first | (go_at_call 15; refine (nn.go _).mono ?_; rintro _ _ ⟨n, rfl, rfl⟩) | (go_at_call 17; refine (empty2_any.go _).mono ?_; rintro _ _ ⟨n, rfl, rfl⟩))
    go_returns
    exact ⟨rfl, by (repeat' first | (with_reducible first | exact Below.refl _ _ | assumption | refine Later.belowOf _ ?_ ?_ | refine Below.alloc ?_ ?_ _ | refine Below.setCell ?_ ?_ _ | refine Below.drewN' _ ?_ | refine Below.drew ?_ | exact Ge.le) | go_size)⟩

theorem plus_zero {a : Nat} (ha : a < 18446744073709551616) (pa : plusB a = true) (na : nan a = false) (h : idx a = 0) : a = 0 := by
  rw [plusB_eq ha] at pa
  have e : feq a 0 = true := by unfold feq; rw [na, show nan 0 = false by decide, h, show idx 0 = 0 by decide]; rfl
  rw [e] at pa
  simpa using pa
theorem plus_inj {a b : Nat} (ha : a < 18446744073709551616) (hb : b < 18446744073709551616) (na : nan a = false) (nb : nan b = false) (pa : plusB a = true) (pb : plusB b = true) (h : idx a = idx b) : a = b := by
  by_cases h0 : idx a = 0
  · rw [plus_zero ha pa na h0, plus_zero hb pb nb (by rw [← h]; exact h0)]
  · by_cases h1 : 0 ≤ idx a
    · have e1 := bits_small h1 h0 ha
      have e2 := bits_small (by rw [← h]; exact h1) (by rw [← h]; exact h0) hb
      omega
    · have e1 := bits_great (by omega : idx a < 0) ha
      have e2 := bits_great (by omega : idx b < 0) hb
      omega
theorem plus_of {a b : Nat} (h : noneB a b = false) : plusB a = true ∧ plusB b = true := by
  unfold noneB at h
  rw [Bool.or_eq_false_iff] at h
  have hr : rightB a b = true := notB _ h.1
  unfold rightB at hr
  rw [h.2] at hr
  simp only [Bool.false_or, Bool.and_eq_true] at hr
  exact ⟨hr.2.2.2.1, hr.2.2.2.2⟩

theorem sides_of {a b : Nat} (h : noneB a b = false) : flt a 9218868437227405312 = true ∧ flt 18442240474082181120 b = true := by
  unfold noneB at h
  rw [Bool.or_eq_false_iff] at h
  have hr : rightB a b = true := notB _ h.1
  unfold rightB at hr
  rw [h.2] at hr
  simp only [Bool.false_or, Bool.and_eq_true] at hr
  exact ⟨hr.2.1, hr.2.2.1⟩

/-- What both hold. -/
def meetI (a b c d : Nat) : Nat × Nat := if noneB a b || noneB c d then (9218868437227405312, 18442240474082181120) else makeI (maxF a c) (minF b d)

theorem maxF_lt {a b : Nat} (ha : a < 18446744073709551616) (hb : b < 18446744073709551616) : maxF a b < 18446744073709551616 := by unfold maxF; split <;> assumption
theorem minF_lt {a b : Nat} (ha : a < 18446744073709551616) (hb : b < 18446744073709551616) : minF a b < 18446744073709551616 := by unfold minF; split <;> assumption

set_option maxHeartbeats 1000000 in
theorem meet_any (a b c d : Nat) (ha : a < 18446744073709551616) (hb : b < 18446744073709551616) (hc : c < 18446744073709551616) (hd : d < 18446744073709551616) : Gives 54 #[(.agg #[.float .f64 a, .float .f64 b]), (.agg #[.float .f64 c, .float .f64 d])] (.agg #[.float .f64 ((meetI a b c d).1), .float .f64 ((meetI a b c d).2)]) := by
  intro w
  have mk := make_any (maxF a c) (minF b d) (maxF_lt ha hc) (minF_lt hb hd)
  unfold meetI
  generalize makeI (maxF a c) (minF b d) = r at *
  cases h0 : noneB a b || noneB c d
  · have h0' := h0
    rw [Bool.or_eq_false_iff] at h0'
    obtain ⟨n1, n2⟩ := nums_of h0'.1
    obtain ⟨n3, n4⟩ := nums_of h0'.2
    obtain ⟨p1, p2⟩ := plus_of h0'.1
    obtain ⟨p3, p4⟩ := plus_of h0'.2
    have m1 := fun (w : World) ts t => run_max_f (P := Tryz.prog) w ts t a c n1 n3 (plus_inj ha hc n1 n3 p1 p3)
    have m2 := fun (w : World) ts t => run_min_f (P := Tryz.prog) w ts t b d n2 n4 (plus_inj hb hd n2 n4 p2 p4)
    clear ha hb hc hd n1 n2 n3 n4 p1 p2 p3 p4 h0'
    simp only [h0, ite_true, Bool.false_eq_true, ite_false]
    go_enter Tryz.func54, Tryz.ntmps54
    go_wp2_with (first | (go_at_call 124; refine Calls.mono (none2_any a b c d _ _ inferInstance (by simp [go_sem]) (by simp [go_sem]) (by simp [go_sem]) (by simp [go_sem])) ?_; rintro _ _ ⟨n, rfl, rfl⟩) | (go_at_call 123; refine (mk.go _).mono ?_; rintro _ _ ⟨n, rfl, rfl⟩))
    go_returns
    exact ⟨rfl, by (repeat' first | (with_reducible first | exact Below.refl _ _ | assumption | refine Later.belowOf _ ?_ ?_ | refine Below.alloc ?_ ?_ _ | refine Below.setCell ?_ ?_ _ | refine Below.drewN' _ ?_ | refine Below.drew ?_ | exact Ge.le) | go_size)⟩
  · clear ha hb hc hd mk
    simp only [h0, ite_true, Bool.false_eq_true, ite_false]
    go_enter Tryz.func54, Tryz.ntmps54
    go_wp2_with (first | (go_at_call 124; refine Calls.mono (none2_any a b c d _ _ inferInstance (by simp [go_sem]) (by simp [go_sem]) (by simp [go_sem]) (by simp [go_sem])) ?_; rintro _ _ ⟨n, rfl, rfl⟩) | (go_at_call 55; refine (empty_any.go _).mono ?_; rintro _ _ ⟨n, rfl, rfl⟩))
    go_returns
    exact ⟨rfl, by (repeat' first | (with_reducible first | exact Below.refl _ _ | assumption | refine Later.belowOf _ ?_ ?_ | refine Below.alloc ?_ ?_ _ | refine Below.setCell ?_ ?_ _ | refine Below.drewN' _ ?_ | refine Below.drew ?_ | exact Ge.le) | go_size)⟩

theorem idx_inj {a b : Nat} (ha : a < 18446744073709551616) (hb : b < 18446744073709551616) (h0 : idx b ≠ 0) (h : idx a = idx b) : a = b := by
  by_cases h1 : 0 ≤ idx b
  · have e1 := bits_small (by omega : 0 ≤ idx a) (by omega) ha
    have e2 := bits_small h1 h0 hb
    omega
  · have e1 := bits_great (by omega : idx a < 0) ha
    have e2 := bits_great (by omega : idx b < 0) hb
    omega

/-- An interval's ends, whatever they are. -/
def endsI (lo hi : Nat) : Nat × Nat := makeI (minF lo 9218868437227405311) (maxF hi 18442240474082181119)

set_option maxHeartbeats 1000000 in
theorem ends_any (lo hi : Nat) (hl : lo < 18446744073709551616) (hh : hi < 18446744073709551616) (n1 : nan lo = false) (n2 : nan hi = false) : Gives 193 #[(.float .f64 lo), (.float .f64 hi)] (.agg #[.float .f64 ((endsI lo hi).1), .float .f64 ((endsI lo hi).2)]) := by
  intro w
  have mk := make_any (minF lo 9218868437227405311) (maxF hi 18442240474082181119) (minF_lt hl (by decide)) (maxF_lt hh (by decide))
  have m1 := fun (w : World) ts t => run_min_f (P := Tryz.prog) w ts t lo 9218868437227405311 n1 (by decide) (idx_inj hl (by decide) (by decide))
  have m2 := fun (w : World) ts t => run_max_f (P := Tryz.prog) w ts t hi 18442240474082181119 n2 (by decide) (idx_inj hh (by decide) (by decide))
  unfold endsI
  generalize makeI (minF lo 9218868437227405311) (maxF hi 18442240474082181119) = r at *
  generalize minF lo 9218868437227405311 = q1 at *
  generalize maxF hi 18442240474082181119 = q2 at *
  clear hl hh n1 n2
  go_enter Tryz.func193, Tryz.ntmps193
  go_wp2_with (go_at_call 123; refine (mk.go _).mono ?_; rintro _ _ ⟨n, rfl, rfl⟩)
  go_returns
  exact ⟨rfl, by (repeat' first | (with_reducible first | exact Below.refl _ _ | assumption | refine Later.belowOf _ ?_ ?_ | refine Below.alloc ?_ ?_ _ | refine Below.setCell ?_ ?_ _ | refine Below.drewN' _ ?_ | refine Below.drew ?_ | exact Ge.le) | go_size)⟩

end Go.Proofs.YtkmgfbhnioojhaaGreat

/- Contracts: intervals' hulls. -/
namespace Go.Proofs.YtkmgfbhnioojhaaGreat
set_option linter.unusedSimpArgs false
set_option linter.unusedVariables false
open Go.RowKit
open Fl

theorem cl_plus {x : Nat} (hx : x < 18446744073709551616) (h : plusB x = true) : cl x = x := by
  rw [cl_feq]
  cases hf : feq x 0
  · rfl
  · rw [plusB_eq hx, hf] at h
    have : x = 0 := by simpa using h
    rw [this]; rfl
theorem right_of {a b : Nat} (h : noneB a b = false) : rightB a b = true ∧ fle a b = true := by
  unfold noneB at h
  rw [Bool.or_eq_false_iff] at h
  have hr : rightB a b = true := notB _ h.1
  refine ⟨hr, ?_⟩
  unfold rightB at hr
  rw [h.2] at hr
  simp only [Bool.false_or, Bool.and_eq_true] at hr
  exact hr.1

theorem make_hull {a b c d : Nat} (ha : a < 18446744073709551616) (hb : b < 18446744073709551616) (hc : c < 18446744073709551616) (hd : d < 18446744073709551616) (h1 : noneB a b = false) (h2 : noneB c d = false) :
    makeI (minF a c) (maxF b d) = (minF a c, maxF b d) := by
  obtain ⟨p1, p2⟩ := plus_of h1
  obtain ⟨p3, p4⟩ := plus_of h2
  obtain ⟨s1, s2⟩ := sides_of h1
  obtain ⟨s3, s4⟩ := sides_of h2
  obtain ⟨n1, n2⟩ := nums_of h1
  obtain ⟨n3, n4⟩ := nums_of h2
  have r1 := (right_of h1).2
  have r2 := (right_of h2).2
  have pa : plusB (minF a c) = true := by unfold minF; split <;> assumption
  have pb : plusB (maxF b d) = true := by unfold maxF; split <;> assumption
  have sa : flt (minF a c) 9218868437227405312 = true := by unfold minF; split <;> assumption
  have sb : flt 18442240474082181120 (maxF b d) = true := by unfold maxF; split <;> assumption
  have na : nan (minF a c) = false := by unfold minF; split <;> assumption
  have nb : nan (maxF b d) = false := by unfold maxF; split <;> assumption
  have le : fle (minF a c) (maxF b d) = true := by
    refine fle_true.2 ⟨na, nb, ?_⟩
    have r1 := (fle_true.1 r1).2.2
    have r2 := (fle_true.1 r2).2.2
    unfold minF maxF flt
    rw [n1, n2, n3, n4]
    by_cases q1 : idx c < idx a <;> by_cases q2 : idx b < idx d <;> simp [q1, q2] <;> omega
  unfold makeI
  rw [cl_plus (minF_lt ha hc) pa, cl_plus (maxF_lt hb hd) pb, if_pos]
  unfold rightB
  rw [le, sa, sb, pa, pb]
  simp

/-- A hull. -/
def hullI (a b c d : Nat) : Nat × Nat :=
  if noneB a b && noneB c d then (9218868437227405312, 18442240474082181120) else if noneB a b then (c, d) else if noneB c d then (a, b) else (minF a c, maxF b d)

set_option maxHeartbeats 1000000 in
theorem hull_any (a b c d : Nat) (ha : a < 18446744073709551616) (hb : b < 18446744073709551616) (hc : c < 18446744073709551616) (hd : d < 18446744073709551616) : Gives 183 #[(.agg #[.float .f64 a, .float .f64 b]), (.agg #[.float .f64 c, .float .f64 d])] (.agg #[.float .f64 ((hullI a b c d).1), .float .f64 ((hullI a b c d).2)]) := by
  intro w
  have em : hullI a b c d = if noneB a b && noneB c d then (9218868437227405312, 18442240474082181120) else if noneB a b then (c, d) else if noneB c d then (a, b) else (minF a c, maxF b d) := rfl
  rw [em]
  clear em
  rcases fot (noneB a b) with h0 | h0 <;> rcases fot (noneB c d) with h1 | h1
  · obtain ⟨n1, n2⟩ := nums_of h0
    obtain ⟨n3, n4⟩ := nums_of h1
    obtain ⟨p1, p2⟩ := plus_of h0
    obtain ⟨p3, p4⟩ := plus_of h1
    have mk := make_any (minF a c) (maxF b d) (minF_lt ha hc) (maxF_lt hb hd)
    rw [make_hull ha hb hc hd h0 h1] at mk
    have m1 := fun (w : World) ts t => run_min_f (P := Tryz.prog) w ts t a c n1 n3 (plus_inj ha hc n1 n3 p1 p3)
    have m2 := fun (w : World) ts t => run_max_f (P := Tryz.prog) w ts t b d n2 n4 (plus_inj hb hd n2 n4 p2 p4)
    generalize minF a c = q1 at *
    generalize maxF b d = q2 at *
    clear ha hb hc hd n1 n2 n3 n4 p1 p2 p3 p4
    simp only [h0, h1, Bool.and_self, ite_true, Bool.false_eq_true, ite_false]
    go_enter Tryz.func183, Tryz.ntmps183
    go_wp2_with (fail)
    refine Calls.mono (go_none1 (a := a) (b := b) (by simp [go_sem]) (by simp [go_sem])) ?_
    rintro _ _ ⟨n0, rfl, rfl⟩
    go_wp2_with (fail)
    refine Calls.mono (go_none1 (a := a) (b := b) (by simp [go_sem]) (by simp [go_sem])) ?_
    rintro _ _ ⟨n1, rfl, rfl⟩
    go_wp2_with (fail)
    refine Calls.mono (go_none1 (a := c) (b := d) (by simp [go_sem]) (by simp [go_sem])) ?_
    rintro _ _ ⟨n2, rfl, rfl⟩
    go_wp2_with (go_at_call 123; refine (mk.go _).mono ?_; rintro _ _ ⟨n, rfl, rfl⟩)
    go_returns
    exact ⟨rfl, by (repeat' first | (with_reducible first | exact Below.refl _ _ | assumption | refine Later.belowOf _ ?_ ?_ | refine Below.alloc ?_ ?_ _ | refine Below.setCell ?_ ?_ _ | refine Below.drewN' _ ?_ | refine Below.drew ?_ | exact Ge.le) | go_size)⟩
  · clear ha hb hc hd
    simp only [h0, h1, Bool.and_self, Bool.and_true, Bool.and_false, Bool.true_and, Bool.false_and, ite_true, Bool.false_eq_true, ite_false]
    go_enter Tryz.func183, Tryz.ntmps183
    go_wp2_with (fail)
    refine Calls.mono (go_none1 (a := a) (b := b) (by simp [go_sem]) (by simp [go_sem])) ?_
    rintro _ _ ⟨n0, rfl, rfl⟩
    go_wp2_with (fail)
    refine Calls.mono (go_none1 (a := a) (b := b) (by simp [go_sem]) (by simp [go_sem])) ?_
    rintro _ _ ⟨n1, rfl, rfl⟩
    go_wp2_with (fail)
    refine Calls.mono (go_none1 (a := c) (b := d) (by simp [go_sem]) (by simp [go_sem])) ?_
    rintro _ _ ⟨n2, rfl, rfl⟩
    go_wp2_with (fail)
    go_returns
    exact ⟨rfl, by (repeat' first | (with_reducible first | exact Below.refl _ _ | assumption | refine Later.belowOf _ ?_ ?_ | refine Below.alloc ?_ ?_ _ | refine Below.setCell ?_ ?_ _ | refine Below.drewN' _ ?_ | refine Below.drew ?_ | exact Ge.le) | go_size)⟩
  · clear ha hb hc hd
    simp only [h0, h1, Bool.and_self, Bool.and_true, Bool.and_false, Bool.true_and, Bool.false_and, ite_true, Bool.false_eq_true, ite_false]
    go_enter Tryz.func183, Tryz.ntmps183
    go_wp2_with (fail)
    refine Calls.mono (go_none1 (a := a) (b := b) (by simp [go_sem]) (by simp [go_sem])) ?_
    rintro _ _ ⟨n0, rfl, rfl⟩
    go_wp2_with (fail)
    refine Calls.mono (go_none1 (a := c) (b := d) (by simp [go_sem]) (by simp [go_sem])) ?_
    rintro _ _ ⟨n1, rfl, rfl⟩
    go_wp2_with (fail)
    refine Calls.mono (go_none1 (a := a) (b := b) (by simp [go_sem]) (by simp [go_sem])) ?_
    rintro _ _ ⟨n2, rfl, rfl⟩
    go_wp2_with (fail)
    go_returns
    exact ⟨rfl, by (repeat' first | (with_reducible first | exact Below.refl _ _ | assumption | refine Later.belowOf _ ?_ ?_ | refine Below.alloc ?_ ?_ _ | refine Below.setCell ?_ ?_ _ | refine Below.drewN' _ ?_ | refine Below.drew ?_ | exact Ge.le) | go_size)⟩
  · clear ha hb hc hd
    simp only [h0, h1, Bool.and_self, Bool.and_true, Bool.and_false, Bool.true_and, Bool.false_and, ite_true, Bool.false_eq_true, ite_false]
    go_enter Tryz.func183, Tryz.ntmps183
    go_wp2_with (fail)
    refine Calls.mono (go_none1 (a := a) (b := b) (by simp [go_sem]) (by simp [go_sem])) ?_
    rintro _ _ ⟨n0, rfl, rfl⟩
    go_wp2_with (fail)
    refine Calls.mono (go_none1 (a := c) (b := d) (by simp [go_sem]) (by simp [go_sem])) ?_
    rintro _ _ ⟨n1, rfl, rfl⟩
    go_wp2_with (go_at_call 55; refine (empty_any.go _).mono ?_; rintro _ _ ⟨n, rfl, rfl⟩)
    go_returns
    exact ⟨rfl, by (repeat' first | (with_reducible first | exact Below.refl _ _ | assumption | refine Later.belowOf _ ?_ ?_ | refine Below.alloc ?_ ?_ _ | refine Below.setCell ?_ ?_ _ | refine Below.drewN' _ ?_ | refine Below.drew ?_ | exact Ge.le) | go_size)⟩

set_option maxHeartbeats 1000000 in
theorem hull_ref_any (a b c d : Nat) (ha : a < 18446744073709551616) (hb : b < 18446744073709551616) (hc : c < 18446744073709551616) (hd : d < 18446744073709551616) : Gives 114 #[(.agg #[.float .f64 a, .float .f64 b]), (.agg #[.float .f64 c, .float .f64 d])] (.agg #[.float .f64 ((hullI a b c d).1), .float .f64 ((hullI a b c d).2)]) := by
  intro w
  have nx := none_ref_any a b ha hb
  have ny := none_ref_any c d hc hd
  clear ha hb hc hd
  have em : hullI a b c d = if noneB a b && noneB c d then (9218868437227405312, 18442240474082181120) else if noneB a b then (c, d) else if noneB c d then (a, b) else (if flt c a then c else a, if flt b d then d else b) := rfl
  rw [em]
  clear em
  rcases fot (noneB a b) with h0 | h0 <;> rcases fot (noneB c d) with h1 | h1 <;> rcases fot (flt c a) with h2 | h2 <;> rcases fot (flt b d) with h3 | h3
  all_goals
    rw [h0] at nx
    rw [h1] at ny
    simp only [h0, h1, h2, h3, Bool.and_self, Bool.and_true, Bool.and_false, Bool.true_and, Bool.false_and, ite_true, Bool.false_eq_true, ite_false]
    go_enter Tryz.func114, Tryz.ntmps114
    go_wp2_with (first | (go_at_call 15; first | ((with_reducible refine (nx.go _).mono ?_); rintro _ _ ⟨n, rfl, rfl⟩) | ((with_reducible refine (ny.go _).mono ?_); rintro _ _ ⟨n, rfl, rfl⟩)) | (go_at_call 17; refine (empty2_any.go _).mono ?_; rintro _ _ ⟨n, rfl, rfl⟩))
    go_returns
    exact ⟨rfl, by (repeat' first | (with_reducible first | exact Below.refl _ _ | assumption | refine Later.belowOf _ ?_ ?_ | refine Below.alloc ?_ ?_ _ | refine Below.setCell ?_ ?_ _ | refine Below.drewN' _ ?_ | refine Below.drew ?_ | exact Ge.le) | go_size)⟩

end Go.Proofs.YtkmgfbhnioojhaaGreat

/- Contracts: intervals' sums. -/
namespace Go.Proofs.YtkmgfbhnioojhaaGreat
set_option linter.unusedSimpArgs false
set_option linter.unusedVariables false
open Go.RowKit
open Fl

theorem addS_lt {a b : Nat} (dir : Int) (ha : a < 18446744073709551616) (hb : b < 18446744073709551616) : addS a b dir < 18446744073709551616 := by
  unfold addS
  repeat' split
  all_goals first | exact rnd_lt _ _ _ | decide | assumption

/-- A sum. -/
def sumI (a b c d : Nat) : Nat × Nat := if noneB a b || noneB c d then (9218868437227405312, 18442240474082181120) else endsI (addS a c (-1)) (addS b d 1)

set_option maxHeartbeats 1000000 in
theorem sumI_any (a b c d : Nat) (ha : a < 18446744073709551616) (hb : b < 18446744073709551616) (hc : c < 18446744073709551616) (hd : d < 18446744073709551616)
    (hn : noneB a b = false → noneB c d = false → nan (addS a c (-1)) = false ∧ nan (addS b d 1) = false) : Gives 121 #[(.agg #[.float .f64 a, .float .f64 b]), (.agg #[.float .f64 c, .float .f64 d])] (.agg #[.float .f64 ((sumI a b c d).1), .float .f64 ((sumI a b c d).2)]) := by
  intro w
  have A1 := add_any a c (-1) ha hc
  have A2 := add_any b d 1 hb hd
  unfold sumI
  cases h0 : noneB a b || noneB c d
  · have h0' := h0
    rw [Bool.or_eq_false_iff] at h0'
    have hn' := hn h0'.1 h0'.2
    have en := ends_any _ _ (addS_lt (-1) ha hc) (addS_lt 1 hb hd) hn'.1 hn'.2
    have A1 := A1.num hn'.1
    have A2 := A2.num hn'.2
    generalize endsI (addS a c (-1)) (addS b d 1) = r at *
    generalize addS a c (-1) = s1 at *
    generalize addS b d 1 = s2 at *
    clear ha hb hc hd hn hn' h0'
    simp only [h0, ite_true, Bool.false_eq_true, ite_false]
    go_enter Tryz.func121, Tryz.ntmps121
    go_wp2_with (go_at_call 124; refine Calls.mono (none2_any a b c d _ _ inferInstance (by simp [go_sem]) (by simp [go_sem]) (by simp [go_sem]) (by simp [go_sem])) ?_; rintro _ _ ⟨n, rfl, rfl⟩)
    go_region_held3 (fun w' => w'.cell? ⟨w.heap.size, 0, none⟩ = some (.float .f64 a) ∧ w'.cell? ⟨w.heap.size, 1, none⟩ = some (.float .f64 b) ∧ w'.cell? ⟨w.heap.size + 1, 0, none⟩ = some (.float .f64 c) ∧ w'.cell? ⟨w.heap.size + 1, 1, none⟩ = some (.float .f64 d))
      (first | (go_simp; done) | go_keep)
      ((first | (go_at_call 196; first | ((with_reducible refine (A1.go _).mono ?_); rintro _ _ ⟨n, rfl, rfl⟩) | ((with_reducible refine (A2.go _).mono ?_); rintro _ _ ⟨n, rfl, rfl⟩)) | (go_at_call 193; (with_reducible refine (en.go _).mono ?_); rintro _ _ ⟨n, rfl, rfl⟩)))
    all_goals
      rename_i hHeld
      clear hHeld
      go_wp2
      go_returns
      exact ⟨rfl, by (repeat' first | (with_reducible first | exact Below.refl _ _ | assumption | refine Later.belowOf _ ?_ ?_ | refine Below.alloc ?_ ?_ _ | refine Below.setCell ?_ ?_ _ | refine Below.drewN' _ ?_ | refine Below.drew ?_ | exact Ge.le) | go_size)⟩
  · clear ha hb hc hd A1 A2 hn
    simp only [h0, ite_true, Bool.false_eq_true, ite_false]
    go_enter Tryz.func121, Tryz.ntmps121
    go_wp2_with (first | (go_at_call 124; refine Calls.mono (none2_any a b c d _ _ inferInstance (by simp [go_sem]) (by simp [go_sem]) (by simp [go_sem]) (by simp [go_sem])) ?_; rintro _ _ ⟨n, rfl, rfl⟩) | (go_at_call 55; refine (empty_any.go _).mono ?_; rintro _ _ ⟨n, rfl, rfl⟩))
    go_returns
    exact ⟨rfl, by (repeat' first | (with_reducible first | exact Below.refl _ _ | assumption | refine Later.belowOf _ ?_ ?_ | refine Below.alloc ?_ ?_ _ | refine Below.setCell ?_ ?_ _ | refine Below.drewN' _ ?_ | refine Below.drew ?_ | exact Ge.le) | go_size)⟩

theorem nan_rnd (S : Int) (D : Nat) (dir : Int) : nan (rnd S D dir) = false := by
  have h := rungOf_le S.natAbs D (if S < 0 then -dir else dir)
  unfold INFR at h
  unfold rnd
  refine (nan_bits ?_ ?_).1 <;> split <;> omega
theorem inf_sgn {a : Nat} (na : nan a = false) (hf : finB a = false) : rung a = 9218868437227405312 := by
  have h1 := nan_false.1 na
  have h2 := finB_false.1 hf
  unfold INFR at *
  omega
theorem addS_num {a b : Nat} (dir : Int) (na : nan a = false) (nb : nan b = false) (h : finB a = false → finB b = false → sgn a = sgn b) : nan (addS a b dir) = false := by
  unfold addS
  cases fa : finB a <;> cases fb : finB b <;> simp only [Bool.and_true, Bool.and_false, Bool.and_self, if_true, if_false, Bool.false_eq_true, na, nb, Bool.or_self]
  all_goals first | exact nan_rnd _ _ _ | exact na | exact nb | (rw [if_pos (h fa fb)]; exact na)
theorem sgn_low {a : Nat} (h : flt a 9218868437227405312 = true) (hf : finB a = false) (na : nan a = false) : sgn a = true := by
  have e := inf_sgn na hf
  unfold flt at h
  simp only [Bool.and_eq_true, decide_eq_true_eq] at h
  have h := h.2
  rw [idx_pinf] at h
  unfold idx at h
  cases hs : sgn a
  · rw [hs, e] at h; simp at h
  · rfl
theorem sgn_high {a : Nat} (h : flt 18442240474082181120 a = true) (hf : finB a = false) (na : nan a = false) : sgn a = false := by
  have e := inf_sgn na hf
  unfold flt at h
  simp only [Bool.and_eq_true, decide_eq_true_eq] at h
  have h := h.2
  rw [idx_ninf] at h
  unfold idx at h
  cases hs : sgn a
  · rfl
  · rw [hs, e] at h; simp at h

theorem add_ival_any (a b c d : Nat) (ha : a < 18446744073709551616) (hb : b < 18446744073709551616) (hc : c < 18446744073709551616) (hd : d < 18446744073709551616) : Gives 121 #[(.agg #[.float .f64 a, .float .f64 b]), (.agg #[.float .f64 c, .float .f64 d])] (.agg #[.float .f64 ((sumI a b c d).1), .float .f64 ((sumI a b c d).2)]) := by
  refine sumI_any a b c d ha hb hc hd fun h1 h2 => ?_
  obtain ⟨n1, n2⟩ := nums_of h1
  obtain ⟨n3, n4⟩ := nums_of h2
  obtain ⟨s1, s2⟩ := sides_of h1
  obtain ⟨s3, s4⟩ := sides_of h2
  exact ⟨addS_num _ n1 n3 fun f1 f2 => by rw [sgn_low s1 f1 n1, sgn_low s3 f2 n3], addS_num _ n2 n4 fun f1 f2 => by rw [sgn_high s2 f1 n2, sgn_high s4 f2 n4]⟩

theorem makeI_lt {a b : Nat} (ha : a < 18446744073709551616) (hb : b < 18446744073709551616) : (makeI a b).1 < 18446744073709551616 ∧ (makeI a b).2 < 18446744073709551616 := by
  unfold makeI; split
  · exact ⟨cl_lt ha, cl_lt hb⟩
  · exact ⟨by decide, by decide⟩
theorem negI_lt {a b : Nat} (ha : a < 18446744073709551616) (hb : b < 18446744073709551616) : (negI a b).1 < 18446744073709551616 ∧ (negI a b).2 < 18446744073709551616 := by
  unfold negI; split
  · exact ⟨by decide, by decide⟩
  · exact makeI_lt (fneg_lt b) (fneg_lt a)

/-- A difference. -/
def diffI (a b c d : Nat) : Nat × Nat := sumI a b (negI c d).1 (negI c d).2

set_option maxHeartbeats 1000000 in
theorem sub_ival_any (a b c d : Nat) (ha : a < 18446744073709551616) (hb : b < 18446744073709551616) (hc : c < 18446744073709551616) (hd : d < 18446744073709551616) : Gives 117 #[(.agg #[.float .f64 a, .float .f64 b]), (.agg #[.float .f64 c, .float .f64 d])] (.agg #[.float .f64 ((diffI a b c d).1), .float .f64 ((diffI a b c d).2)]) := by
  intro w
  have N := neg_any c d hc hd
  have A := add_ival_any a b _ _ ha hb (negI_lt hc hd).1 (negI_lt hc hd).2
  unfold diffI
  generalize sumI a b (negI c d).1 (negI c d).2 = r at *
  generalize negI c d = q at *
  clear ha hb hc hd
  go_enter Tryz.func117, Tryz.ntmps117
  go_wp2_with (fail)
  go_region_held3 (fun w' => w'.cell? ⟨w.heap.size, 0, none⟩ = some (.float .f64 a) ∧ w'.cell? ⟨w.heap.size, 1, none⟩ = some (.float .f64 b) ∧ w'.cell? ⟨w.heap.size + 1, 0, none⟩ = some (.float .f64 c) ∧ w'.cell? ⟨w.heap.size + 1, 1, none⟩ = some (.float .f64 d))
    (first | (go_simp; done) | go_keep)
    ((first | (go_at_call 118; (with_reducible refine (N.go _).mono ?_); rintro _ _ ⟨n, rfl, rfl⟩) | (go_at_call 121; (with_reducible refine (A.go _).mono ?_); rintro _ _ ⟨n, rfl, rfl⟩)))
  all_goals
    rename_i hHeld
    clear hHeld
    go_wp2
    go_returns
    exact ⟨rfl, by (repeat' first | (with_reducible first | exact Below.refl _ _ | assumption | refine Later.belowOf _ ?_ ?_ | refine Below.alloc ?_ ?_ _ | refine Below.setCell ?_ ?_ _ | refine Below.drewN' _ ?_ | refine Below.drew ?_ | exact Ge.le) | go_size)⟩

set_option maxHeartbeats 1000000 in
theorem ends_ref_any (lo hi : Nat) (hl : lo < 18446744073709551616) (hh : hi < 18446744073709551616) : Gives 120 #[(.float .f64 lo), (.float .f64 hi)] (.agg #[.float .f64 ((endsI lo hi).1), .float .f64 ((endsI lo hi).2)]) := by
  intro w
  have mk := make2_any (minF lo 9218868437227405311) (maxF hi 18442240474082181119) (minF_lt hl (by decide)) (maxF_lt hh (by decide))
  unfold endsI
  generalize makeI (minF lo 9218868437227405311) (maxF hi 18442240474082181119) = r at *
  clear hl hh
  unfold minF maxF at mk
  rcases fot (flt 9218868437227405311 lo) with h0 | h0 <;> rcases fot (flt hi 18442240474082181119) with h1 | h1
  all_goals
    simp only [h0, h1, ite_true, Bool.false_eq_true, ite_false] at mk
    go_enter Tryz.func120, Tryz.ntmps120
    go_wp2_with (go_at_call 42; refine (mk.go _).mono ?_; rintro _ _ ⟨n, rfl, rfl⟩)
    go_returns
    exact ⟨rfl, by (repeat' first | (with_reducible first | exact Below.refl _ _ | assumption | refine Later.belowOf _ ?_ ?_ | refine Below.alloc ?_ ?_ _ | refine Below.setCell ?_ ?_ _ | refine Below.drewN' _ ?_ | refine Below.drew ?_ | exact Ge.le) | go_size)⟩

set_option maxHeartbeats 1000000 in
theorem add_ref_any (a b c d : Nat) (ha : a < 18446744073709551616) (hb : b < 18446744073709551616) (hc : c < 18446744073709551616) (hd : d < 18446744073709551616) : Gives 50 #[(.agg #[.float .f64 a, .float .f64 b]), (.agg #[.float .f64 c, .float .f64 d])] (.agg #[.float .f64 ((sumI a b c d).1), .float .f64 ((sumI a b c d).2)]) := by
  intro w
  have A1 := add1_any a c (-1) ha hc
  have A2 := add1_any b d 1 hb hd
  have nx := none_ref_any a b ha hb
  have ny := none_ref_any c d hc hd
  have en := ends_ref_any _ _ (addS_lt (-1) ha hc) (addS_lt 1 hb hd)
  unfold sumI
  generalize endsI (addS a c (-1)) (addS b d 1) = r at *
  generalize addS a c (-1) = s1 at *
  generalize addS b d 1 = s2 at *
  clear ha hb hc hd
  rcases fot (noneB a b) with h0 | h0 <;> rcases fot (noneB c d) with h1 | h1
  all_goals
    rw [h0] at nx
    rw [h1] at ny
    simp only [h0, h1, Bool.or_false, Bool.or_true, Bool.or_self, ite_true, Bool.false_eq_true, ite_false]
    go_enter Tryz.func50, Tryz.ntmps50
    go_wp2_with (first | (go_at_call 15; first | ((with_reducible refine (nx.go _).mono ?_); rintro _ _ ⟨n, rfl, rfl⟩) | ((with_reducible refine (ny.go _).mono ?_); rintro _ _ ⟨n, rfl, rfl⟩)) | (go_at_call 17; refine (empty2_any.go _).mono ?_; rintro _ _ ⟨n, rfl, rfl⟩))
    first
      | (go_returns; exact ⟨rfl, by (repeat' first | (with_reducible first | exact Below.refl _ _ | assumption | refine Later.belowOf _ ?_ ?_ | refine Below.alloc ?_ ?_ _ | refine Below.setCell ?_ ?_ _ | refine Below.drewN' _ ?_ | refine Below.drew ?_ | exact Ge.le) | go_size)⟩)
      | (go_region_held3 (fun w' => w'.cell? ⟨w.heap.size, 0, none⟩ = some (.float .f64 a) ∧ w'.cell? ⟨w.heap.size, 1, none⟩ = some (.float .f64 b) ∧ w'.cell? ⟨w.heap.size + 1, 0, none⟩ = some (.float .f64 c) ∧ w'.cell? ⟨w.heap.size + 1, 1, none⟩ = some (.float .f64 d))
          (first | (go_simp; done) | go_keep)
          ((first | (go_at_call 108; first | ((with_reducible refine (A1.go _).mono ?_); rintro _ _ ⟨n, rfl, rfl⟩) | ((with_reducible refine (A2.go _).mono ?_); rintro _ _ ⟨n, rfl, rfl⟩)) | (go_at_call 120; (with_reducible refine (en.go _).mono ?_); rintro _ _ ⟨n, rfl, rfl⟩)))
         all_goals
           rename_i hHeld
           clear hHeld
           go_wp2
           go_returns
           exact ⟨rfl, by (repeat' first | (with_reducible first | exact Below.refl _ _ | assumption | refine Later.belowOf _ ?_ ?_ | refine Below.alloc ?_ ?_ _ | refine Below.setCell ?_ ?_ _ | refine Below.drewN' _ ?_ | refine Below.drew ?_ | exact Ge.le) | go_size)⟩)

set_option maxHeartbeats 1000000 in
theorem sub_ref_any (a b c d : Nat) (ha : a < 18446744073709551616) (hb : b < 18446744073709551616) (hc : c < 18446744073709551616) (hd : d < 18446744073709551616) : Gives 48 #[(.agg #[.float .f64 a, .float .f64 b]), (.agg #[.float .f64 c, .float .f64 d])] (.agg #[.float .f64 ((diffI a b c d).1), .float .f64 ((diffI a b c d).2)]) := by
  intro w
  have N := neg_ref_any c d hc hd
  have A := add_ref_any a b _ _ ha hb (negI_lt hc hd).1 (negI_lt hc hd).2
  unfold diffI
  generalize sumI a b (negI c d).1 (negI c d).2 = r at *
  generalize negI c d = q at *
  clear ha hb hc hd
  go_enter Tryz.func48, Tryz.ntmps48
  go_wp2_with (fail)
  go_region_held3 (fun w' => w'.cell? ⟨w.heap.size, 0, none⟩ = some (.float .f64 a) ∧ w'.cell? ⟨w.heap.size, 1, none⟩ = some (.float .f64 b) ∧ w'.cell? ⟨w.heap.size + 1, 0, none⟩ = some (.float .f64 c) ∧ w'.cell? ⟨w.heap.size + 1, 1, none⟩ = some (.float .f64 d))
    (first | (go_simp; done) | go_keep)
    ((first | (go_at_call 43; (with_reducible refine (N.go _).mono ?_); rintro _ _ ⟨n, rfl, rfl⟩) | (go_at_call 50; (with_reducible refine (A.go _).mono ?_); rintro _ _ ⟨n, rfl, rfl⟩)))
  all_goals
    rename_i hHeld
    clear hHeld
    go_wp2
    go_returns
    exact ⟨rfl, by (repeat' first | (with_reducible first | exact Below.refl _ _ | assumption | refine Later.belowOf _ ?_ ?_ | refine Below.alloc ?_ ?_ _ | refine Below.setCell ?_ ?_ _ | refine Below.drewN' _ ?_ | refine Below.drew ?_ | exact Ge.le) | go_size)⟩
end Go.Proofs.YtkmgfbhnioojhaaGreat

/- Contracts: intervals' sizes. -/
namespace Go.Proofs.YtkmgfbhnioojhaaGreat
set_option linter.unusedSimpArgs false
set_option linter.unusedVariables false
open Go.RowKit
open Fl

/-! ### Greatest and least amount -/
def magI (a b : Nat) : Nat := if noneB a b then 0 else maxF (rung a) (rung b)
def migI (a b : Nat) : Nat := if noneB a b || (fle a 0 && fle 0 b) then 0 else minF (rung a) (rung b)

theorem rung_inj (x y : Nat) (h : idx (rung x) = idx (rung y)) : rung x = rung y := by rw [idx_rung, idx_rung] at h; omega

set_option maxHeartbeats 1000000 in
theorem mag_any (a b : Nat) (ha : a < 18446744073709551616) (hb : b < 18446744073709551616) : Gives 182 #[(.agg #[.float .f64 a, .float .f64 b])] (.float .f64 (magI a b)) := by
  intro w
  have a1 := abs_any a ha
  have a2 := abs_any b hb
  unfold magI
  clear ha hb
  cases h0 : noneB a b
  · obtain ⟨n1, n2⟩ := nums_of h0
    have m1 := fun (w : World) ts t => run_max_f (P := Tryz.prog) w ts t (rung a) (rung b) (by rw [nan_rung]; exact n1) (by rw [nan_rung]; exact n2) (rung_inj a b)
    generalize maxF (rung a) (rung b) = r at *
    clear n1 n2
    simp only [h0, ite_true, Bool.false_eq_true, ite_false]
    go_enter Tryz.func182, Tryz.ntmps182
    go_wp2_with (go_at_call 124; refine Calls.mono (go_none1 (a := a) (b := b) (by simp [go_sem]) (by simp [go_sem])) ?_; rintro _ _ ⟨n, rfl, rfl⟩)
    go_region_held3 (fun w' => w'.cell? ⟨w.heap.size, 0, none⟩ = some (.float .f64 a) ∧ w'.cell? ⟨w.heap.size, 1, none⟩ = some (.float .f64 b))
      (first | (go_simp; done) | go_keep)
      ((go_at_call 148; first | ((with_reducible refine (a1.go _).mono ?_); rintro _ _ ⟨n, rfl, rfl⟩) | ((with_reducible refine (a2.go _).mono ?_); rintro _ _ ⟨n, rfl, rfl⟩)))
    all_goals
      rename_i hHeld
      clear hHeld
      go_wp2
      go_returns
      exact ⟨rfl, by (repeat' first | (with_reducible first | exact Below.refl _ _ | assumption | refine Later.belowOf _ ?_ ?_ | refine Below.alloc ?_ ?_ _ | refine Below.setCell ?_ ?_ _ | refine Below.drewN' _ ?_ | refine Below.drew ?_ | exact Ge.le) | go_size)⟩
  · simp only [h0, ite_true, Bool.false_eq_true, ite_false]
    go_enter Tryz.func182, Tryz.ntmps182
    go_wp2_with (go_at_call 124; refine Calls.mono (go_none1 (a := a) (b := b) (by simp [go_sem]) (by simp [go_sem])) ?_; rintro _ _ ⟨n, rfl, rfl⟩)
    go_returns
    exact ⟨rfl, by (repeat' first | (with_reducible first | exact Below.refl _ _ | assumption | refine Later.belowOf _ ?_ ?_ | refine Below.alloc ?_ ?_ _ | refine Below.setCell ?_ ?_ _ | refine Below.drewN' _ ?_ | refine Below.drew ?_ | exact Ge.le) | go_size)⟩

set_option maxHeartbeats 1000000 in
theorem mig_any (a b : Nat) (ha : a < 18446744073709551616) (hb : b < 18446744073709551616) : Gives 280 #[(.agg #[.float .f64 a, .float .f64 b])] (.float .f64 (migI a b)) := by
  intro w
  have a1 := abs_any a ha
  have a2 := abs_any b hb
  unfold migI
  clear ha hb
  cases h0 : noneB a b
  · obtain ⟨n1, n2⟩ := nums_of h0
    have m1 := fun (w : World) ts t => run_min_f (P := Tryz.prog) w ts t (rung a) (rung b) (by rw [nan_rung]; exact n1) (by rw [nan_rung]; exact n2) (rung_inj a b)
    generalize minF (rung a) (rung b) = r at *
    clear n1 n2
    rcases fot (fle a 0) with h1 | h1 <;> rcases fot (fle 0 b) with h2 | h2
    all_goals
      simp only [h0, h1, h2, Bool.and_self, Bool.and_true, Bool.and_false, Bool.true_and, Bool.false_and, Bool.or_false, Bool.or_true, Bool.or_self, ite_true, Bool.false_eq_true, ite_false]
      go_enter Tryz.func280, Tryz.ntmps280
      go_wp2_with (go_at_call 124; refine Calls.mono (go_none1 (a := a) (b := b) (by simp [go_sem]) (by simp [go_sem])) ?_; rintro _ _ ⟨n, rfl, rfl⟩)
      first
        | (go_returns; exact ⟨rfl, by (repeat' first | (with_reducible first | exact Below.refl _ _ | assumption | refine Later.belowOf _ ?_ ?_ | refine Below.alloc ?_ ?_ _ | refine Below.setCell ?_ ?_ _ | refine Below.drewN' _ ?_ | refine Below.drew ?_ | exact Ge.le) | go_size)⟩)
        | (go_region_held3 (fun w' => w'.cell? ⟨w.heap.size, 0, none⟩ = some (.float .f64 a) ∧ w'.cell? ⟨w.heap.size, 1, none⟩ = some (.float .f64 b))
             (first | (go_simp; done) | go_keep)
             ((go_at_call 148; first | ((with_reducible refine (a1.go _).mono ?_); rintro _ _ ⟨n, rfl, rfl⟩) | ((with_reducible refine (a2.go _).mono ?_); rintro _ _ ⟨n, rfl, rfl⟩)))
           all_goals
             rename_i hHeld
             clear hHeld
             go_wp2
             go_returns
             exact ⟨rfl, by (repeat' first | (with_reducible first | exact Below.refl _ _ | assumption | refine Later.belowOf _ ?_ ?_ | refine Below.alloc ?_ ?_ _ | refine Below.setCell ?_ ?_ _ | refine Below.drewN' _ ?_ | refine Below.drew ?_ | exact Ge.le) | go_size)⟩)
  · simp only [h0, Bool.true_or, ite_true, Bool.false_eq_true, ite_false]
    go_enter Tryz.func280, Tryz.ntmps280
    go_wp2_with (go_at_call 124; refine Calls.mono (go_none1 (a := a) (b := b) (by simp [go_sem]) (by simp [go_sem])) ?_; rintro _ _ ⟨n, rfl, rfl⟩)
    go_returns
    exact ⟨rfl, by (repeat' first | (with_reducible first | exact Below.refl _ _ | assumption | refine Later.belowOf _ ?_ ?_ | refine Below.alloc ?_ ?_ _ | refine Below.setCell ?_ ?_ _ | refine Below.drewN' _ ?_ | refine Below.drew ?_ | exact Ge.le) | go_size)⟩

/-! ### Width -/
theorem pinf_of {b : Nat} (hb : b < 18446744073709551616) (h : feq b 9218868437227405312 = true) : b = 9218868437227405312 :=
  idx_inj hb (by decide) (by decide) (feq_true.1 h).2.2
theorem ninf_of {b : Nat} (hb : b < 18446744073709551616) (h : feq b 18442240474082181120 = true) : b = 18442240474082181120 :=
  idx_inj hb (by decide) (by decide) (feq_true.1 h).2.2

end Go.Proofs.YtkmgfbhnioojhaaGreat

/- Contracts: intervals' middles. -/
namespace Go.Proofs.YtkmgfbhnioojhaaGreat
set_option linter.unusedSimpArgs false
set_option linter.unusedVariables false
open Go.RowKit
open Fl

end Go.Proofs.YtkmgfbhnioojhaaGreat
