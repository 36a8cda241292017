/- Contracts: intervals' negatives. -/
import Derived.Test.YtpkgpkabmechkaaGreatW1
set_option linter.unusedSimpArgs false
set_option linter.unusedVariables false
namespace Go.Proofs.YtpkgpkabmechkaaGreat.Fl
open Go

theorem fzero_add {x : Nat} (hx : x < 18446744073709551616) (h : nan x = false) : FloatKind.f64.format.add 0 x = some (cl x) := by
  rcases Nat.lt_or_eq_of_le (nan_false.1 h) with h1 | h1
  · rw [← fadd_zero hx h, fadd_eq (by decide) h1, fadd_eq h1 (by decide), Int.add_comm]
    congr 2
    unfold sumNeg
    rw [Int.add_comm, Bool.and_comm]
  · unfold Ieee.Format.add
    rw [read_eq, read_eq, if_neg (by omega : ¬ rung x < INFR), if_pos h1, if_pos (show rung 0 < INFR by decide)]
    simp only [Ieee.Datum.sum, Option.map_some, Ieee.Format.write, fmt_inf, fword]
    congr 1
    unfold cl
    rw [if_neg (fun hh => by have := (idx_zero_iff x).1 hh; rw [h1] at this; exact absurd this (by decide)), ← h1]
    exact word_of hx

theorem read_fneg (x : Nat) : FloatKind.f64.format.read (fneg x) = (FloatKind.f64.format.read x).opposite := by
  rw [read_eq, read_eq, rung_fneg, sgn_fneg]
  split
  · rfl
  · split <;> rfl

theorem fzero_sub {x : Nat} (h : nan x = false) : floatBits .sub .f64 0 x = some (cl (fneg x)) := by
  rw [← fzero_add (fneg_lt x) (by rw [nan_fneg]; exact h)]
  unfold floatBits
  simp only [Ieee.Format.sub, Ieee.Format.add, read_fneg]

/-- 0 - x, in the walk's words. -/
theorem fop_zero_sub {x : Nat} (w : World) (h : nan x = false) : fop .sub 0 x w = cl (fneg x) ∧ nd .sub 0 x = 0 :=
  ⟨fop_some w (fzero_sub h), by unfold nd; rw [fzero_sub h]; rfl⟩
/-- The greater of two floats, neither of which is no number, and of which no two are the noughts. -/
def maxF (a b : Nat) : Nat := if flt a b then b else a
def minF (a b : Nat) : Nat := if flt b a then b else a
theorem run_max_f {P : Program} (w : World) (ts : Array TypeId) (t : TypeId) (a b : Nat) (ha : nan a = false) (hb : nan b = false) (he : idx a = idx b → a = b) :
    (Builtin.max_ ts t #[.float .f64 a, .float .f64 b]).run P w = .ok (.float .f64 (maxF a b)) w := by
  have o := order_eq a b
  rw [ha, hb] at o
  unfold maxF flt
  rw [ha, hb]
  simp only [compare, compareOfLessAndEq, Bool.false_or, Bool.or_self, Bool.false_eq_true, if_false] at o
  by_cases h1 : idx a < idx b
  · rw [if_pos h1] at o
    simp [Builtin.max_, Builtin.max2, o, h1]
  · by_cases h2 : idx a = idx b
    · have := he h2
      subst this
      rw [if_neg h1, if_pos rfl] at o
      simp [Builtin.max_, Builtin.max2, o]
    · rw [if_neg h1, if_neg h2] at o
      simp [Builtin.max_, Builtin.max2, o, h1]
theorem run_min_f {P : Program} (w : World) (ts : Array TypeId) (t : TypeId) (a b : Nat) (ha : nan a = false) (hb : nan b = false) (he : idx a = idx b → a = b) :
    (Builtin.min_ ts t #[.float .f64 a, .float .f64 b]).run P w = .ok (.float .f64 (minF a b)) w := by
  have o := order_eq a b
  rw [ha, hb] at o
  unfold minF flt
  rw [ha, hb]
  simp only [compare, compareOfLessAndEq, Bool.false_or, Bool.or_self, Bool.false_eq_true, if_false] at o
  by_cases h1 : idx a < idx b
  · rw [if_pos h1] at o
    have : ¬ idx b < idx a := by omega
    simp [Builtin.min_, Builtin.min2, o, h1, this]
  · by_cases h2 : idx a = idx b
    · have := he h2
      subst this
      rw [if_neg h1, if_pos rfl] at o
      simp [Builtin.min_, Builtin.min2, o]
    · rw [if_neg h1, if_neg h2] at o
      have : idx b < idx a := by omega
      simp [Builtin.min_, Builtin.min2, o, h1, this]
theorem cl_cl (x : Nat) : cl (cl x) = cl x := by
  unfold cl; split <;> simp [*]
end Go.Proofs.YtpkgpkabmechkaaGreat.Fl
namespace Go.Proofs.YtpkgpkabmechkaaGreat
open Go.RowKit
open Fl

/-- A negative. -/
def negI (a b : Nat) : Nat × Nat := if noneB a b then (9218868437227405312, 18442240474082181120) else makeI (fneg b) (fneg a)

set_option maxHeartbeats 1000000 in
theorem neg_any (a b : Nat) (ha : a < 18446744073709551616) (hb : b < 18446744073709551616) : Gives 76 #[(.agg #[.float .f64 a, .float .f64 b])] (.agg #[.float .f64 ((negI a b).1), .float .f64 ((negI a b).2)]) := by
  intro w
  have mk := make_any (fneg b) (fneg a) (fneg_lt b) (fneg_lt a)
  have na := fneg_eq ha
  have nb := fneg_eq hb
  unfold negI
  generalize makeI (fneg b) (fneg a) = r at *
  clear ha hb
  refine (byB (noneB a b) (fun hc0 => ?_) (fun hc0 => ?_))
  all_goals
    simp only [hc0, ite_true, Bool.false_eq_true, ite_false]
    go_enter Tryz.func76, Tryz.ntmps76
    go_wp2_with (first | (go_at_call 106; refine (go_none1 (a := a) (b := b) (by go_simp) (by go_simp)).mono ?_; rintro _ _ ⟨n, rfl, rfl⟩) | (go_at_call 135; refine (empty_any.go _).mono ?_; rintro _ _ ⟨n, rfl, rfl⟩) | (go_at_call 136; refine (mk.go _).mono ?_; rintro _ _ ⟨n, rfl, rfl⟩))
    go_returns
    exact ⟨rfl, by (repeat' (first | (with_reducible exact Below.refl _ _) | (with_reducible assumption) | (with_reducible refine Later.belowOf _ ?_ ?_) | (with_reducible refine Below.alloc ?_ ?_ _) | (with_reducible refine Below.setCell ?_ ?_ _) | (with_reducible refine Below.drewN' _ ?_) | (with_reducible refine Below.drew ?_) | (with_reducible exact Ge.le) | go_size))⟩

theorem makeI_cl (a b : Nat) : makeI (cl a) (cl b) = makeI a b := by unfold makeI; rw [cl_cl, cl_cl]
theorem nums_of {a b : Nat} (h : noneB a b = false) : nan a = false ∧ nan b = false := by
  unfold noneB at h
  rw [Bool.or_eq_false_iff] at h
  have hr : rightB a b = true := notB _ h.1
  constructor
  · cases hn : nan a
    · rfl
    · rw [rightB_nan (Or.inl hn)] at hr; cases hr
  · cases hn : nan b
    · rfl
    · rw [rightB_nan (Or.inr hn)] at hr; cases hr

set_option maxHeartbeats 1000000 in
theorem neg_ref_any (a b : Nat) (ha : a < 18446744073709551616) (hb : b < 18446744073709551616) : Gives 20 #[(.agg #[.float .f64 a, .float .f64 b])] (.agg #[.float .f64 ((negI a b).1), .float .f64 ((negI a b).2)]) := by
  intro w
  have mk := make2_any (cl (fneg b)) (cl (fneg a)) (cl_lt (fneg_lt b)) (cl_lt (fneg_lt a))
  have nn := none_ref_any a b ha hb
  rw [makeI_cl] at mk
  unfold negI
  cases hc0 : noneB a b
  · have f1 := fun w => fop_zero_sub w (nums_of hc0).1
    have f2 := fun w => fop_zero_sub w (nums_of hc0).2
    rw [hc0] at nn
    generalize makeI (fneg b) (fneg a) = r at *
    clear ha hb
    simp only [hc0, ite_true, Bool.false_eq_true, ite_false]
    have g1 := fun w => (f1 w).1
    have g2 := fun w => (f2 w).1
    have g3 := (f1 w).2
    have g4 := (f2 w).2
    clear f1 f2
    go_enter Tryz.func20, Tryz.ntmps20
    go_wp2_with (first | (go_at_call 68; refine (nn.go _).mono ?_; rintro _ _ ⟨n, rfl, rfl⟩) | (go_at_call 18; refine (mk.go _).mono ?_; rintro _ _ ⟨n, rfl, rfl⟩))
    go_returns
    exact ⟨rfl, by (repeat' (first | (with_reducible exact Below.refl _ _) | (with_reducible assumption) | (with_reducible refine Later.belowOf _ ?_ ?_) | (with_reducible refine Below.alloc ?_ ?_ _) | (with_reducible refine Below.setCell ?_ ?_ _) | (with_reducible refine Below.drewN' _ ?_) | (with_reducible refine Below.drew ?_) | (with_reducible exact Ge.le) | go_size))⟩
  · rw [hc0] at nn
    clear ha hb mk
    simp only [hc0, ite_true, Bool.false_eq_true, ite_false]
    go_enter Tryz.func20, Tryz.ntmps20
    go_wp2_with (first | (go_at_call 68; refine (nn.go _).mono ?_; rintro _ _ ⟨n, rfl, rfl⟩) | (go_at_call 65; refine (empty2_any.go _).mono ?_; rintro _ _ ⟨n, rfl, rfl⟩))
    go_returns
    exact ⟨rfl, by (repeat' (first | (with_reducible exact Below.refl _ _) | (with_reducible assumption) | (with_reducible refine Later.belowOf _ ?_ ?_) | (with_reducible refine Below.alloc ?_ ?_ _) | (with_reducible refine Below.setCell ?_ ?_ _) | (with_reducible refine Below.drewN' _ ?_) | (with_reducible refine Below.drew ?_) | (with_reducible exact Ge.le) | go_size))⟩

theorem plus_zero {a : Nat} (ha : a < 18446744073709551616) (pa : plusB a = true) (na : nan a = false) (h : idx a = 0) : a = 0 := by
  rw [plusB_eq ha] at pa
  have e : feq a 0 = true := by unfold feq; rw [na, show nan 0 = false by decide, h, show idx 0 = 0 by decide]; rfl
  rw [e] at pa
  simpa using pa
theorem plus_inj {a b : Nat} (ha : a < 18446744073709551616) (hb : b < 18446744073709551616) (na : nan a = false) (nb : nan b = false) (pa : plusB a = true) (pb : plusB b = true) (h : idx a = idx b) : a = b := by
  by_cases h0 : idx a = 0
  · rw [plus_zero ha pa na h0, plus_zero hb pb nb (by rw [← h]; exact h0)]
  · by_cases h1 : 0 ≤ idx a
    · have e1 := bits_small h1 h0 ha
      have e2 := bits_small (by rw [← h]; exact h1) (by rw [← h]; exact h0) hb
      omega
    · have e1 := bits_great (by omega : idx a < 0) ha
      have e2 := bits_great (by omega : idx b < 0) hb
      omega
theorem plus_of {a b : Nat} (h : noneB a b = false) : plusB a = true ∧ plusB b = true := by
  unfold noneB at h
  rw [Bool.or_eq_false_iff] at h
  have hr : rightB a b = true := notB _ h.1
  unfold rightB at hr
  rw [h.2] at hr
  simp only [Bool.false_or, Bool.and_eq_true] at hr
  exact ⟨hr.2.2.2.1, hr.2.2.2.2⟩

theorem sides_of {a b : Nat} (h : noneB a b = false) : flt a 9218868437227405312 = true ∧ flt 18442240474082181120 b = true := by
  unfold noneB at h
  rw [Bool.or_eq_false_iff] at h
  have hr : rightB a b = true := notB _ h.1
  unfold rightB at hr
  rw [h.2] at hr
  simp only [Bool.false_or, Bool.and_eq_true] at hr
  exact ⟨hr.2.1, hr.2.2.1⟩

/-- What both hold. -/
def meetI (a b c d : Nat) : Nat × Nat := if noneB a b || noneB c d then (9218868437227405312, 18442240474082181120) else makeI (maxF a c) (minF b d)

theorem maxF_lt {a b : Nat} (ha : a < 18446744073709551616) (hb : b < 18446744073709551616) : maxF a b < 18446744073709551616 := by unfold maxF; split <;> assumption
theorem minF_lt {a b : Nat} (ha : a < 18446744073709551616) (hb : b < 18446744073709551616) : minF a b < 18446744073709551616 := by unfold minF; split <;> assumption

set_option maxHeartbeats 1000000 in
theorem meet_any (a b c d : Nat) (ha : a < 18446744073709551616) (hb : b < 18446744073709551616) (hc : c < 18446744073709551616) (hd : d < 18446744073709551616) : Gives 154 #[(.agg #[.float .f64 a, .float .f64 b]), (.agg #[.float .f64 c, .float .f64 d])] (.agg #[.float .f64 ((meetI a b c d).1), .float .f64 ((meetI a b c d).2)]) := by
  intro w
  have mk := make_any (maxF a c) (minF b d) (maxF_lt ha hc) (minF_lt hb hd)
  unfold meetI
  generalize makeI (maxF a c) (minF b d) = r at *
  cases h0 : noneB a b || noneB c d
  · have h0' := h0
    rw [Bool.or_eq_false_iff] at h0'
    obtain ⟨n1, n2⟩ := nums_of h0'.1
    obtain ⟨n3, n4⟩ := nums_of h0'.2
    obtain ⟨p1, p2⟩ := plus_of h0'.1
    obtain ⟨p3, p4⟩ := plus_of h0'.2
    have m1 := fun (w : World) ts t => run_max_f (P := Tryz.prog) w ts t a c n1 n3 (plus_inj ha hc n1 n3 p1 p3)
    have m2 := fun (w : World) ts t => run_min_f (P := Tryz.prog) w ts t b d n2 n4 (plus_inj hb hd n2 n4 p2 p4)
    clear ha hb hc hd n1 n2 n3 n4 p1 p2 p3 p4 h0'
    simp only [h0, ite_true, Bool.false_eq_true, ite_false]
    go_enter Tryz.func154, Tryz.ntmps154
    go_wp2_with (first | (go_at_call 106; refine Calls.mono (none2_any a b c d _ _ inferInstance (by simp [go_sem]) (by simp [go_sem]) (by simp [go_sem]) (by simp [go_sem])) ?_; rintro _ _ ⟨n, rfl, rfl⟩) | (go_at_call 136; refine (mk.go _).mono ?_; rintro _ _ ⟨n, rfl, rfl⟩))
    go_returns
    exact ⟨rfl, by (repeat' (first | (with_reducible exact Below.refl _ _) | (with_reducible assumption) | (with_reducible refine Later.belowOf _ ?_ ?_) | (with_reducible refine Below.alloc ?_ ?_ _) | (with_reducible refine Below.setCell ?_ ?_ _) | (with_reducible refine Below.drewN' _ ?_) | (with_reducible refine Below.drew ?_) | (with_reducible exact Ge.le) | go_size))⟩
  · clear ha hb hc hd mk
    simp only [h0, ite_true, Bool.false_eq_true, ite_false]
    go_enter Tryz.func154, Tryz.ntmps154
    go_wp2_with (first | (go_at_call 106; refine Calls.mono (none2_any a b c d _ _ inferInstance (by simp [go_sem]) (by simp [go_sem]) (by simp [go_sem]) (by simp [go_sem])) ?_; rintro _ _ ⟨n, rfl, rfl⟩) | (go_at_call 135; refine (empty_any.go _).mono ?_; rintro _ _ ⟨n, rfl, rfl⟩))
    go_returns
    exact ⟨rfl, by (repeat' (first | (with_reducible exact Below.refl _ _) | (with_reducible assumption) | (with_reducible refine Later.belowOf _ ?_ ?_) | (with_reducible refine Below.alloc ?_ ?_ _) | (with_reducible refine Below.setCell ?_ ?_ _) | (with_reducible refine Below.drewN' _ ?_) | (with_reducible refine Below.drew ?_) | (with_reducible exact Ge.le) | go_size))⟩

theorem idx_inj {a b : Nat} (ha : a < 18446744073709551616) (hb : b < 18446744073709551616) (h0 : idx b ≠ 0) (h : idx a = idx b) : a = b := by
  by_cases h1 : 0 ≤ idx b
  · have e1 := bits_small (by omega : 0 ≤ idx a) (by omega) ha
    have e2 := bits_small h1 h0 hb
    omega
  · have e1 := bits_great (by omega : idx a < 0) ha
    have e2 := bits_great (by omega : idx b < 0) hb
    omega

/-- An interval's ends, whatever they are. -/
def endsI (lo hi : Nat) : Nat × Nat := makeI (minF lo 9218868437227405311) (maxF hi 18442240474082181119)

set_option maxHeartbeats 1000000 in
theorem ends_any (lo hi : Nat) (hl : lo < 18446744073709551616) (hh : hi < 18446744073709551616) (n1 : nan lo = false) (n2 : nan hi = false) : Gives 148 #[(.float .f64 lo), (.float .f64 hi)] (.agg #[.float .f64 ((endsI lo hi).1), .float .f64 ((endsI lo hi).2)]) := by
  intro w
  have mk := make_any (minF lo 9218868437227405311) (maxF hi 18442240474082181119) (minF_lt hl (by decide)) (maxF_lt hh (by decide))
  have m1 := fun (w : World) ts t => run_min_f (P := Tryz.prog) w ts t lo 9218868437227405311 n1 (by decide) (idx_inj hl (by decide) (by decide))
  have m2 := fun (w : World) ts t => run_max_f (P := Tryz.prog) w ts t hi 18442240474082181119 n2 (by decide) (idx_inj hh (by decide) (by decide))
  unfold endsI
  generalize makeI (minF lo 9218868437227405311) (maxF hi 18442240474082181119) = r at *
  generalize minF lo 9218868437227405311 = q1 at *
  generalize maxF hi 18442240474082181119 = q2 at *
  clear hl hh n1 n2
  go_enter Tryz.func148, Tryz.ntmps148
  go_wp2_with (go_at_call 136; refine (mk.go _).mono ?_; rintro _ _ ⟨n, rfl, rfl⟩)
  go_returns
  exact ⟨rfl, by (repeat' (first | (with_reducible exact Below.refl _ _) | (with_reducible assumption) | (with_reducible refine Later.belowOf _ ?_ ?_) | (with_reducible refine Below.alloc ?_ ?_ _) | (with_reducible refine Below.setCell ?_ ?_ _) | (with_reducible refine Below.drewN' _ ?_) | (with_reducible refine Below.drew ?_) | (with_reducible exact Ge.le) | go_size))⟩

set_option maxHeartbeats 1000000 in
theorem meet_ref_any (a b c d : Nat) (ha : a < 18446744073709551616) (hb : b < 18446744073709551616) (hc : c < 18446744073709551616) (hd : d < 18446744073709551616) : Gives 239 #[(.agg #[.float .f64 a, .float .f64 b]), (.agg #[.float .f64 c, .float .f64 d])] (.agg #[.float .f64 ((meetI a b c d).1), .float .f64 ((meetI a b c d).2)]) := by
  intro w
  have mk := make2_any (maxF a c) (minF b d) (maxF_lt ha hc) (minF_lt hb hd)
  have nx := none_ref_any a b ha hb
  have ny := none_ref_any c d hc hd
  clear ha hb hc hd
  have em : meetI a b c d = if noneB a b || noneB c d then (9218868437227405312, 18442240474082181120) else makeI (maxF a c) (minF b d) := rfl
  rw [em]
  generalize makeI (maxF a c) (minF b d) = r at *
  clear em
  unfold maxF minF at mk
  rcases fot (noneB a b) with h0 | h0 <;> rcases fot (noneB c d) with h1 | h1 <;> rcases fot (flt a c) with h2 | h2 <;> rcases fot (flt d b) with h3 | h3
  all_goals
    rw [h0] at nx
    rw [h1] at ny
    simp only [h2, h3, ite_true, Bool.false_eq_true, ite_false] at mk
    simp only [h0, h1, Bool.or_false, Bool.or_true, Bool.or_self, ite_true, Bool.false_eq_true, ite_false]
    go_enter Tryz.func239, Tryz.ntmps239
    go_wp2_with (first | (go_at_call 68; first | ((with_reducible refine (nx.go _).mono ?_); rintro _ _ ⟨n, rfl, rfl⟩) | ((with_reducible refine (ny.go _).mono ?_); rintro _ _ ⟨n, rfl, rfl⟩)) | (go_at_call 18; refine (mk.go _).mono ?_; rintro _ _ ⟨n, rfl, rfl⟩) | (go_at_call 65; refine (empty2_any.go _).mono ?_; rintro _ _ ⟨n, rfl, rfl⟩))
    go_returns
    exact ⟨rfl, by (repeat' (first | (with_reducible exact Below.refl _ _) | (with_reducible assumption) | (with_reducible refine Later.belowOf _ ?_ ?_) | (with_reducible refine Below.alloc ?_ ?_ _) | (with_reducible refine Below.setCell ?_ ?_ _) | (with_reducible refine Below.drewN' _ ?_) | (with_reducible refine Below.drew ?_) | (with_reducible exact Ge.le) | go_size))⟩
end Go.Proofs.YtpkgpkabmechkaaGreat
