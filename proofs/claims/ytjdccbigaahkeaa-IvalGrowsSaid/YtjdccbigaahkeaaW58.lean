/- Plain: sums, products and quotients of numbers within intervals lie within these' sums, products and quotients. -/
import Derived.Test.YtjdccbigaahkeaaW57
import Derived.Test.YtjdccbigaahkeaaW51
namespace Go.Proofs.Ytjdccbigaahkeaa
set_option linter.unusedSimpArgs false
set_option linter.unusedVariables false
open Go.RowKit
open Fl

theorem idx_rnd (S : Int) (D : Nat) (dir : Int) : idx (rnd S D dir) = plc S D dir := by
  rw [rnd_eq]
  exact (nan_bits (plc_le S D dir).1 (plc_le S D dir).2).2.1
/-- A number's sign. -/
def sg (x : Nat) : Int := if idx x < 0 then -1 else if idx x = 0 then 0 else 1
theorem sg_cases (x : Nat) : (idx x < 0 ∧ sg x = -1) ∨ (idx x = 0 ∧ sg x = 0) ∨ (0 < idx x ∧ sg x = 1) := by
  unfold sg
  split
  · exact Or.inl ⟨by assumption, rfl⟩
  · split
    · exact Or.inr (Or.inl ⟨by assumption, rfl⟩)
    · exact Or.inr (Or.inr ⟨by omega, rfl⟩)
theorem inf_cases {x : Nat} (nx : nan x = false) (h : finB x = false) : (idx x = -9218868437227405312 ∧ sgn x = true ∧ sg x = -1) ∨ (idx x = 9218868437227405312 ∧ sgn x = false ∧ sg x = 1) := by
  have e := idx_inf_of nx h
  unfold sg
  cases hs : sgn x <;> rw [hs] at e <;> simp at e
  · right; rw [e]; exact ⟨rfl, rfl, by decide⟩
  · left; rw [e]; exact ⟨rfl, rfl, by decide⟩
theorem sgn_idx {x : Nat} (h : idx x ≠ 0) : sgn x = decide (idx x < 0) := by
  unfold idx at *
  cases hs : sgn x
  · simp
  · rw [hs] at h; simp at h ⊢; omega

theorem mul_fin {p q : Nat} (dir : Int) (fp : finB p = true) (fq : finB q = true) : idx (mulS p q dir) = plc (val p * val q) (pw 1074) dir := by
  have np : nan p = false := nan_false.2 (by have := finB_rung.1 fp; omega)
  have nq : nan q = false := nan_false.2 (by have := finB_rung.1 fq; omega)
  unfold mulS
  rw [np, nq, fp, fq]
  simp only [Bool.or_self, Bool.false_eq_true, if_false, Bool.and_self, if_true]
  split
  · rename_i h
    have : val p * val q = 0 := by
      rcases h with h | h
      · rw [(val_eq_zero p).2 h, Int.zero_mul]
      · rw [(val_eq_zero q).2 h, Int.mul_zero]
    rw [this, plc_zero _ (pw_pos _)]; rfl
  · exact idx_rnd _ _ _
theorem mul_inf {p q : Nat} (dir : Int) (np : nan p = false) (nq : nan q = false) (h : (finB p && finB q) = false) : idx (mulS p q dir) = sg p * sg q * 9218868437227405312 := by
  unfold mulS
  rw [np, nq, h]
  simp only [Bool.or_self, Bool.false_eq_true, if_false]
  rcases sg_cases p with ⟨p1, p2⟩ | ⟨p1, p2⟩ | ⟨p1, p2⟩ <;> rcases sg_cases q with ⟨q1, q2⟩ | ⟨q1, q2⟩ | ⟨q1, q2⟩ <;> rw [p2, q2]
  all_goals
    first
      | (rw [if_pos (by first | (left; exact (idx_zero_iff p).1 p1) | (right; exact (idx_zero_iff q).1 q1))]; rfl)
      | (rw [if_neg (by rintro (h | h); exact absurd ((idx_zero_iff p).2 h) (by omega); exact absurd ((idx_zero_iff q).2 h) (by omega)), idx_infW, sgn_idx (by omega : idx p ≠ 0), sgn_idx (by omega : idx q ≠ 0)]
         first | simp [p1, q1]; done | (have := Int.lt_asymm p1; have := Int.lt_asymm q1; simp [*]))

theorem val_lt_of {p p' : Nat} (h : idx p ≤ idx p') : val p ≤ val p' := val_le.2 h

/-- The greater a factor is, the greater is the product by what is not below nought. -/
theorem mul_mono {p p' q : Nat} (dir : Int) (np : nan p = false) (np' : nan p' = false) (nq : nan q = false) (h : idx p ≤ idx p') :
    (0 ≤ idx q → idx (mulS p q dir) ≤ idx (mulS p' q dir)) ∧ (idx q ≤ 0 → idx (mulS p' q dir) ≤ idx (mulS p q dir)) := by
  have L := idx_le (can_mul dir np nq).num
  have L' := idx_le (can_mul dir np' nq).num
  have vs := val_sign q
  have hv := val_lt_of h
  cases fq : finB q
  · have e1 := mul_inf dir np nq (by rw [fq]; simp)
    have e2 := mul_inf dir np' nq (by rw [fq]; simp)
    rw [e1, e2]
    rcases sg_cases p with ⟨p1, p2⟩ | ⟨p1, p2⟩ | ⟨p1, p2⟩ <;> rcases sg_cases p' with ⟨p3, p4⟩ | ⟨p3, p4⟩ | ⟨p3, p4⟩ <;> rcases sg_cases q with ⟨q1, q2⟩ | ⟨q1, q2⟩ | ⟨q1, q2⟩ <;> rw [p2, p4, q2] <;> omega
  · cases fp : finB p
    · have e1 := mul_inf dir np nq (by rw [fp]; rfl)
      rcases inf_cases np fp with ⟨i1, _, i2⟩ | ⟨i1, _, i2⟩
      · rcases sg_cases q with ⟨q1, q2⟩ | ⟨q1, q2⟩ | ⟨q1, q2⟩
        · rw [e1, i2, q2]; omega
        · have z1 : idx (mulS p' q dir) = 0 := by
            unfold mulS
            rw [np', nq, if_neg (by simp), if_pos (Or.inr ((idx_zero_iff q).1 q1))]; rfl
          rw [e1, i2, q2, z1]; omega
        · rw [e1, i2, q2]; omega
      · have fp' : finB p' = false := by
          cases hh : finB p'
          · rfl
          · have := fin_idx hh; omega
        have e2 := mul_inf dir np' nq (by rw [fp']; rfl)
        rcases inf_cases np' fp' with ⟨j1, _, j2⟩ | ⟨j1, _, j2⟩
        · omega
        · rw [e1, e2, i2, j2]; omega
    · cases fp' : finB p'
      · have e2 := mul_inf dir np' nq (by rw [fp']; rfl)
        rcases inf_cases np' fp' with ⟨j1, _, j2⟩ | ⟨j1, _, j2⟩
        · have := fin_idx fp; omega
        · rcases sg_cases q with ⟨q1, q2⟩ | ⟨q1, q2⟩ | ⟨q1, q2⟩
          · rw [e2, j2, q2]; omega
          · have z1 : idx (mulS p q dir) = 0 := by
              unfold mulS
              rw [np, nq, if_neg (by simp), if_pos (Or.inr ((idx_zero_iff q).1 q1))]; rfl
            rw [e2, j2, q2, z1]; omega
          · rw [e2, j2, q2]; omega
      · rw [mul_fin dir fp fq, mul_fin dir fp' fq]
        refine ⟨fun hq => plc_mono dir (pw_pos _) (pw_pos _) ?_, fun hq => plc_mono dir (pw_pos _) (pw_pos _) ?_⟩
        · exact Int.mul_le_mul_of_nonneg_right (Int.mul_le_mul_of_nonneg_right hv (vs.1.2 hq)) (by omega)
        · exact Int.mul_le_mul_of_nonneg_right (Int.mul_le_mul_of_nonpos_right hv (vs.2.2 hq)) (by omega)

theorem lo4_le {d1 d2 d3 d4 : Nat} (c1 : Can d1) (c2 : Can d2) (c3 : Can d3) (c4 : Can d4) : idx (lo4 d1 d2 d3 d4) ≤ idx d1 ∧ idx (lo4 d1 d2 d3 d4) ≤ idx d2 ∧ idx (lo4 d1 d2 d3 d4) ≤ idx d3 ∧ idx (lo4 d1 d2 d3 d4) ≤ idx d4 := by
  have k1 := can_min can_pinf c1
  have k2 := can_min k1 c2
  have k3 := can_min k2 c3
  unfold lo4
  rw [minF_idx k3.num c4.num, minF_idx k2.num c3.num, minF_idx k1.num c2.num, minF_idx can_pinf.num c1.num]
  omega
theorem hi4_le {d1 d2 d3 d4 : Nat} (c1 : Can d1) (c2 : Can d2) (c3 : Can d3) (c4 : Can d4) : idx d1 ≤ idx (hi4 d1 d2 d3 d4) ∧ idx d2 ≤ idx (hi4 d1 d2 d3 d4) ∧ idx d3 ≤ idx (hi4 d1 d2 d3 d4) ∧ idx d4 ≤ idx (hi4 d1 d2 d3 d4) := by
  have k1 := can_max can_ninf c1
  have k2 := can_max k1 c2
  have k3 := can_max k2 c3
  unfold hi4
  rw [maxF_idx k3.num c4.num, maxF_idx k2.num c3.num, maxF_idx k1.num c2.num, maxF_idx can_ninf.num c1.num]
  omega

/-- **A product of what lies within.** -/
theorem mul_within {a b c d p q : Nat} (n1 : nan a = false) (n2 : nan b = false) (n3 : nan c = false) (n4 : nan d = false) (np : nan p = false) (nq : nan q = false)
    (h1 : idx a ≤ idx p) (h2 : idx p ≤ idx b) (h3 : idx c ≤ idx q) (h4 : idx q ≤ idx d) :
    idx (mulL a b c d) ≤ idx (mulS p q (-1)) ∧ idx (mulS p q 1) ≤ idx (mulH a b c d) := by
  have L := lo4_le (can_mul (-1) n1 n3) (can_mul (-1) n1 n4) (can_mul (-1) n2 n3) (can_mul (-1) n2 n4)
  have U := hi4_le (can_mul 1 n1 n3) (can_mul 1 n1 n4) (can_mul 1 n2 n3) (can_mul 1 n2 n4)
  have e1 : lo4 (mulS a c (-1)) (mulS a d (-1)) (mulS b c (-1)) (mulS b d (-1)) = mulL a b c d := rfl
  have e2 : hi4 (mulS a c 1) (mulS a d 1) (mulS b c 1) (mulS b d 1) = mulH a b c d := rfl
  rw [e1] at L
  rw [e2] at U
  have pa := fun dir => mul_mono (q := q) dir n1 np nq h1
  have pb := fun dir => mul_mono (q := q) dir np n2 nq h2
  have qc := fun (x : Nat) (nx : nan x = false) dir => mul_mono (q := x) dir n3 nq nx h3
  have qd := fun (x : Nat) (nx : nan x = false) dir => mul_mono (q := x) dir nq n4 nx h4
  have cm := fun (x y : Nat) (dir : Int) => mulS_comm x y dir
  have a1 := qc a n1 (-1)
  have a2 := qd a n1 (-1)
  have b1 := qc b n2 (-1)
  have b2 := qd b n2 (-1)
  have a3 := qc a n1 1
  have a4 := qd a n1 1
  have b3 := qc b n2 1
  have b4 := qd b n2 1
  rw [cm c a, cm q a] at a1 a3
  rw [cm q a, cm d a] at a2 a4
  rw [cm c b, cm q b] at b1 b3
  rw [cm q b, cm d b] at b2 b4
  have x1 := pa (-1)
  have x2 := pb (-1)
  have x3 := pa 1
  have x4 := pb 1
  by_cases hq : 0 ≤ idx q
  · have y1 := x1.1 hq
    have y4 := x4.1 hq
    constructor
    · by_cases ha : 0 ≤ idx a
      · have := a1.1 ha; omega
      · have := a2.2 (by omega); omega
    · by_cases hb : 0 ≤ idx b
      · have := b4.1 hb; omega
      · have := b3.2 (by omega); omega
  · have y2 := x2.2 (by omega)
    have y3 := x3.2 (by omega)
    constructor
    · by_cases hb : 0 ≤ idx b
      · have := b1.1 hb; omega
      · have := b2.2 (by omega); omega
    · by_cases ha : 0 ≤ idx a
      · have := a4.1 ha; omega
      · have := a3.2 (by omega); omega
end Go.Proofs.Ytjdccbigaahkeaa

/- Plain: what is made of two numbers, rounded to the nearest, lies in what is made of intervals that hold them. -/
namespace Go.Proofs.Ytjdccbigaahkeaa
set_option linter.unusedSimpArgs false
set_option linter.unusedVariables false
open Go.RowKit
open Fl

def nearB (z : Nat × Nat) (v : Nat) : Bool := fle z.1 v && fle v z.2
/-- A finite number within an interval. -/
structure In (a b p : Nat) : Prop where
  no : noneB a b = false
  E : Ends a b
  num : nan p = false
  fin : finB p = true
  lo : idx a ≤ idx p
  hi : idx p ≤ idx b
theorem in_of {a b p : Nat} (ha : a < 18446744073709551616) (hb : b < 18446744073709551616) (h : hasB a b p = true) : In a b p := by
  unfold hasB at h
  simp only [Bool.and_eq_true] at h
  obtain ⟨h1, h2, h3, h4⟩ := h
  have h1 : noneB a b = false := by simpa using h1
  have n := (fle_true.1 h2).2.1
  have f : finB p = true := by
    unfold infinB at h4
    have h4 : rung p ≠ 9218868437227405312 := by simpa using h4
    have := nan_false.1 n
    unfold INFR at this
    unfold finB
    simp; omega
  exact ⟨h1, ends_of ha hb h1, n, f, (fle_true.1 h2).2.2, (fle_true.1 h3).2.2⟩
theorem In.neg {a b p : Nat} (h : In a b p) : In (cl (fneg b)) (cl (fneg a)) (cl (fneg p)) := by
  obtain ⟨m1, m2⟩ := neg_facts h.E.ca.lt h.E.cb.lt h.no
  have i1 := idx_clneg a
  have i2 := idx_clneg b
  have i3 := idx_clneg p
  have l := h.lo
  have u := h.hi
  have f : finB (cl (fneg p)) = true := by have := h.fin; unfold finB at *; rw [rung_clneg]; exact this
  exact ⟨m2, ends_of (cl_lt (fneg_lt b)) (cl_lt (fneg_lt a)) m2, (can_neg h.num).num, f, by omega, by omega⟩

theorem near_ends {lo hi v : Nat} (c1 : Can lo) (c2 : Can hi) (hv : nan v = false) (h1 : idx lo ≤ idx v) (h2 : idx v ≤ idx hi) : nearB (endsI lo hi) v = true := by
  have m1 : Can 9218868437227405311 := ⟨by decide, by decide, by decide⟩
  have m2 : Can 18442240474082181119 := ⟨by decide, by decide, by decide⟩
  have i1 : idx (minF lo 9218868437227405311) = min (idx lo) 9218868437227405311 := by rw [minF_idx c1.num (by decide)]; rfl
  have i2 : idx (maxF hi 18442240474082181119) = max (idx hi) (-9218868437227405311) := by rw [maxF_idx c2.num (by decide)]; rfl
  have k1 := can_min c1 m1
  have k2 := can_max c2 m2
  unfold endsI nearB
  rw [make_can k1 k2 (by omega) (by omega) (by omega)]
  show (fle (minF lo 9218868437227405311) v && fle v (maxF hi 18442240474082181119)) = true
  rw [fle_can k1.num hv (by omega), fle_can hv k2.num (by omega)]; rfl

theorem addS_fin {p q : Nat} (dir : Int) (fp : finB p = true) (fq : finB q = true) : addS p q dir = rnd (val p + val q) 1 dir := by
  unfold addS; rw [fp, fq]; rfl
theorem low_cases {a p : Nat} (ca : Can a) (h : idx a ≤ idx p) (fp : finB p = true) : finB a = true ∨ (finB a = false ∧ idx a = -9218868437227405312 ∧ sgn a = true) := by
  cases fa : finB a
  · have := fin_idx fp
    rcases inf_cases ca.num fa with ⟨i, s, _⟩ | ⟨i, s, _⟩
    · exact Or.inr ⟨rfl, i, s⟩
    · omega
  · exact Or.inl rfl
theorem high_cases {b p : Nat} (cb : Can b) (h : idx p ≤ idx b) (fp : finB p = true) : finB b = true ∨ (finB b = false ∧ idx b = 9218868437227405312 ∧ sgn b = false) := by
  cases fb : finB b
  · have := fin_idx fp
    rcases inf_cases cb.num fb with ⟨i, s, _⟩ | ⟨i, s, _⟩
    · omega
    · exact Or.inr ⟨rfl, i, s⟩
  · exact Or.inl rfl

theorem holds_add {a b c d p q : Nat} (h : In a b p) (k : In c d q) : nearB (sumI a b c d) (addS p q 0) = true := by
  have e : sumI a b c d = endsI (addS a c (-1)) (addS b d 1) := by unfold sumI; rw [h.no, k.no]; rfl
  rw [e]
  have b0 := nan_bits (plc_le (val p + val q) 1 0).1 (plc_le (val p + val q) 1 0).2
  have sd := plc_sides (val p + val q) 1
  have v0 : addS p q 0 = bitsOf (plc (val p + val q) 1 0) := by rw [addS_fin _ h.fin k.fin, rnd_eq]
  rw [v0]
  have g1 : nan (addS a c (-1)) = false ∧ idx (addS a c (-1)) ≤ plc (val p + val q) 1 (-1) := by
    have l := plc_le (val p + val q) 1 (-1)
    rcases low_cases h.E.ca h.lo h.fin with fa | ⟨fa, ia, sa⟩ <;> rcases low_cases k.E.ca k.lo k.fin with fc | ⟨fc, ic, sc⟩
    · rw [addS_fin _ fa fc]
      refine ⟨nan_rnd _ _ _, ?_⟩
      rw [idx_rnd]
      refine plc_mono _ (by decide) (by decide) ?_
      have := val_le.2 h.lo
      have := val_le.2 k.lo
      omega
    · have : addS a c (-1) = c := by unfold addS; rw [fa, fc, h.E.ca.num, k.E.ca.num]; rfl
      rw [this]; exact ⟨k.E.ca.num, by omega⟩
    · have : addS a c (-1) = a := by unfold addS; rw [fa, fc, h.E.ca.num, k.E.ca.num]; rfl
      rw [this]; exact ⟨h.E.ca.num, by omega⟩
    · have : addS a c (-1) = a := by unfold addS; rw [fa, fc, h.E.ca.num, k.E.ca.num, sa, sc]; rfl
      rw [this]; exact ⟨h.E.ca.num, by omega⟩
  have g2 : nan (addS b d 1) = false ∧ plc (val p + val q) 1 1 ≤ idx (addS b d 1) := by
    have l := plc_le (val p + val q) 1 1
    rcases high_cases h.E.cb h.hi h.fin with fa | ⟨fa, ia, sa⟩ <;> rcases high_cases k.E.cb k.hi k.fin with fc | ⟨fc, ic, sc⟩
    · rw [addS_fin _ fa fc]
      refine ⟨nan_rnd _ _ _, ?_⟩
      rw [idx_rnd]
      refine plc_mono _ (by decide) (by decide) ?_
      have := val_le.2 h.hi
      have := val_le.2 k.hi
      omega
    · have : addS b d 1 = d := by unfold addS; rw [fa, fc, h.E.cb.num, k.E.cb.num]; rfl
      rw [this]; exact ⟨k.E.cb.num, by omega⟩
    · have : addS b d 1 = b := by unfold addS; rw [fa, fc, h.E.cb.num, k.E.cb.num]; rfl
      rw [this]; exact ⟨h.E.cb.num, by omega⟩
    · have : addS b d 1 = b := by unfold addS; rw [fa, fc, h.E.cb.num, k.E.cb.num, sa, sc]; rfl
      rw [this]; exact ⟨h.E.cb.num, by omega⟩
  refine near_ends (can_add _ h.E.ca k.E.ca g1.1) (can_add _ h.E.cb k.E.cb g2.1) b0.1 ?_ ?_ <;> rw [b0.2.1] <;> omega

theorem holds_sub {a b c d p q : Nat} (h : In a b p) (k : In c d q) : nearB (diffI a b c d) (subS p q 0) = true := by
  have e : diffI a b c d = sumI a b (cl (fneg d)) (cl (fneg c)) := by
    unfold diffI
    rw [(neg_facts k.E.ca.lt k.E.cb.lt k.no).1]
  have e2 : subS p q 0 = addS p (cl (fneg q)) 0 := by
    unfold subS
    rw [addS_cl _ _ _ (by rw [nan_fneg]; exact k.num)]
  rw [e, e2]
  exact holds_add h k.neg

theorem holds_mul {a b c d p q : Nat} (h : In a b p) (k : In c d q) : nearB (prodI a b c d) (mulS p q 0) = true := by
  have e : prodI a b c d = endsI (mulL a b c d) (mulH a b c d) := by unfold prodI; rw [h.no, k.no]; rfl
  rw [e]
  have w := mul_within h.E.ca.num h.E.cb.num k.E.ca.num k.E.cb.num h.num k.num h.lo h.hi k.lo k.hi
  rw [mul_fin _ h.fin k.fin, mul_fin _ h.fin k.fin] at w
  have sd := plc_sides (val p * val q) (pw 1074)
  have cc := can_mulL h.E.ca.num h.E.cb.num k.E.ca.num k.E.cb.num
  have i0 := mul_fin 0 h.fin k.fin
  exact near_ends cc.1 cc.2 (can_mul 0 h.num k.num).num (by omega) (by omega)

theorem holds_neg {a b p : Nat} (h : In a b p) : nearB (negI a b) (fneg p) = true := by
  rw [(neg_facts h.E.ca.lt h.E.cb.lt h.no).1]
  have i1 := idx_clneg a
  have i2 := idx_clneg b
  have i3 := idx_fneg p
  have l := h.lo
  have u := h.hi
  show (fle (cl (fneg b)) (fneg p) && fle (fneg p) (cl (fneg a))) = true
  rw [fle_can (can_neg h.E.cb.num).num (by rw [nan_fneg]; exact h.num) (by omega), fle_can (by rw [nan_fneg]; exact h.num) (can_neg h.E.ca.num).num (by omega)]; rfl

theorem rung_abs2 (x : Nat) : idx (rung x) = (rung x : Int) ∧ ((0 ≤ idx x ∧ (rung x : Int) = idx x) ∨ (idx x ≤ 0 ∧ (rung x : Int) = - idx x)) := by
  refine ⟨idx_rung x, ?_⟩
  rcases rung_abs x with h | h
  · left; exact ⟨by omega, h⟩
  · right; exact ⟨by omega, h⟩
theorem can_rung {x : Nat} (h : nan x = false) : Can (rung x) := ⟨Nat.lt_trans (rung_lt x) (by decide), by rw [nan_rung]; exact h, fun h0 => by rw [idx_rung] at h0; omega⟩

theorem holds_sqr {a b p : Nat} (h : In a b p) : nearB (sqrI a b) (mulS p p 0) = true := by
  have e : sqrI a b = endsI (mulS (migI a b) (migI a b) (-1)) (mulS (magI a b) (magI a b) 1) := by unfold sqrI; rw [h.no]; rfl
  rw [e]
  obtain ⟨c1, c2⟩ := can_mag h.no
  have cr := can_rung h.num
  obtain ⟨a1, a2⟩ := rung_abs2 a
  obtain ⟨b1, b2⟩ := rung_abs2 b
  obtain ⟨p1, p2⟩ := rung_abs2 p
  have l := h.lo
  have u := h.hi
  have fr : finB (rung p) = true := by have := h.fin; unfold finB at *; rw [show rung (rung p) = rung p from Nat.mod_mod _ _]; exact this
  have g1 : idx (magI a b) = max (idx (rung a)) (idx (rung b)) := by
    unfold magI
    rw [h.no, if_neg Bool.false_ne_true, maxF_idx (can_rung h.E.ca.num).num (can_rung h.E.cb.num).num]
  have g2 : idx (migI a b) ≤ idx (rung p) ∧ 0 ≤ idx (migI a b) := by
    unfold migI
    rw [h.no]
    have z : idx 0 = 0 := by decide
    split
    · rw [z]; omega
    · rename_i hh
      rw [minF_idx (can_rung h.E.ca.num).num (can_rung h.E.cb.num).num]
      have f := flt0 h.E.ca
      have f2 := flt0 h.E.cb
      have hh : ¬ (idx a ≤ 0 ∧ 0 ≤ idx b) := by
        intro hc
        apply hh
        rw [f2.2.2.1]
        have : fle a 0 = true := fle_can h.E.ca.num (by decide) (by rw [z]; exact hc.1)
        rw [this]
        simpa using hc.2
      omega
  have m1 : idx (mulS (migI a b) (migI a b) (-1)) ≤ idx (mulS (rung p) (rung p) (-1)) := by
    have x1 := (mul_mono (q := migI a b) (-1) c2.num cr.num c2.num g2.1).1 g2.2
    have x2 := (mul_mono (q := rung p) (-1) c2.num cr.num cr.num g2.1).1 (by omega)
    rw [mulS_comm (rung p) (migI a b)] at x1
    omega
  have m2 : idx (mulS (rung p) (rung p) 1) ≤ idx (mulS (magI a b) (magI a b) 1) := by
    have hle : idx (rung p) ≤ idx (magI a b) := by omega
    have x1 := (mul_mono (q := rung p) 1 cr.num c1.num cr.num hle).1 (by omega)
    have x2 := (mul_mono (q := magI a b) 1 cr.num c1.num c1.num hle).1 (by omega)
    rw [mulS_comm (magI a b) (rung p)] at x1
    omega
  have hv : val (rung p) * val (rung p) = val p * val p := by
    have r : val (rung p) = (G (rung p) : Nat) := by
      rw [val_pv, idx_rung, pv_pos (by omega)]; simp
    rw [r]
    unfold val
    cases sgn p
    · rfl
    · exact (Int.neg_mul_neg _ _).symm
  have i : ∀ dir, idx (mulS (rung p) (rung p) dir) = plc (val p * val p) (pw 1074) dir := fun dir => by rw [mul_fin dir fr fr, hv]
  rw [i] at m1 m2
  have sd := plc_sides (val p * val p) (pw 1074)
  have i0 := mul_fin 0 h.fin h.fin
  exact near_ends (can_mul _ c2.num c2.num) (can_mul _ c1.num c1.num) (can_mul 0 h.num h.num).num (by omega) (by omega)
end Go.Proofs.Ytjdccbigaahkeaa

/- Plain: roots and quotients of numbers within intervals lie within these' roots and quotients. -/
namespace Go.Proofs.Ytjdccbigaahkeaa
set_option linter.unusedSimpArgs false
set_option linter.unusedVariables false
open Go.RowKit
open Fl

theorem root_ratio {A B : Nat} (h : A ≤ B) : rootN A * rootD B ≤ rootN B * rootD A := by
  have hX : 4 * A * pw 1074 ≤ 4 * B * pw 1074 := Nat.mul_le_mul_right _ (Nat.mul_le_mul_left _ h)
  unfold rootN rootD
  generalize 4 * A * pw 1074 = X at *
  generalize 4 * B * pw 1074 = Y at *
  obtain ⟨a1, a2⟩ := isq_spec X
  obtain ⟨b1, b2⟩ := isq_spec Y
  have hr : isq X ≤ isq Y := isq_le.1 (Nat.le_trans a1 hX)
  by_cases e1 : isq X * isq X = X
  · rw [if_pos e1, if_pos e1]
    by_cases e2 : isq Y * isq Y = Y
    · rw [if_pos e2, if_pos e2]; omega
    · rw [if_neg e2, if_neg e2]; omega
  · rw [if_neg e1, if_neg e1]
    by_cases e2 : isq Y * isq Y = Y
    · rw [if_pos e2, if_pos e2]
      have : isq X < isq Y := by
        rcases Nat.lt_or_eq_of_le hr with h1 | h1
        · exact h1
        · exfalso; rw [← h1] at e2; omega
      omega
    · rw [if_neg e2, if_neg e2]; omega

theorem root_idx {x : Nat} (dir : Int) (h : Can x) (h0 : 0 ≤ idx x) : (finB x = true → rung x ≠ 0 → idx (rootS x dir) = plc (rootN (G (rung x))) (rootD (G (rung x))) dir) ∧ (rung x = 0 → rootS x dir = 0) ∧ (finB x = false → rootS x dir = x) := by
  have hs : rung x ≠ 0 → sgn x = false := fun hr => by
    unfold idx at h0
    cases hh : sgn x
    · rfl
    · rw [hh] at h0; simp at h0; omega
  unfold rootS
  rw [h.num, if_neg Bool.false_ne_true]
  refine ⟨fun f hr => ?_, fun hr => by rw [if_pos hr], fun f => ?_⟩
  · rw [if_neg hr, hs hr, if_neg Bool.false_ne_true, f, if_pos rfl]
    exact idx_rnd _ _ _
  · have hr : rung x ≠ 0 := by have := finB_false.1 f; unfold INFR at this; omega
    rw [if_neg hr, hs hr, if_neg Bool.false_ne_true, f, if_neg Bool.false_ne_true]

theorem root_mono {x y : Nat} (dir : Int) (cx : Can x) (cy : Can y) (h0 : 0 ≤ idx x) (h : idx x ≤ idx y) : idx (rootS x dir) ≤ idx (rootS y dir) := by
  obtain ⟨x1, x2, x3⟩ := root_idx dir cx h0
  obtain ⟨y1, y2, y3⟩ := root_idx dir cy (by omega)
  have z : idx 0 = 0 := by decide
  have ly := idx_le (can_root dir cy (by omega)).num
  have lx := idx_le (can_root dir cx h0).num
  have py : 0 ≤ idx (rootS y dir) := by
    by_cases r : rung y = 0
    · rw [y2 r, z]; exact Int.le_refl _
    · cases f : finB y
      · rw [y3 f]; omega
      · rw [y1 f r]; exact plc_nn (by omega) dir
  by_cases r : rung x = 0
  · rw [x2 r, z]; exact py
  · have ry : rung y ≠ 0 := by
      intro hh
      have := (idx_zero_iff y).2 hh
      have : idx x = 0 := by omega
      exact r ((idx_zero_iff x).1 this)
    cases fy : finB y
    · rw [y3 fy]
      rcases inf_cases cy.num fy with ⟨i, _, _⟩ | ⟨i, _, _⟩
      · omega
      · omega
    · cases fx : finB x
      · have := fin_idx fy
        rcases inf_cases cx.num fx with ⟨i, _, _⟩ | ⟨i, _, _⟩ <;> omega
      · rw [x1 fx r, y1 fy ry]
        refine plc_mono dir (rootD_pos _) (rootD_pos _) ?_
        have hle : G (rung x) ≤ G (rung y) := by
          have := rung_abs2 x
          have := rung_abs2 y
          exact G_le (by omega)
        have := root_ratio hle
        exact_mod_cast this

theorem root_fneg {p : Nat} (hp : 0 ≤ idx p) (np : nan p = false) (dir : Int) : rootS p dir = rootS (cl p) dir := by
  by_cases h : idx p = 0
  · have hr := (idx_zero_iff p).1 h
    have : cl p = 0 := by unfold cl; rw [if_pos h]
    rw [this]
    unfold rootS
    rw [np, if_neg Bool.false_ne_true, if_pos hr]
    rfl
  · have : cl p = p := by unfold cl; rw [if_neg h]
    rw [this]

theorem holds_sqrt {a b p : Nat} (h : In a b p) (lp : p < 18446744073709551616) (hp : 0 ≤ idx p) : nearB (sqrtI a b) (rootS p 0) = true := by
  have l := h.lo
  have u := h.hi
  have hb : flt b 0 = false := by rw [(flt0 h.E.cb).1]; simp; omega
  have e : sqrtI a b = endsI (rootS (maxF a 0) (-1)) (rootS b 1) := by unfold sqrtI; rw [h.no, hb]; rfl
  have cp : Can (cl p) := ⟨cl_lt lp, by rw [nan_cl2]; exact h.num, fun h0 => by rw [idx_cl] at h0; unfold cl; rw [if_pos h0]⟩
  have ip : idx (cl p) = idx p := idx_cl p
  obtain ⟨cm, im⟩ := max0 h.E.ca
  have mi : idx (maxF a 0) = max (idx a) 0 := by rw [maxF_idx h.E.ca.num (by decide)]; rfl
  rw [e, root_fneg hp h.num]
  have fp : finB (cl p) = true := fin_of_idx cp.num (by omega) (by have := fin_idx h.fin; omega)
  have m1 := root_mono (-1) cm cp im (by omega)
  have m2 := root_mono 1 cp h.E.cb (by omega) (by omega)
  have sd : idx (rootS (cl p) (-1)) ≤ idx (rootS (cl p) 0) ∧ idx (rootS (cl p) 0) ≤ idx (rootS (cl p) 1) := by
    by_cases r : rung (cl p) = 0
    · rw [(root_idx (-1) cp (by omega)).2.1 r, (root_idx 0 cp (by omega)).2.1 r, (root_idx 1 cp (by omega)).2.1 r]; exact ⟨Int.le_refl _, Int.le_refl _⟩
    · rw [(root_idx (-1) cp (by omega)).1 fp r, (root_idx 0 cp (by omega)).1 fp r, (root_idx 1 cp (by omega)).1 fp r]
      have := plc_sides (rootN (G (rung (cl p)))) (rootD (G (rung (cl p))))
      exact ⟨this.1, this.2.1⟩
  exact near_ends (can_root _ cm im) (can_root _ h.E.cb (by omega)) (can_root 0 cp (by omega)).num (by omega) (by omega)
end Go.Proofs.Ytjdccbigaahkeaa

/- Plain: quotients of numbers within intervals lie within these' quotients. -/
namespace Go.Proofs.Ytjdccbigaahkeaa
set_option linter.unusedSimpArgs false
set_option linter.unusedVariables false
open Go.RowKit
open Fl

theorem loD_le (a b c d : Nat) : (nan (divS a c (-1)) = false → idx (loD a b c d) ≤ idx (divS a c (-1))) ∧ (nan (divS a d (-1)) = false → idx (loD a b c d) ≤ idx (divS a d (-1))) ∧ (nan (divS b c (-1)) = false → idx (loD a b c d) ≤ idx (divS b c (-1))) ∧ (nan (divS b d (-1)) = false → idx (loD a b c d) ≤ idx (divS b d (-1))) := by
  rw [loD_idx]
  simp only []
  cases nan (divS a c (-1)) <;> cases nan (divS a d (-1)) <;> cases nan (divS b c (-1)) <;> cases nan (divS b d (-1)) <;> simp only [Bool.false_eq_true, if_false, if_true, true_imp_iff, forall_const, false_imp_iff, Bool.true_eq_false, and_true, true_and] <;> omega
theorem hiD_ge (a b c d : Nat) : (nan (divS a c 1) = false → idx (divS a c 1) ≤ idx (hiD a b c d)) ∧ (nan (divS a d 1) = false → idx (divS a d 1) ≤ idx (hiD a b c d)) ∧ (nan (divS b c 1) = false → idx (divS b c 1) ≤ idx (hiD a b c d)) ∧ (nan (divS b d 1) = false → idx (divS b d 1) ≤ idx (hiD a b c d)) := by
  rw [nan_div a c 1 (-1), nan_div a d 1 (-1), nan_div b c 1 (-1), nan_div b d 1 (-1), hiD_idx]
  simp only []
  cases nan (divS a c (-1)) <;> cases nan (divS a d (-1)) <;> cases nan (divS b c (-1)) <;> cases nan (divS b d (-1)) <;> simp only [Bool.false_eq_true, if_false, if_true, true_imp_iff, forall_const, false_imp_iff, Bool.true_eq_false, and_true, true_and] <;> omega

/-- A quotient by a finite number above nought, on its three sides. -/
theorem divS_fin {p q : Nat} (dir : Int) (np : nan p = false) (nq : nan q = false) (fp : finB p = true) (fq : finB q = true) (hq : 0 < idx q) : nan (divS p q dir) = false ∧ idx (divS p q dir) = plc (val p * (pw 1074 : Nat)) (G (rung q)) dir := (div_pos dir np nq hq).1 fp fq

/-- **By what is above nought.** -/
theorem div_within {a b c d p q : Nat} (h : In a b p) (k : In c d q) (hc : 0 < idx c) : idx (loD a b c d) ≤ idx (divS p q (-1)) ∧ idx (divS p q 1) ≤ idx (hiD a b c d) := by
  have l := h.lo
  have u := h.hi
  have l2 := k.lo
  have u2 := k.hi
  have hq : 0 < idx q := by omega
  have hd : 0 < idx d := by omega
  have fc : finB c = true := fin_of_idx k.E.ca.num (by omega) k.E.up
  have nn : ∀ x y dir, nan x = false → nan y = false → 0 < idx y → (finB x = true ∨ finB y = true) → nan (divS x y dir) = false := fun x y dir nx ny hy hf => by
    rw [div_nan_iff _ nx ny hy]; rcases hf with hf | hf <;> rw [hf] <;> simp
  have npq := fun dir => nn p q dir h.num k.num hq (Or.inl h.fin)
  have npc := fun dir => nn p c dir h.num k.E.ca.num hc (Or.inl h.fin)
  have npd := fun dir => nn p d dir h.num k.E.cb.num hd (Or.inl h.fin)
  have nac := fun dir => nn a c dir h.E.ca.num k.E.ca.num hc (Or.inr fc)
  have nbc := fun dir => nn b c dir h.E.cb.num k.E.ca.num hc (Or.inr fc)
  have L := loD_le a b c d
  have U := hiD_ge a b c d
  constructor
  · by_cases hp : idx p ≤ 0
    · have m1 := L.1 (nac (-1))
      have m2 := div_mono_p (-1) h.E.ca.num h.num k.E.ca.num hc l (nac (-1)) (npc (-1))
      have m3 := (div_mono_q (-1) h.num k.E.ca.num k.num hc l2 (npc (-1)) (npq (-1))).1 hp
      omega
    · by_cases ha : 0 ≤ idx a
      · have fa : finB a = true := fin_of_idx h.E.ca.num (by omega) h.E.up
        have nad := nn a d (-1) h.E.ca.num k.E.cb.num hd (Or.inl fa)
        have m1 := L.2.1 nad
        have m2 := div_mono_p (-1) h.E.ca.num h.num k.E.cb.num hd l nad (npd (-1))
        have m3 := (div_mono_q (-1) h.num k.num k.E.cb.num hq u2 (npq (-1)) (npd (-1))).2 (by omega)
        omega
      · have m1 := L.1 (nac (-1))
        have m2 := (div_sign (-1) h.E.ca.num k.E.ca.num hc (nac (-1))).1 (by omega)
        have m3 := (div_sign (-1) h.num k.num hq (npq (-1))).2 (by omega)
        omega
  · by_cases hp : 0 ≤ idx p
    · have m1 := U.2.2.1 (nbc 1)
      have m2 := div_mono_p 1 h.num h.E.cb.num k.E.ca.num hc u (npc 1) (nbc 1)
      have m3 := (div_mono_q 1 h.num k.E.ca.num k.num hc l2 (npc 1) (npq 1)).2 hp
      omega
    · by_cases hb : idx b ≤ 0
      · have fb : finB b = true := fin_of_idx h.E.cb.num h.E.dn (by omega)
        have nbd := nn b d 1 h.E.cb.num k.E.cb.num hd (Or.inl fb)
        have m1 := U.2.2.2 nbd
        have m2 := div_mono_p 1 h.num h.E.cb.num k.E.cb.num hd u (npd 1) nbd
        have m3 := (div_mono_q 1 h.num k.num k.E.cb.num hq u2 (npq 1) (npd 1)).1 (by omega)
        omega
      · have m1 := U.2.2.1 (nbc 1)
        have m2 := (div_sign 1 h.E.cb.num k.E.ca.num hc (nbc 1)).2 (by omega)
        have m3 := (div_sign 1 h.num k.num hq (npq 1)).1 (by omega)
        omega

theorem near_whole {v : Nat} (hv : nan v = false) : nearB (18442240474082181120, 9218868437227405312) v = true := by
  have := idx_le hv
  show (fle 18442240474082181120 v && fle v 9218868437227405312) = true
  rw [fle_can nan_ninf hv (by rw [idx_ninf]; omega), fle_can hv nan_pinf (by rw [idx_pinf]; omega)]; rfl

/-- By what begins at nought. -/
theorem half_within {a b d p q : Nat} (h : In a b p) (fq : finB q = true) (nq : nan q = false) (Ed : Can d) (hq : 0 < idx q) (hd : idx q ≤ idx d) (hs : ¬ (idx a < 0 ∧ 0 < idx b)) :
    nearB (quotB a b d) (divS p q 0) = true := by
  have l := h.lo
  have u := h.hi
  have hd0 : 0 < idx d := by omega
  have nn : ∀ x y dir, nan x = false → nan y = false → 0 < idx y → finB x = true → nan (divS x y dir) = false := fun x y dir nx ny hy hf => by
    rw [div_nan_iff _ nx ny hy, hf]; simp
  have npq := fun dir => nn p q dir h.num nq hq h.fin
  have npd := fun dir => nn p d dir h.num Ed.num hd0 h.fin
  have D := fun dir => (divS_fin dir h.num nq h.fin fq hq).2
  have sd := plc_sides (val p * (pw 1074 : Nat)) (G (rung q))
  rw [← D (-1), ← D 0, ← D 1] at sd
  have lv := idx_le (npq 0)
  unfold quotB
  by_cases ha : 0 ≤ idx a
  · rw [if_pos (by rw [(flt0 h.E.ca).2.2.1]; simpa using ha)]
    have fa : finB a = true := fin_of_idx h.E.ca.num (by omega) h.E.up
    have nad := nn a d (-1) h.E.ca.num Ed.num hd0 fa
    have m2 := div_mono_p (-1) h.E.ca.num h.num Ed.num hd0 l nad (npd (-1))
    have m3 := (div_mono_q (-1) h.num nq Ed.num hq hd (npq (-1)) (npd (-1))).2 (by omega)
    exact near_ends (can_div _ nad) can_pinf (npq 0) (by omega) (by rw [idx_pinf]; omega)
  · rw [if_neg (by rw [(flt0 h.E.ca).2.2.1]; simpa using ha)]
    have hb : idx b ≤ 0 := by omega
    have fb : finB b = true := fin_of_idx h.E.cb.num h.E.dn (by omega)
    have nbd := nn b d 1 h.E.cb.num Ed.num hd0 fb
    have m2 := div_mono_p 1 h.num h.E.cb.num Ed.num hd0 u (npd 1) nbd
    have m3 := (div_mono_q 1 h.num nq Ed.num hq hd (npq 1) (npd 1)).1 (by omega)
    exact near_ends can_ninf (can_div _ nbd) (npq 0) (by rw [idx_ninf]; omega) (by omega)

theorem near_pos {a b c d p q : Nat} (h : In a b p) (k : In c d q) (hc : 0 < idx c) : nearB (endsI (loD a b c d) (hiD a b c d)) (divS p q 0) = true := by
  have l2 := k.lo
  have hq : 0 < idx q := by omega
  have w := div_within h k hc
  have D := fun dir => divS_fin dir h.num k.num h.fin k.fin hq
  have sd := plc_sides (val p * (pw 1074 : Nat)) (G (rung q))
  rw [← (D (-1)).2, ← (D 0).2, ← (D 1).2] at sd
  exact near_ends (can_loD _ _ _ _) (can_hiD _ _ _ _) (D 0).1 (by omega) (by omega)

theorem holds_div {a b c d p q : Nat} (h : In a b p) (k : In c d q) (hq : idx q ≠ 0) : nearB (quotI a b c d) (divS p q 0) = true := by
  have l := h.lo
  have u := h.hi
  have l2 := k.lo
  have u2 := k.hi
  obtain ⟨a1, a2, a3, a4⟩ := flt0 h.E.ca
  obtain ⟨b1, b2, b3, b4⟩ := flt0 h.E.cb
  obtain ⟨c1, c2, c3, c4⟩ := flt0 k.E.ca
  obtain ⟨d1, d2, d3, d4⟩ := flt0 k.E.cb
  have rq : rung q ≠ 0 := fun hh => hq ((idx_zero_iff q).2 hh)
  have dn : divS (cl (fneg p)) (cl (fneg q)) 0 = divS p q 0 := div_negs 0 h.num k.num rq
  have i1 := idx_clneg a
  have i2 := idx_clneg b
  have i3 := idx_clneg c
  have i4 := idx_clneg d
  have i5 := idx_clneg q
  have nv : nan (divS p q 0) = false := by
    by_cases hh : 0 < idx q
    · exact (divS_fin 0 h.num k.num h.fin k.fin hh).1
    · rw [← dn]
      exact (divS_fin 0 h.neg.num k.neg.num h.neg.fin k.neg.fin (by omega)).1
  unfold quotI
  rw [h.no, k.no]
  simp only [Bool.or_self, Bool.false_eq_true, if_false]
  have e1 : eqI c d 0 0 = false := by
    unfold eqI
    rw [c4, d4]
    simp; omega
  rw [e1]
  simp only [Bool.false_eq_true, if_false]
  cases e2 : eqI a b 0 0
  · simp only [Bool.false_eq_true, if_false]
    by_cases h3 : 0 < idx c
    · rw [if_pos (by rw [c2, d1]; simp [h3])]
      exact near_pos h k h3
    · by_cases h4 : idx d < 0
      · rw [if_pos (by rw [c2, d1]; simp [h4])]
        have N := near_pos h.neg k.neg (by omega)
        rw [lo_sym h.E.ca.num h.E.cb.num k.E.ca.num k.E.cb.num (fun hh => by have := (idx_zero_iff c).2 hh; omega) (fun hh => by have := (idx_zero_iff d).2 hh; omega), hi_sym h.E.ca.num h.E.cb.num k.E.ca.num k.E.cb.num (fun hh => by have := (idx_zero_iff c).2 hh; omega) (fun hh => by have := (idx_zero_iff d).2 hh; omega), dn] at N
        exact N
      · rw [if_neg (by rw [c2, d1]; simp; omega)]
        by_cases h5 : (idx c < 0 ∧ 0 < idx d) ∨ (idx a < 0 ∧ 0 < idx b)
        · rw [if_pos (by rw [c1, d2, a1, b2]; simpa using h5)]
          exact near_whole nv
        · rw [if_neg (by rw [c1, d2, a1, b2]; simpa using h5)]
          by_cases h7 : idx c < 0
          · rw [if_pos (by rw [c1]; simpa using h7), ← dn]
            exact half_within h.neg k.neg.fin k.neg.num (can_neg k.E.ca.num) (by omega) (by omega) (by omega)
          · rw [if_neg (by rw [c1]; simpa using h7)]
            exact half_within h k.fin k.num k.E.cb (by omega) (by omega) (by omega)
  · simp only [if_true]
    have hz : idx a = 0 ∧ idx b = 0 := by unfold eqI at e2; rw [a4, b4] at e2; simpa using e2
    have hp0 : idx p = 0 := by omega
    have vz : val p = 0 := (val_eq_zero p).2 ((idx_zero_iff p).1 hp0)
    have iv : idx (divS p q 0) = 0 := by
      by_cases hh : 0 < idx q
      · rw [(divS_fin 0 h.num k.num h.fin k.fin hh).2, vz, Int.zero_mul, plc_zero _ (G_rung_pos hh).1]
      · rw [← dn, (divS_fin 0 h.neg.num k.neg.num h.neg.fin k.neg.fin (by omega)).2, val_clneg, vz]
        rw [show (-0 : Int) = 0 from rfl, Int.zero_mul, plc_zero _ (G_rung_pos (by omega)).1]
    show (fle 0 (divS p q 0) && fle (divS p q 0) 0) = true
    rw [fle_can (by decide) nv (by rw [iv]; decide), fle_can nv (by decide) (by rw [iv]; decide)]; rfl
end Go.Proofs.Ytjdccbigaahkeaa
