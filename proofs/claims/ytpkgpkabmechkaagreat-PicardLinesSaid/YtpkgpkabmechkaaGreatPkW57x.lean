/- Plain: hulls and meets, and what they hold; what is taken off itself, what is divided by itself. -/
import Derived.Test.YtpkgpkabmechkaaGreatPkW42
import Derived.Test.YtpkgpkabmechkaaGreatPkW45
import Derived.Test.YtpkgpkabmechkaaGreatPkW51
namespace Go.Proofs.YtpkgpkabmechkaaGreat
set_option linter.unusedSimpArgs false
set_option linter.unusedVariables false
open Go.RowKit
open Fl

theorem fle_can {x y : Nat} (hx : nan x = false) (hy : nan y = false) (h : idx x ≤ idx y) : fle x y = true := fle_true.2 ⟨hx, hy, h⟩

theorem can_add {p q : Nat} (dir : Int) (cp : Can p) (cq : Can q) (h : nan (addS p q dir) = false) : Can (addS p q dir) := by
  unfold addS at h ⊢
  split
  · exact can_rnd _ _ _
  · rename_i h1
    rw [if_neg h1] at h
    split
    · rename_i h2; rw [if_pos h2] at h; exact absurd h (by decide)
    · rename_i h2
      rw [if_neg h2] at h
      split
      · exact cq
      · rename_i h3
        rw [if_neg h3] at h
        split
        · exact cp
        · rename_i h4
          rw [if_neg h4] at h
          split
          · exact cp
          · rename_i h5; rw [if_neg h5] at h; exact absurd h (by decide)

theorem inside_self {a b : Nat} (ha : a < 18446744073709551616) (hb : b < 18446744073709551616) (h0 : noneB a b = false) : insideB a b a b = true := by
  have E1 := ends_of ha hb h0
  unfold insideB
  rw [h0, fle_can E1.ca.num E1.ca.num (Int.le_refl _), fle_can E1.cb.num E1.cb.num (Int.le_refl _)]; rfl
end Go.Proofs.YtpkgpkabmechkaaGreat

/- Plain: sums, products and quotients of numbers within intervals lie within these' sums, products and quotients. -/
namespace Go.Proofs.YtpkgpkabmechkaaGreat
set_option linter.unusedSimpArgs false
set_option linter.unusedVariables false
open Go.RowKit
open Fl

theorem idx_rnd (S : Int) (D : Nat) (dir : Int) : idx (rnd S D dir) = plc S D dir := by
  rw [rnd_eq]
  exact (nan_bits (plc_le S D dir).1 (plc_le S D dir).2).2.1
/-- A number's sign. -/
def sg (x : Nat) : Int := if idx x < 0 then -1 else if idx x = 0 then 0 else 1
theorem sg_cases (x : Nat) : (idx x < 0 ∧ sg x = -1) ∨ (idx x = 0 ∧ sg x = 0) ∨ (0 < idx x ∧ sg x = 1) := by
  unfold sg
  split
  · exact Or.inl ⟨by assumption, rfl⟩
  · split
    · exact Or.inr (Or.inl ⟨by assumption, rfl⟩)
    · exact Or.inr (Or.inr ⟨by omega, rfl⟩)
theorem inf_cases {x : Nat} (nx : nan x = false) (h : finB x = false) : (idx x = -9218868437227405312 ∧ sgn x = true ∧ sg x = -1) ∨ (idx x = 9218868437227405312 ∧ sgn x = false ∧ sg x = 1) := by
  have e := idx_inf_of nx h
  unfold sg
  cases hs : sgn x <;> rw [hs] at e <;> simp at e
  · right; rw [e]; exact ⟨rfl, rfl, by decide⟩
  · left; rw [e]; exact ⟨rfl, rfl, by decide⟩
theorem sgn_idx {x : Nat} (h : idx x ≠ 0) : sgn x = decide (idx x < 0) := by
  unfold idx at *
  cases hs : sgn x
  · simp
  · rw [hs] at h; simp at h ⊢; omega

theorem mul_fin {p q : Nat} (dir : Int) (fp : finB p = true) (fq : finB q = true) : idx (mulS p q dir) = plc (val p * val q) (pw 1074) dir := by
  have np : nan p = false := nan_false.2 (by have := finB_rung.1 fp; omega)
  have nq : nan q = false := nan_false.2 (by have := finB_rung.1 fq; omega)
  unfold mulS
  rw [np, nq, fp, fq]
  simp only [Bool.or_self, Bool.false_eq_true, if_false, Bool.and_self, if_true]
  split
  · rename_i h
    have : val p * val q = 0 := by
      rcases h with h | h
      · rw [(val_eq_zero p).2 h, Int.zero_mul]
      · rw [(val_eq_zero q).2 h, Int.mul_zero]
    rw [this, plc_zero _ (pw_pos _)]; rfl
  · exact idx_rnd _ _ _
theorem mul_inf {p q : Nat} (dir : Int) (np : nan p = false) (nq : nan q = false) (h : (finB p && finB q) = false) : idx (mulS p q dir) = sg p * sg q * 9218868437227405312 := by
  unfold mulS
  rw [np, nq, h]
  simp only [Bool.or_self, Bool.false_eq_true, if_false]
  rcases sg_cases p with ⟨p1, p2⟩ | ⟨p1, p2⟩ | ⟨p1, p2⟩ <;> rcases sg_cases q with ⟨q1, q2⟩ | ⟨q1, q2⟩ | ⟨q1, q2⟩ <;> rw [p2, q2]
  all_goals
    first
      | (rw [if_pos (by first | (left; exact (idx_zero_iff p).1 p1) | (right; exact (idx_zero_iff q).1 q1))]; rfl)
      | (rw [if_neg (by rintro (h | h); exact absurd ((idx_zero_iff p).2 h) (by omega); exact absurd ((idx_zero_iff q).2 h) (by omega)), idx_infW, sgn_idx (by omega : idx p ≠ 0), sgn_idx (by omega : idx q ≠ 0)]
         first | simp [p1, q1]; done | (have := Int.lt_asymm p1; have := Int.lt_asymm q1; simp [*]))

theorem val_lt_of {p p' : Nat} (h : idx p ≤ idx p') : val p ≤ val p' := val_le.2 h

/-- The greater a factor is, the greater is the product by what is not below nought. -/
theorem mul_mono {p p' q : Nat} (dir : Int) (np : nan p = false) (np' : nan p' = false) (nq : nan q = false) (h : idx p ≤ idx p') :
    (0 ≤ idx q → idx (mulS p q dir) ≤ idx (mulS p' q dir)) ∧ (idx q ≤ 0 → idx (mulS p' q dir) ≤ idx (mulS p q dir)) := by
  have L := idx_le (can_mul dir np nq).num
  have L' := idx_le (can_mul dir np' nq).num
  have vs := val_sign q
  have hv := val_lt_of h
  cases fq : finB q
  · have e1 := mul_inf dir np nq (by rw [fq]; simp)
    have e2 := mul_inf dir np' nq (by rw [fq]; simp)
    rw [e1, e2]
    rcases sg_cases p with ⟨p1, p2⟩ | ⟨p1, p2⟩ | ⟨p1, p2⟩ <;> rcases sg_cases p' with ⟨p3, p4⟩ | ⟨p3, p4⟩ | ⟨p3, p4⟩ <;> rcases sg_cases q with ⟨q1, q2⟩ | ⟨q1, q2⟩ | ⟨q1, q2⟩ <;> rw [p2, p4, q2] <;> omega
  · cases fp : finB p
    · have e1 := mul_inf dir np nq (by rw [fp]; rfl)
      rcases inf_cases np fp with ⟨i1, _, i2⟩ | ⟨i1, _, i2⟩
      · rcases sg_cases q with ⟨q1, q2⟩ | ⟨q1, q2⟩ | ⟨q1, q2⟩
        · rw [e1, i2, q2]; omega
        · have z1 : idx (mulS p' q dir) = 0 := by
            unfold mulS
            rw [np', nq, if_neg (by simp), if_pos (Or.inr ((idx_zero_iff q).1 q1))]; rfl
          rw [e1, i2, q2, z1]; omega
        · rw [e1, i2, q2]; omega
      · have fp' : finB p' = false := by
          cases hh : finB p'
          · rfl
          · have := fin_idx hh; omega
        have e2 := mul_inf dir np' nq (by rw [fp']; rfl)
        rcases inf_cases np' fp' with ⟨j1, _, j2⟩ | ⟨j1, _, j2⟩
        · omega
        · rw [e1, e2, i2, j2]; omega
    · cases fp' : finB p'
      · have e2 := mul_inf dir np' nq (by rw [fp']; rfl)
        rcases inf_cases np' fp' with ⟨j1, _, j2⟩ | ⟨j1, _, j2⟩
        · have := fin_idx fp; omega
        · rcases sg_cases q with ⟨q1, q2⟩ | ⟨q1, q2⟩ | ⟨q1, q2⟩
          · rw [e2, j2, q2]; omega
          · have z1 : idx (mulS p q dir) = 0 := by
              unfold mulS
              rw [np, nq, if_neg (by simp), if_pos (Or.inr ((idx_zero_iff q).1 q1))]; rfl
            rw [e2, j2, q2, z1]; omega
          · rw [e2, j2, q2]; omega
      · rw [mul_fin dir fp fq, mul_fin dir fp' fq]
        refine ⟨fun hq => plc_mono dir (pw_pos _) (pw_pos _) ?_, fun hq => plc_mono dir (pw_pos _) (pw_pos _) ?_⟩
        · exact Int.mul_le_mul_of_nonneg_right (Int.mul_le_mul_of_nonneg_right hv (vs.1.2 hq)) (by omega)
        · exact Int.mul_le_mul_of_nonneg_right (Int.mul_le_mul_of_nonpos_right hv (vs.2.2 hq)) (by omega)

theorem lo4_le {d1 d2 d3 d4 : Nat} (c1 : Can d1) (c2 : Can d2) (c3 : Can d3) (c4 : Can d4) : idx (lo4 d1 d2 d3 d4) ≤ idx d1 ∧ idx (lo4 d1 d2 d3 d4) ≤ idx d2 ∧ idx (lo4 d1 d2 d3 d4) ≤ idx d3 ∧ idx (lo4 d1 d2 d3 d4) ≤ idx d4 := by
  have k1 := can_min can_pinf c1
  have k2 := can_min k1 c2
  have k3 := can_min k2 c3
  unfold lo4
  rw [minF_idx k3.num c4.num, minF_idx k2.num c3.num, minF_idx k1.num c2.num, minF_idx can_pinf.num c1.num]
  omega
theorem hi4_le {d1 d2 d3 d4 : Nat} (c1 : Can d1) (c2 : Can d2) (c3 : Can d3) (c4 : Can d4) : idx d1 ≤ idx (hi4 d1 d2 d3 d4) ∧ idx d2 ≤ idx (hi4 d1 d2 d3 d4) ∧ idx d3 ≤ idx (hi4 d1 d2 d3 d4) ∧ idx d4 ≤ idx (hi4 d1 d2 d3 d4) := by
  have k1 := can_max can_ninf c1
  have k2 := can_max k1 c2
  have k3 := can_max k2 c3
  unfold hi4
  rw [maxF_idx k3.num c4.num, maxF_idx k2.num c3.num, maxF_idx k1.num c2.num, maxF_idx can_ninf.num c1.num]
  omega

/-- **A product of what lies within.** -/
theorem mul_within {a b c d p q : Nat} (n1 : nan a = false) (n2 : nan b = false) (n3 : nan c = false) (n4 : nan d = false) (np : nan p = false) (nq : nan q = false)
    (h1 : idx a ≤ idx p) (h2 : idx p ≤ idx b) (h3 : idx c ≤ idx q) (h4 : idx q ≤ idx d) :
    idx (mulL a b c d) ≤ idx (mulS p q (-1)) ∧ idx (mulS p q 1) ≤ idx (mulH a b c d) := by
  have L := lo4_le (can_mul (-1) n1 n3) (can_mul (-1) n1 n4) (can_mul (-1) n2 n3) (can_mul (-1) n2 n4)
  have U := hi4_le (can_mul 1 n1 n3) (can_mul 1 n1 n4) (can_mul 1 n2 n3) (can_mul 1 n2 n4)
  have e1 : lo4 (mulS a c (-1)) (mulS a d (-1)) (mulS b c (-1)) (mulS b d (-1)) = mulL a b c d := rfl
  have e2 : hi4 (mulS a c 1) (mulS a d 1) (mulS b c 1) (mulS b d 1) = mulH a b c d := rfl
  rw [e1] at L
  rw [e2] at U
  have pa := fun dir => mul_mono (q := q) dir n1 np nq h1
  have pb := fun dir => mul_mono (q := q) dir np n2 nq h2
  have qc := fun (x : Nat) (nx : nan x = false) dir => mul_mono (q := x) dir n3 nq nx h3
  have qd := fun (x : Nat) (nx : nan x = false) dir => mul_mono (q := x) dir nq n4 nx h4
  have cm := fun (x y : Nat) (dir : Int) => mulS_comm x y dir
  have a1 := qc a n1 (-1)
  have a2 := qd a n1 (-1)
  have b1 := qc b n2 (-1)
  have b2 := qd b n2 (-1)
  have a3 := qc a n1 1
  have a4 := qd a n1 1
  have b3 := qc b n2 1
  have b4 := qd b n2 1
  rw [cm c a, cm q a] at a1 a3
  rw [cm q a, cm d a] at a2 a4
  rw [cm c b, cm q b] at b1 b3
  rw [cm q b, cm d b] at b2 b4
  have x1 := pa (-1)
  have x2 := pb (-1)
  have x3 := pa 1
  have x4 := pb 1
  by_cases hq : 0 ≤ idx q
  · have y1 := x1.1 hq
    have y4 := x4.1 hq
    constructor
    · by_cases ha : 0 ≤ idx a
      · have := a1.1 ha; omega
      · have := a2.2 (by omega); omega
    · by_cases hb : 0 ≤ idx b
      · have := b4.1 hb; omega
      · have := b3.2 (by omega); omega
  · have y2 := x2.2 (by omega)
    have y3 := x3.2 (by omega)
    constructor
    · by_cases hb : 0 ≤ idx b
      · have := b1.1 hb; omega
      · have := b2.2 (by omega); omega
    · by_cases ha : 0 ≤ idx a
      · have := a4.1 ha; omega
      · have := a3.2 (by omega); omega
end Go.Proofs.YtpkgpkabmechkaaGreat

/- Plain: what is made of two numbers, rounded to the nearest, lies in what is made of intervals that hold them. -/
namespace Go.Proofs.YtpkgpkabmechkaaGreat
set_option linter.unusedSimpArgs false
set_option linter.unusedVariables false
open Go.RowKit
open Fl

theorem addS_fin {p q : Nat} (dir : Int) (fp : finB p = true) (fq : finB q = true) : addS p q dir = rnd (val p + val q) 1 dir := by
  unfold addS; rw [fp, fq]; rfl
theorem rung_abs2 (x : Nat) : idx (rung x) = (rung x : Int) ∧ ((0 ≤ idx x ∧ (rung x : Int) = idx x) ∨ (idx x ≤ 0 ∧ (rung x : Int) = - idx x)) := by
  refine ⟨idx_rung x, ?_⟩
  rcases rung_abs x with h | h
  · left; exact ⟨by omega, h⟩
  · right; exact ⟨by omega, h⟩
theorem can_rung {x : Nat} (h : nan x = false) : Can (rung x) := ⟨Nat.lt_trans (rung_lt x) (by decide), by rw [nan_rung]; exact h, fun h0 => by rw [idx_rung] at h0; omega⟩

end Go.Proofs.YtpkgpkabmechkaaGreat

/- Plain: roots and quotients of numbers within intervals lie within these' roots and quotients. -/
namespace Go.Proofs.YtpkgpkabmechkaaGreat
set_option linter.unusedSimpArgs false
set_option linter.unusedVariables false
open Go.RowKit
open Fl

end Go.Proofs.YtpkgpkabmechkaaGreat

/- Plain: quotients of numbers within intervals lie within these' quotients. -/
namespace Go.Proofs.YtpkgpkabmechkaaGreat
set_option linter.unusedSimpArgs false
set_option linter.unusedVariables false
open Go.RowKit
open Fl

end Go.Proofs.YtpkgpkabmechkaaGreat

/- Plain: the greater the intervals are, the greater is what is made of them; and all that is made may be. -/
namespace Go.Proofs.YtpkgpkabmechkaaGreat
set_option linter.unusedSimpArgs false
set_option linter.unusedVariables false
open Go.RowKit
open Fl

/-- What may be, and lies in another one, that may be. -/
structure Grow (z t : Nat × Nat) : Prop where
  ins : insideB z.1 z.2 t.1 t.2 = true
  r1 : rightB z.1 z.2 = true
  r2 : rightB t.1 t.2 = true
  w1 : z.1 < 18446744073709551616 ∧ z.2 < 18446744073709551616
  w2 : t.1 < 18446744073709551616 ∧ t.2 < 18446744073709551616
/-- Two that hold something, one in the other. -/
structure Sub (a b a' b' : Nat) : Prop where
  E : Ends a b
  F : Ends a' b'
  n : noneB a b = false
  m : noneB a' b' = false
  lo : idx a' ≤ idx a
  hi : idx b ≤ idx b'
theorem Sub.grow {a b a' b' : Nat} (h : Sub a b a' b') : Grow (a, b) (a', b') := by
  refine ⟨?_, (right_of h.n).1, (right_of h.m).1, ⟨h.E.ca.lt, h.E.cb.lt⟩, ⟨h.F.ca.lt, h.F.cb.lt⟩⟩
  show insideB a b a' b' = true
  unfold insideB
  rw [h.n, h.m, fle_can h.F.ca.num h.E.ca.num h.lo, fle_can h.E.cb.num h.F.cb.num h.hi]; rfl
theorem Sub.self {a b : Nat} (E : Ends a b) (n : noneB a b = false) : Sub a b a b := ⟨E, E, n, n, Int.le_refl _, Int.le_refl _⟩
theorem ends_eq {lo hi : Nat} (c1 : Can lo) (c2 : Can hi) (h : idx lo ≤ idx hi) :
    Ends (endsI lo hi).1 (endsI lo hi).2 ∧ noneB (endsI lo hi).1 (endsI lo hi).2 = false ∧ idx (endsI lo hi).1 = min (idx lo) 9218868437227405311 ∧ idx (endsI lo hi).2 = max (idx hi) (-9218868437227405311) := by
  have m1 : Can 9218868437227405311 := ⟨by decide, by decide, by decide⟩
  have m2 : Can 18442240474082181119 := ⟨by decide, by decide, by decide⟩
  have i1 : idx (minF lo 9218868437227405311) = min (idx lo) 9218868437227405311 := by rw [minF_idx c1.num (by decide)]; rfl
  have i2 : idx (maxF hi 18442240474082181119) = max (idx hi) (-9218868437227405311) := by rw [maxF_idx c2.num (by decide)]; rfl
  have k1 := can_min c1 m1
  have k2 := can_max c2 m2
  unfold endsI
  rw [make_can k1 k2 (by omega) (by omega) (by omega)]
  have n := none_can k1 k2 (by omega) (by omega) (by omega)
  exact ⟨ends_of k1.lt k2.lt n, n, i1, i2⟩
theorem ends_sub {lo hi lo' hi' : Nat} (c1 : Can lo) (c2 : Can hi) (c3 : Can lo') (c4 : Can hi') (h : idx lo ≤ idx hi) (h1 : idx lo' ≤ idx lo) (h2 : idx hi ≤ idx hi') :
    Sub (endsI lo hi).1 (endsI lo hi).2 (endsI lo' hi').1 (endsI lo' hi').2 := by
  obtain ⟨E, n, l, u⟩ := ends_eq c1 c2 h
  obtain ⟨E', n', l', u'⟩ := ends_eq c3 c4 (by omega)
  exact ⟨E, E', n, n', by omega, by omega⟩

/-! ### Sums -/
theorem add_low {p q : Nat} (dir : Int) (np : nan p = false) (nq : nan q = false) (hp : idx p < 9218868437227405312) (hq : idx q < 9218868437227405312) :
    nan (addS p q dir) = false ∧ ((finB p = true ∧ finB q = true ∧ idx (addS p q dir) = plc (val p + val q) 1 dir) ∨ ((finB p = false ∨ finB q = false) ∧ idx (addS p q dir) = -9218868437227405312)) := by
  cases fp : finB p
  · rcases inf_cases np fp with ⟨ip, sp, _⟩ | ⟨ip, _, _⟩
    · cases fq : finB q
      · rcases inf_cases nq fq with ⟨iq, sq, _⟩ | ⟨iq, _, _⟩
        · have e : addS p q dir = p := by unfold addS; rw [fp, fq, np, nq, sp, sq]; rfl
          rw [e]; exact ⟨np, Or.inr ⟨Or.inl rfl, ip⟩⟩
        · omega
      · have e : addS p q dir = p := by unfold addS; rw [fp, fq, np, nq]; rfl
        rw [e]; exact ⟨np, Or.inr ⟨Or.inl rfl, ip⟩⟩
    · omega
  · cases fq : finB q
    · rcases inf_cases nq fq with ⟨iq, sq, _⟩ | ⟨iq, _, _⟩
      · have e : addS p q dir = q := by unfold addS; rw [fp, fq, np, nq]; rfl
        rw [e]; exact ⟨nq, Or.inr ⟨Or.inr rfl, iq⟩⟩
      · omega
    · rw [addS_fin dir fp fq]
      exact ⟨nan_rnd _ _ _, Or.inl ⟨rfl, rfl, idx_rnd _ _ _⟩⟩
theorem add_high {p q : Nat} (dir : Int) (np : nan p = false) (nq : nan q = false) (hp : -9218868437227405312 < idx p) (hq : -9218868437227405312 < idx q) :
    nan (addS p q dir) = false ∧ ((finB p = true ∧ finB q = true ∧ idx (addS p q dir) = plc (val p + val q) 1 dir) ∨ ((finB p = false ∨ finB q = false) ∧ idx (addS p q dir) = 9218868437227405312)) := by
  cases fp : finB p
  · rcases inf_cases np fp with ⟨ip, sp, _⟩ | ⟨ip, sp, _⟩
    · omega
    · cases fq : finB q
      · rcases inf_cases nq fq with ⟨iq, sq, _⟩ | ⟨iq, sq, _⟩
        · omega
        · have e : addS p q dir = p := by unfold addS; rw [fp, fq, np, nq, sp, sq]; rfl
          rw [e]; exact ⟨np, Or.inr ⟨Or.inl rfl, ip⟩⟩
      · have e : addS p q dir = p := by unfold addS; rw [fp, fq, np, nq]; rfl
        rw [e]; exact ⟨np, Or.inr ⟨Or.inl rfl, ip⟩⟩
  · cases fq : finB q
    · rcases inf_cases nq fq with ⟨iq, sq, _⟩ | ⟨iq, _, _⟩
      · omega
      · have e : addS p q dir = q := by unfold addS; rw [fp, fq, np, nq]; rfl
        rw [e]; exact ⟨nq, Or.inr ⟨Or.inr rfl, iq⟩⟩
    · rw [addS_fin dir fp fq]
      exact ⟨nan_rnd _ _ _, Or.inl ⟨rfl, rfl, idx_rnd _ _ _⟩⟩
theorem low_fin {p p' : Nat} (np' : nan p' = false) (h : idx p ≤ idx p') (hp' : idx p' < 9218868437227405312) (f : finB p = true) : finB p' = true :=
  fin_of_idx np' (by have := fin_idx f; omega) hp'
theorem high_fin {p p' : Nat} (np' : nan p' = false) (h : idx p' ≤ idx p) (hp' : -9218868437227405312 < idx p') (f : finB p = true) : finB p' = true :=
  fin_of_idx np' hp' (by have := fin_idx f; omega)
theorem add_low_mono {p q p' q' : Nat} (dir : Int) (np : nan p = false) (nq : nan q = false) (np' : nan p' = false) (nq' : nan q' = false) (hp' : idx p' < 9218868437227405312) (hq' : idx q' < 9218868437227405312) (h : idx p ≤ idx p') (k : idx q ≤ idx q') :
    idx (addS p q dir) ≤ idx (addS p' q' dir) := by
  obtain ⟨n1, h1⟩ := add_low dir np nq (by omega) (by omega)
  obtain ⟨n2, h2⟩ := add_low dir np' nq' hp' hq'
  have := idx_le n2
  rcases h1 with ⟨f1, f2, e1⟩ | ⟨_, e1⟩
  · have g1 := low_fin np' h hp' f1
    have g2 := low_fin nq' k hq' f2
    rcases h2 with ⟨_, _, e2⟩ | ⟨hh, _⟩
    · rw [e1, e2]
      refine plc_mono _ (by decide) (by decide) ?_
      have := val_le.2 h
      have := val_le.2 k
      omega
    · rw [g1, g2] at hh; simp at hh
  · omega
theorem add_high_mono {p q p' q' : Nat} (dir : Int) (np : nan p = false) (nq : nan q = false) (np' : nan p' = false) (nq' : nan q' = false) (hp : -9218868437227405312 < idx p) (hq : -9218868437227405312 < idx q) (h : idx p ≤ idx p') (k : idx q ≤ idx q') :
    idx (addS p q dir) ≤ idx (addS p' q' dir) := by
  obtain ⟨n1, h1⟩ := add_high dir np nq hp hq
  obtain ⟨n2, h2⟩ := add_high dir np' nq' (by omega) (by omega)
  have := idx_le n1
  rcases h2 with ⟨f1, f2, e2⟩ | ⟨_, e2⟩
  · have g1 := high_fin np h hp f1
    have g2 := high_fin nq k hq f2
    rcases h1 with ⟨_, _, e1⟩ | ⟨hh, _⟩
    · rw [e1, e2]
      refine plc_mono _ (by decide) (by decide) ?_
      have := val_le.2 h
      have := val_le.2 k
      omega
    · rw [g1, g2] at hh; simp at hh
  · omega
theorem add_sides {a b c d : Nat} (E : Ends a b) (F : Ends c d) : idx (addS a c (-1)) ≤ idx (addS b d 1) := by
  obtain ⟨n1, h1⟩ := add_low (-1) E.ca.num F.ca.num E.up F.up
  obtain ⟨n2, h2⟩ := add_high 1 E.cb.num F.cb.num E.dn F.dn
  have := idx_le n1
  have := idx_le n2
  rcases h1 with ⟨f1, f2, e1⟩ | ⟨_, e1⟩
  · rcases h2 with ⟨f3, f4, e2⟩ | ⟨_, e2⟩
    · have m : plc (val a + val c) 1 (-1) ≤ plc (val b + val d) 1 (-1) := by
        refine plc_mono _ (by decide) (by decide) ?_
        have := val_le.2 E.le
        have := val_le.2 F.le
        omega
      have s := plc_sides (val b + val d) 1
      omega
    · omega
  · omega

theorem sum_sub {a b c d a' b' c' d' : Nat} (h : Sub a b a' b') (k : Sub c d c' d') : Sub (sumI a b c d).1 (sumI a b c d).2 (sumI a' b' c' d').1 (sumI a' b' c' d').2 := by
  have e1 : sumI a b c d = endsI (addS a c (-1)) (addS b d 1) := by unfold sumI; rw [h.n, k.n]; rfl
  have e2 : sumI a' b' c' d' = endsI (addS a' c' (-1)) (addS b' d' 1) := by unfold sumI; rw [h.m, k.m]; rfl
  rw [e1, e2]
  have n1 := (add_low (-1) h.E.ca.num k.E.ca.num h.E.up k.E.up).1
  have n2 := (add_high 1 h.E.cb.num k.E.cb.num h.E.dn k.E.dn).1
  have n3 := (add_low (-1) h.F.ca.num k.F.ca.num h.F.up k.F.up).1
  have n4 := (add_high 1 h.F.cb.num k.F.cb.num h.F.dn k.F.dn).1
  exact ends_sub (can_add _ h.E.ca k.E.ca n1) (can_add _ h.E.cb k.E.cb n2) (can_add _ h.F.ca k.F.ca n3) (can_add _ h.F.cb k.F.cb n4) (add_sides h.E k.E)
    (add_low_mono _ h.F.ca.num k.F.ca.num h.E.ca.num k.E.ca.num h.E.up k.E.up h.lo k.lo)
    (add_high_mono _ h.E.cb.num k.E.cb.num h.F.cb.num k.F.cb.num h.E.dn k.E.dn h.hi k.hi)
/-! ### Products -/
theorem mul_sides {p q : Nat} (np : nan p = false) (nq : nan q = false) : idx (mulS p q (-1)) ≤ idx (mulS p q 1) := by
  cases f : (finB p && finB q)
  · rw [mul_inf _ np nq f, mul_inf _ np nq f]; exact Int.le_refl _
  · rw [Bool.and_eq_true] at f
    rw [mul_fin _ f.1 f.2, mul_fin _ f.1 f.2]
    have s := plc_sides (val p * val q) (pw 1074)
    omega
theorem prod_sub {a b c d a' b' c' d' : Nat} (h : Sub a b a' b') (k : Sub c d c' d') : Sub (prodI a b c d).1 (prodI a b c d).2 (prodI a' b' c' d').1 (prodI a' b' c' d').2 := by
  have e1 : prodI a b c d = endsI (mulL a b c d) (mulH a b c d) := by unfold prodI; rw [h.n, k.n]; rfl
  have e2 : prodI a' b' c' d' = endsI (mulL a' b' c' d') (mulH a' b' c' d') := by unfold prodI; rw [h.m, k.m]; rfl
  rw [e1, e2]
  have n1 := h.E.ca.num
  have n2 := h.E.cb.num
  have n3 := k.E.ca.num
  have n4 := k.E.cb.num
  have cc := can_mulL n1 n2 n3 n4
  have cc' := can_mulL h.F.ca.num h.F.cb.num k.F.ca.num k.F.cb.num
  have l := h.lo
  have u := h.hi
  have l2 := k.lo
  have u2 := k.hi
  have o := h.E.le
  have o2 := k.E.le
  have W := fun (p q : Nat) (np : nan p = false) (nq : nan q = false) (h1 : idx a' ≤ idx p) (h2 : idx p ≤ idx b') (h3 : idx c' ≤ idx q) (h4 : idx q ≤ idx d') => mul_within h.F.ca.num h.F.cb.num k.F.ca.num k.F.cb.num np nq h1 h2 h3 h4
  have w1 := W a c n1 n3 (by omega) (by omega) (by omega) (by omega)
  have w2 := W a d n1 n4 (by omega) (by omega) (by omega) (by omega)
  have w3 := W b c n2 n3 (by omega) (by omega) (by omega) (by omega)
  have w4 := W b d n2 n4 (by omega) (by omega) (by omega) (by omega)
  have v := mul_within n1 n2 n3 n4 n1 n3 (Int.le_refl _) o (Int.le_refl _) o2
  have s := mul_sides n1 n3
  have il := idx_le cc'.1.num
  have iu := idx_le cc'.2.num
  refine ends_sub cc.1 cc.2 cc'.1 cc'.2 (by omega) ?_ ?_
  · generalize idx (mulL a' b' c' d') = X at *
    have k1 := can_min can_pinf (can_mul (-1) n1 n3)
    have k2 := can_min k1 (can_mul (-1) n1 n4)
    have k3 := can_min k2 (can_mul (-1) n2 n3)
    unfold mulL lo4
    rw [minF_idx k3.num (can_mul (-1) n2 n4).num, minF_idx k2.num (can_mul (-1) n2 n3).num, minF_idx k1.num (can_mul (-1) n1 n4).num, minF_idx can_pinf.num (can_mul (-1) n1 n3).num, idx_pinf]
    omega
  · generalize idx (mulH a' b' c' d') = X at *
    have k1 := can_max can_ninf (can_mul 1 n1 n3)
    have k2 := can_max k1 (can_mul 1 n1 n4)
    have k3 := can_max k2 (can_mul 1 n2 n3)
    unfold mulH hi4
    rw [maxF_idx k3.num (can_mul 1 n2 n4).num, maxF_idx k2.num (can_mul 1 n2 n3).num, maxF_idx k1.num (can_mul 1 n1 n4).num, maxF_idx can_ninf.num (can_mul 1 n1 n3).num, idx_ninf]
    omega
/-! ### Amounts, squares, roots, meets -/
theorem mag_idx {a b : Nat} (E : Ends a b) (n : noneB a b = false) : Can (magI a b) ∧ Can (migI a b) ∧ idx (magI a b) = max (max (idx a) (- idx a)) (max (idx b) (- idx b)) ∧ idx (migI a b) = (if idx a ≤ 0 ∧ 0 ≤ idx b then 0 else min (max (idx a) (- idx a)) (max (idx b) (- idx b))) := by
  obtain ⟨c1, c2⟩ := can_mag n
  obtain ⟨a1, a2⟩ := rung_abs2 a
  obtain ⟨b1, b2⟩ := rung_abs2 b
  refine ⟨c1, c2, ?_, ?_⟩
  · unfold magI
    rw [n, if_neg Bool.false_ne_true, maxF_idx (can_rung E.ca.num).num (can_rung E.cb.num).num]
    omega
  · unfold migI
    rw [n]
    have z : idx 0 = 0 := by decide
    have e : fle a 0 = decide (idx a ≤ 0) := by unfold fle; rw [E.ca.num, show nan 0 = false by decide, z]; simp
    rw [e, (flt0 E.cb).2.2.1]
    simp only [Bool.false_or, Bool.and_eq_true, decide_eq_true_eq]
    split
    · exact z
    · rw [minF_idx (can_rung E.ca.num).num (can_rung E.cb.num).num]
      omega
/-! ### Quotients -/
theorem idx0 : idx 0 = 0 := by decide
theorem none00' : noneB 0 0 = false := none_can can_zero can_zero (by decide) (by decide) (by decide)
theorem ends00 : Ends 0 0 ∧ noneB 0 0 = false := ⟨ends_of (by decide) (by decide) none00', none00'⟩

/-! ### Powers -/
end Go.Proofs.YtpkgpkabmechkaaGreat
