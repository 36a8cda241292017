/- Intervals as pairs: what is made of them is of 64 bits; the contracts so. -/
import Derived.Test.YtkmgfbhnioojhaaGreatPmW56
import Derived.Test.YtkmgfbhnioojhaaGreatPmW36x
import Derived.Test.YtkmgfbhnioojhaaGreatPmFlC
import Derived.Test.YtkmgfbhnioojhaaGreatPmTail
namespace Go.Proofs.YtkmgfbhnioojhaaGreat
set_option linter.unusedSimpArgs false
set_option linter.unusedVariables false
open Go.RowKit
open Fl

/-- Both ends are of 64 bits. -/
def Lt (x : Nat × Nat) : Prop := x.1 < 18446744073709551616 ∧ x.2 < 18446744073709551616
theorem lt_emp : Lt (9218868437227405312, 18442240474082181120) := ⟨by show (9218868437227405312 : Nat) < _; decide, by show (18442240474082181120 : Nat) < _; decide⟩
theorem lt_all : Lt (18442240474082181120, 9218868437227405312) := ⟨by show (18442240474082181120 : Nat) < _; decide, by show (9218868437227405312 : Nat) < _; decide⟩

def addP (x y : Nat × Nat) : Nat × Nat := sumI x.1 x.2 y.1 y.2
def subP (x y : Nat × Nat) : Nat × Nat := diffI x.1 x.2 y.1 y.2
def mulP (x y : Nat × Nat) : Nat × Nat := prodI x.1 x.2 y.1 y.2
def divP (x y : Nat × Nat) : Nat × Nat := quotI x.1 x.2 y.1 y.2
def negP (x : Nat × Nat) : Nat × Nat := negI x.1 x.2
def sqrP (x : Nat × Nat) : Nat × Nat := sqrI x.1 x.2
def meetP (x y : Nat × Nat) : Nat × Nat := meetI x.1 x.2 y.1 y.2
def hullP (x y : Nat × Nat) : Nat × Nat := hullI x.1 x.2 y.1 y.2
def ptP (a : Nat) : Nat × Nat := makeI a a

theorem lt_make {a b : Nat} (ha : a < 18446744073709551616) (hb : b < 18446744073709551616) : Lt (makeI a b) := makeI_lt ha hb
theorem lt_pt {a : Nat} (ha : a < 18446744073709551616) : Lt (ptP a) := makeI_lt ha ha
theorem lt_sumI {a b c d : Nat} (ha : a < 18446744073709551616) (hb : b < 18446744073709551616) (hc : c < 18446744073709551616) (hd : d < 18446744073709551616) : Lt (sumI a b c d) := by
  unfold sumI; split
  · exact lt_emp
  · exact endsI_lt (addS_lt _ ha hc) (addS_lt _ hb hd)
theorem lt_add {x y : Nat × Nat} (hx : Lt x) (hy : Lt y) : Lt (addP x y) := lt_sumI hx.1 hx.2 hy.1 hy.2
theorem lt_neg {x : Nat × Nat} (hx : Lt x) : Lt (negP x) := negI_lt hx.1 hx.2
theorem lt_sub {x y : Nat × Nat} (hx : Lt x) (hy : Lt y) : Lt (subP x y) := lt_sumI hx.1 hx.2 (lt_neg hy).1 (lt_neg hy).2
theorem lt_mul {x y : Nat × Nat} (hx : Lt x) (hy : Lt y) : Lt (mulP x y) := by
  unfold mulP prodI; split
  · exact lt_emp
  · rename_i h
    rw [Bool.or_eq_true, not_or] at h
    obtain ⟨n1, n2⟩ := nums_of (Bool.eq_false_iff.2 h.1)
    obtain ⟨n3, n4⟩ := nums_of (Bool.eq_false_iff.2 h.2)
    exact endsI_lt (can_mulL n1 n2 n3 n4).1.lt (can_mulL n1 n2 n3 n4).2.lt
theorem lt_quotB {a b d : Nat} : Lt (quotB a b d) := by
  unfold quotB; split
  · exact endsI_lt (divS_lt _) (by decide)
  · exact endsI_lt (by decide) (divS_lt _)
theorem lt_quotI (a b c d : Nat) : Lt (quotI a b c d) := by
  unfold quotI; split
  · exact lt_emp
  · split
    · exact lt_emp
    · split
      · exact ⟨by decide, by decide⟩
      · split
        · exact endsI_lt (can_loD _ _ _ _).lt (can_hiD _ _ _ _).lt
        · split
          · exact lt_all
          · split <;> exact lt_quotB
theorem lt_div {x y : Nat × Nat} : Lt (divP x y) := lt_quotI _ _ _ _
theorem lt_sqr {x : Nat × Nat} : Lt (sqrP x) := by
  unfold sqrP sqrI; split
  · exact lt_emp
  · rename_i h
    obtain ⟨c2, c1⟩ := can_mag (Bool.eq_false_iff.2 h)
    exact endsI_lt (can_pow c1 _ _).lt (can_pow c2 _ _).lt
theorem lt_meet {x y : Nat × Nat} (hx : Lt x) (hy : Lt y) : Lt (meetP x y) := by
  unfold meetP meetI; split
  · exact lt_emp
  · exact makeI_lt (maxF_lt hx.1 hy.1) (minF_lt hx.2 hy.2)
theorem lt_hull {x y : Nat × Nat} (hx : Lt x) (hy : Lt y) : Lt (hullP x y) := hullI_lt hx.1 hx.2 hy.1 hy.2

section
variable {x y : Nat × Nat}
theorem addC (hx : Lt x) (hy : Lt y) : Gives 121 #[(.agg #[.float .f64 x.1, .float .f64 x.2]), (.agg #[.float .f64 y.1, .float .f64 y.2])] (.agg #[.float .f64 ((addP x y).1), .float .f64 ((addP x y).2)]) := add_ival_any _ _ _ _ hx.1 hx.2 hy.1 hy.2
theorem subC (hx : Lt x) (hy : Lt y) : Gives 117 #[(.agg #[.float .f64 x.1, .float .f64 x.2]), (.agg #[.float .f64 y.1, .float .f64 y.2])] (.agg #[.float .f64 ((subP x y).1), .float .f64 ((subP x y).2)]) := sub_ival_any _ _ _ _ hx.1 hx.2 hy.1 hy.2
theorem mulC (hx : Lt x) (hy : Lt y) : Gives 166 #[(.agg #[.float .f64 x.1, .float .f64 x.2]), (.agg #[.float .f64 y.1, .float .f64 y.2])] (.agg #[.float .f64 ((mulP x y).1), .float .f64 ((mulP x y).2)]) := mul_ival_any _ _ _ _ hx.1 hx.2 hy.1 hy.2
theorem divC (hx : Lt x) (hy : Lt y) : Gives 113 #[(.agg #[.float .f64 x.1, .float .f64 x.2]), (.agg #[.float .f64 y.1, .float .f64 y.2])] (.agg #[.float .f64 ((divP x y).1), .float .f64 ((divP x y).2)]) := quot_ival_any _ _ _ _ hx.1 hx.2 hy.1 hy.2
theorem negC (hx : Lt x) : Gives 118 #[(.agg #[.float .f64 x.1, .float .f64 x.2])] (.agg #[.float .f64 ((negP x).1), .float .f64 ((negP x).2)]) := neg_any _ _ hx.1 hx.2
theorem sqrC (hx : Lt x) : Gives 175 #[(.agg #[.float .f64 x.1, .float .f64 x.2])] (.agg #[.float .f64 ((sqrP x).1), .float .f64 ((sqrP x).2)]) := sqr_any _ _ hx.1 hx.2
theorem meetC (hx : Lt x) (hy : Lt y) : Gives 54 #[(.agg #[.float .f64 x.1, .float .f64 x.2]), (.agg #[.float .f64 y.1, .float .f64 y.2])] (.agg #[.float .f64 ((meetP x y).1), .float .f64 ((meetP x y).2)]) := meet_any _ _ _ _ hx.1 hx.2 hy.1 hy.2
theorem hullC (hx : Lt x) (hy : Lt y) : Gives 183 #[(.agg #[.float .f64 x.1, .float .f64 x.2]), (.agg #[.float .f64 y.1, .float .f64 y.2])] (.agg #[.float .f64 ((hullP x y).1), .float .f64 ((hullP x y).2)]) := hull_any _ _ _ _ hx.1 hx.2 hy.1 hy.2
theorem ptC {a : Nat} (ha : a < 18446744073709551616) : Gives 53 #[(.float .f64 a)] (.agg #[.float .f64 ((ptP a).1), .float .f64 ((ptP a).2)]) := point_any a ha
theorem addR (hx : Lt x) (hy : Lt y) : Gives 50 #[(.agg #[.float .f64 x.1, .float .f64 x.2]), (.agg #[.float .f64 y.1, .float .f64 y.2])] (.agg #[.float .f64 ((addP x y).1), .float .f64 ((addP x y).2)]) := add_ref_any _ _ _ _ hx.1 hx.2 hy.1 hy.2
theorem subR (hx : Lt x) (hy : Lt y) : Gives 48 #[(.agg #[.float .f64 x.1, .float .f64 x.2]), (.agg #[.float .f64 y.1, .float .f64 y.2])] (.agg #[.float .f64 ((subP x y).1), .float .f64 ((subP x y).2)]) := sub_ref_any _ _ _ _ hx.1 hx.2 hy.1 hy.2
theorem mulR (hx : Lt x) (hy : Lt y) : Gives 47 #[(.agg #[.float .f64 x.1, .float .f64 x.2]), (.agg #[.float .f64 y.1, .float .f64 y.2])] (.agg #[.float .f64 ((mulP x y).1), .float .f64 ((mulP x y).2)]) := mul_ref_any _ _ _ _ hx.1 hx.2 hy.1 hy.2
theorem divR (hx : Lt x) (hy : Lt y) : Gives 45 #[(.agg #[.float .f64 x.1, .float .f64 x.2]), (.agg #[.float .f64 y.1, .float .f64 y.2])] (.agg #[.float .f64 ((divP x y).1), .float .f64 ((divP x y).2)]) := quot_ref_any _ _ _ _ hx.1 hx.2 hy.1 hy.2
theorem negR (hx : Lt x) : Gives 43 #[(.agg #[.float .f64 x.1, .float .f64 x.2])] (.agg #[.float .f64 ((negP x).1), .float .f64 ((negP x).2)]) := neg_ref_any _ _ hx.1 hx.2
end
end Go.Proofs.YtkmgfbhnioojhaaGreat

/- Plain: what the functions beyond roots are worked out as. -/
namespace Go.Proofs.YtkmgfbhnioojhaaGreat
set_option linter.unusedSimpArgs false
set_option linter.unusedVariables false
open Go.RowKit
open Fl

def ln2P : Nat × Nat := (4604418534313441775, 4604418534313441776)
def piP : Nat × Nat := (4614256656552045848, 4614256656552045849)
def wholeP (n : Int) : Nat × Nat := ptP (floatOfInt .f64 n)
/-- 2^e, by the library. -/
def ldx (e : Int) : Nat := rungOf (G 4607182418800017408 * 2 ^ e.toNat) (2 ^ (-e).toNat) 0
/-- From a sum worked out so far: what becomes of it in k more rounds. -/
def serP (F : Int → Nat × Nat) : Nat → Nat × Nat → Nat × Nat
  | 0, s => s
  | k + 1, s => serP F k (addP (wholeP 1) (mulP (F ((k : Int) + 1)) s))
def aroundP (x : Nat × Nat) (e : Nat) : Nat × Nat := addP x (makeI (fneg e) e)
def riseP (x : Nat × Nat) (f : Nat → Nat × Nat) : Nat × Nat :=
  if noneB x.1 x.2 then (9218868437227405312, 18442240474082181120) else makeI (f x.1).1 (f x.2).2

/-- How many of a unit c, to the nearest whole one. -/
def nearF (v c : Nat) : Nat := floorF (fa (fq v c) 4602678819172646912)
def nearI (v c : Nat) : Int := flrI (fa (fq v c) 4602678819172646912)

theorem ldx_lt (e : Int) : ldx e < 18446744073709551616 := Nat.lt_of_le_of_lt (rungOf_le _ _ _) (by decide)
theorem lt_whole (n : Int) : Lt (wholeP n) := lt_pt (ofI_lt n)
theorem lt_ln2 : Lt ln2P := ⟨by show (4604418534313441775 : Nat) < _; decide, by show (4604418534313441776 : Nat) < _; decide⟩
theorem lt_pi : Lt piP := ⟨by show (4614256656552045848 : Nat) < _; decide, by show (4614256656552045849 : Nat) < _; decide⟩
theorem lt_ser {F : Int → Nat × Nat} (hF : ∀ i, Lt (F i)) : ∀ (k : Nat) {s : Nat × Nat}, Lt s → Lt (serP F k s)
  | 0, _, h => h
  | k + 1, _, h => lt_ser hF k (lt_add (lt_whole 1) (lt_mul (hF _) h))
theorem lt_around {x : Nat × Nat} (h : Lt x) {e : Nat} (he : e < 18446744073709551616) : Lt (aroundP x e) := lt_add h (lt_make (fneg_lt e) he)
theorem lt_rise {x : Nat × Nat} {f : Nat → Nat × Nat} (hf : ∀ v, Lt (f v)) : Lt (riseP x f) := by
  unfold riseP; split
  · exact lt_emp
  · exact lt_make (hf _).1 (hf _).2

/-! ### What may be -/
/-! ### Near whole ones -/
theorem rung_small {v A : Nat} (hA : A < SW) (nv : nan v = false) (h1 : idx v ≤ A) (h2 : -(A : Int) ≤ idx v) : rung v ≤ A := by
  unfold idx at h1 h2
  cases hs : sgn v
  · rw [hs] at h1; simp at h1; omega
  · rw [hs] at h2; simp at h2; omega

theorem near_any {v c L P : Nat} (hv : rung v < INFR) (hc : rung c < INFR) (h0 : rung c ≠ 0) (hL : L ≤ 100000) (hP : P < INFR) (h : 3 * (G (rung v) * pw 1074) ≤ 2 * (G P * G (rung c))) (hPL : G P ≤ L * pw 1074) :
    floatBits .quo .f64 v c = some (fq v c) ∧ floatBits .add .f64 (fq v c) 4602678819172646912 = some (fa (fq v c) 4602678819172646912) ∧ nan (fa (fq v c) 4602678819172646912) = false ∧ fa (fq v c) 4602678819172646912 < 18446744073709551616 ∧
    nearF v c < 18446744073709551616 ∧ -((L : Int) + 1) ≤ nearI v c ∧ nearI v c ≤ (L : Int) + 1 ∧ floatToIntVal .f64 (nearF v c) .i64 = some (nearI v c) := by
  obtain ⟨q1, q2⟩ := fq_small hv hc h0 hP h
  have q3 : rung (fq v c) < INFR := Nat.lt_of_le_of_lt q1 hP
  have hh : rung 4602678819172646912 < INFR := by decide
  obtain ⟨r, r1, r2⟩ := whole_rung (q := L + 1) (by omega)
  have a1 := fa_num q3 hh
  have s1 : rung (fa (fq v c) 4602678819172646912) ≤ r := by
    refine fa_small q3 hh r1 ?_
    rw [r2, Nat.add_mul, Nat.one_mul]
    have e1 := G_le q1
    have e2 := G_half
    rw [show rung 4602678819172646912 = 4602678819172646912 by decide]
    generalize 4602678819172646912 = half at *
    omega
  have s2 : rung (fa (fq v c) 4602678819172646912) < INFR := Nat.lt_of_le_of_lt s1 r1
  obtain ⟨f1, f2, f3, f4, f5, f6⟩ := floor_any (x := fa (fq v c) 4602678819172646912) (B := L + 1) s2 (by omega) (by rw [← r2]; exact G_le s1)
  exact ⟨fq_some hv hc h0, fa_some q3 hh, a1, fa_lt q3 hh, f2, by unfold nearI; omega, by unfold nearI; omega, f6⟩

theorem quo_bound {g T U a N l M : Nat} (h : 3 * (a * N) ≤ 2 * (l * M)) (hg : g ≤ a * T) (hT : T = U * N) : 3 * (g * T) ≤ 2 * (l * T * (M * U)) := by
  have h1 : 3 * (g * T) ≤ 3 * (a * T * T) := Nat.mul_le_mul_left _ (Nat.mul_le_mul_right _ hg)
  have e0 : a * T * T = a * T * (U * N) := congrArg (a * T * ·) hT
  have e1 : 3 * (a * T * (U * N)) = 3 * (a * N) * (T * U) := by ac_rfl
  have e2 : 2 * (l * T * (M * U)) = 2 * (l * M) * (T * U) := by ac_rfl
  have := Nat.mul_le_mul_right (T * U) h
  omega

theorem G_746 : G 4649773101213548544 = 746 * pw 1074 := by
  rw [G_at_num (K := 1031) (m := 2058285767196672) (by decide) (by decide), pw_split (show 1074 = 1031 + 43 by decide)]
  rw [show 746 * (pw 1031 * 2 ^ 43) = (746 * 2 ^ 43) * pw 1031 by ac_rfl]
theorem G_1700 : G 4655191494515228672 = 1700 * pw 1074 := by
  rw [G_at_num (K := 1032) (m := 2973079441506304) (by decide) (by decide), pw_split (show 1074 = 1032 + 42 by decide)]
  rw [show 1700 * (pw 1032 * 2 ^ 42) = (1700 * 2 ^ 42) * pw 1032 by ac_rfl]
theorem G_1000 : G 4652007308841189376 = 1000 * pw 1074 := by
  rw [G_at_num (K := 1031) (m := 4292493394837504) (by decide) (by decide), pw_split (show 1074 = 1031 + 43 by decide)]
  rw [show 1000 * (pw 1031 * 2 ^ 43) = (1000 * 2 ^ 43) * pw 1031 by ac_rfl]
theorem G_ln2 : G 4604418534313441775 = 6243314768165359 * pw 1021 := G_at_num (K := 1021) (m := 1739715140794863) (by decide) (by decide)
theorem G_quarter : G 4609753056924675352 = 7074237752028440 * pw 1022 := G_at_num (K := 1022) (m := 2570638124657944) (by decide) (by decide)

/-- How many logarithms of 2, of a number from -746 to 710. -/
theorem near_ln2 {v : Nat} (nv : nan v = false) (h1 : idx v ≤ 4649456441864749056) (h2 : -4649773101213548544 ≤ idx v) :
    floatBits .quo .f64 v 4604418534313441775 = some (fq v 4604418534313441775) ∧ floatBits .add .f64 (fq v 4604418534313441775) 4602678819172646912 = some (fa (fq v 4604418534313441775) 4602678819172646912) ∧ nan (fa (fq v 4604418534313441775) 4602678819172646912) = false ∧ fa (fq v 4604418534313441775) 4602678819172646912 < 18446744073709551616 ∧
    nearF v 4604418534313441775 < 18446744073709551616 ∧ -((1700 : Nat) + 1 : Int) ≤ nearI v 4604418534313441775 ∧ nearI v 4604418534313441775 ≤ ((1700 : Nat) : Int) + 1 ∧ floatToIntVal .f64 (nearF v 4604418534313441775) .i64 = some (nearI v 4604418534313441775) := by
  have r1 : rung v ≤ 4649773101213548544 := rung_small (by decide) nv (by omega) (by omega)
  have g1 := G_le r1
  rw [G_746] at g1
  refine near_any (P := 4655191494515228672) (Nat.lt_of_le_of_lt r1 (by decide)) (by decide) (by decide) (by decide) (by decide) ?_ (Nat.le_of_eq G_1700)
  rw [G_1700, show rung 4604418534313441775 = 4604418534313441775 by decide, G_ln2]
  exact quo_bound (N := 2 ^ 53) (by decide) g1 (pw_split (by decide))

/-- How many quarters of a turn, of a number from -1000 to 1000. -/
theorem near_quarter {v : Nat} (nv : nan v = false) (h1 : idx v ≤ 4652007308841189376) (h2 : -4652007308841189376 ≤ idx v) :
    floatBits .quo .f64 v 4609753056924675352 = some (fq v 4609753056924675352) ∧ floatBits .add .f64 (fq v 4609753056924675352) 4602678819172646912 = some (fa (fq v 4609753056924675352) 4602678819172646912) ∧ nan (fa (fq v 4609753056924675352) 4602678819172646912) = false ∧ fa (fq v 4609753056924675352) 4602678819172646912 < 18446744073709551616 ∧
    nearF v 4609753056924675352 < 18446744073709551616 ∧ -((1000 : Nat) + 1 : Int) ≤ nearI v 4609753056924675352 ∧ nearI v 4609753056924675352 ≤ ((1000 : Nat) : Int) + 1 ∧ floatToIntVal .f64 (nearF v 4609753056924675352) .i64 = some (nearI v 4609753056924675352) := by
  have r1 : rung v ≤ 4652007308841189376 := rung_small (by decide) nv (by omega) (by omega)
  have g1 := G_le r1
  rw [G_1000] at g1
  refine near_any (P := 4652007308841189376) (Nat.lt_of_le_of_lt r1 (by decide)) (by decide) (by decide) (by decide) (by decide) ?_ (Nat.le_of_eq G_1000)
  rw [G_1000, show rung 4609753056924675352 = 4609753056924675352 by decide, G_quarter]
  exact quo_bound (N := 2 ^ 52) (by decide) g1 (pw_split (by decide))

/-- The floor of quarters. -/
theorem floor_quarter {v : Nat} (nv : nan v = false) (h1 : idx v ≤ 4652007308841189376) (h2 : -4652007308841189376 ≤ idx v) :
    floatBits .quo .f64 v 4609753056924675352 = some (fq v 4609753056924675352) ∧ nan (fq v 4609753056924675352) = false ∧ fq v 4609753056924675352 < 18446744073709551616 ∧
    -(1000 : Int) ≤ flrI (fq v 4609753056924675352) ∧ flrI (fq v 4609753056924675352) ≤ 1000 ∧ floatToIntVal .f64 (floorF (fq v 4609753056924675352)) .i64 = some (flrI (fq v 4609753056924675352)) := by
  have r1 : rung v ≤ 4652007308841189376 := rung_small (by decide) nv (by omega) (by omega)
  have g1 := G_le r1
  rw [G_1000] at g1
  have hq := fq_small (P := 4652007308841189376) (a := v) (b := 4609753056924675352) (Nat.lt_of_le_of_lt r1 (by decide)) (by decide) (by decide) (by decide) (by
    rw [G_1000, show rung 4609753056924675352 = 4609753056924675352 by decide, G_quarter]
    exact quo_bound (N := 2 ^ 52) (by decide) g1 (pw_split (by decide)))
  have s2 : rung (fq v 4609753056924675352) < INFR := Nat.lt_of_le_of_lt hq.1 (by decide)
  obtain ⟨f1, f2, f3, f4, f5, f6⟩ := floor_any (x := fq v 4609753056924675352) (B := 1000) s2 (by decide) (by rw [← G_1000]; exact G_le hq.1)
  exact ⟨fq_some (Nat.lt_of_le_of_lt r1 (by decide)) (by decide) (by decide), nan_false.2 (Nat.le_of_lt s2), hq.2, by simpa using f4, by simpa using f5, f6⟩

/-! ### The functions -/
def expR (v : Nat) : Nat × Nat := subP (ptP v) (mulP (ptP (nearF v 4604418534313441775)) ln2P)
def expS (r : Nat × Nat) : Nat × Nat := aroundP (serP (fun i => divP r (wholeP i)) 18 (wholeP 1)) (ldx (-75))
def expT (s : Nat × Nat) (k : Int) : Nat × Nat := mulP (mulP s (ptP (ldx (k.tdiv 2)))) (ptP (ldx (k - k.tdiv 2)))
def expV (v : Nat) : Nat × Nat :=
  if flt 4649456441864749056 v then (9218868437227405311, 9218868437227405312)
  else if flt v 13873145138068324352 then (0, 1)
  else expT (expS (expR v)) (nearI v 4604418534313441775)
def expP (x : Nat × Nat) : Nat × Nat := riseP x expV

theorem lt_expV (v : Nat) : Lt (expV v) := by
  unfold expV; split
  · exact ⟨by show (9218868437227405311 : Nat) < _; decide, by show (9218868437227405312 : Nat) < _; decide⟩
  · split
    · exact ⟨by show (0 : Nat) < _; decide, by show (1 : Nat) < _; decide⟩
    · unfold expT expS expR
      refine lt_mul (lt_mul ?_ (lt_pt (ldx_lt _))) (lt_pt (ldx_lt _))
      exact lt_around (lt_ser (fun i => lt_div) _ (lt_whole 1)) (ldx_lt _)
theorem lt_exp (x : Nat × Nat) : Lt (expP x) := lt_rise lt_expV

/-- The sine (on 0), or the cosine (1), of a number of at most 1000. -/
def turnQ : Nat × Nat := mulP piP (ptP 4602678819172646912)
def turnR (v : Nat) : Nat × Nat := subP (ptP v) (mulP (ptP (nearF v 4609753056924675352)) turnQ)
def turnS (q : Nat × Nat) (odd : Int) : Nat × Nat := aroundP (serP (fun i => divP q (wholeP ((2 * i - 1 + odd) * (2 * i + odd)))) 11 (wholeP 1)) (ldx (-70))
def turnU (r : Nat × Nat) (j : Int) : Nat × Nat := if j.tmod 2 = 0 then mulP (turnS (negP (sqrP r)) 1) r else turnS (negP (sqrP r)) 0
def turnV (v : Nat) (on : Int) : Nat × Nat :=
  if bits BinOp.and IntKind.i64 (nearI v 4609753056924675352 + on) 2 = 0 then turnU (turnR v) (nearI v 4609753056924675352 + on) else negP (turnU (turnR v) (nearI v 4609753056924675352 + on))

/-- The range of the sine (on 0) or the cosine (on 1). -/
def roundC (h : Nat) (n : Int) : Bool := flt (fm (floatOfInt .f64 (n - 1)) 4609752623107357750) (fa h 4611686018427387904)
def roundAt (n : Int) : Nat × Nat := mulP (ptP (floatOfInt .f64 n)) turnQ
def roundStep (x : Nat × Nat) (on n : Int) (out : Nat × Nat) : Nat × Nat :=
  if (n + on).tmod 2 = 0 then out
  else if eqI (meetP (roundAt n) x).1 (meetP (roundAt n) x).2 9218868437227405312 18442240474082181120 then out
  else if bits BinOp.and IntKind.i64 (n + on) 2 = 0 then hullP out (wholeP 1) else hullP out (wholeP (-1))
def roundGo (x : Nat × Nat) (on : Int) : Nat → Int → Nat × Nat → Nat × Nat
  | 0, _, out => out
  | f + 1, n, out => if roundC x.2 n then roundGo x on f (n + 1) (roundStep x on n out) else out
def roundF (x : Nat × Nat) : Int := flrI (fq x.1 4609753056924675352) - 1
def unitP : Nat × Nat := (13830554455654793216, 4607182418800017408)
def roundP (x : Nat × Nat) (on : Int) : Nat × Nat :=
  if noneB x.1 x.2 then (9218868437227405312, 18442240474082181120)
  else if flt 4652007308841189376 (magI x.1 x.2) then unitP
  else meetP (roundGo x on (1700 - roundF x).toNat (roundF x) (hullP (turnV x.1 on) (turnV x.2 on))) unitP

end Go.Proofs.YtkmgfbhnioojhaaGreat

/- Contracts: whole numbers, widening, series, the functions worked out at a number (layer 3). -/
namespace Go.Proofs.YtkmgfbhnioojhaaGreat
set_option linter.unusedSimpArgs false
set_option linter.unusedVariables false
open Go.RowKit
open Fl

set_option maxHeartbeats 400000 in
theorem whole_c (n : Int) : Gives 122 #[.int .i64 n] (.agg #[.float .f64 ((wholeP n).1), .float .f64 ((wholeP n).2)]) := by
  intro w
  have P := ptC (ofI_lt n)
  unfold wholeP
  generalize ptP (floatOfInt .f64 n) = r at *
  go_enter Tryz.func122, Tryz.ntmps122
  go_wp2_with (go_at_call 53; (with_reducible refine (P.go _).mono ?_); rintro _ _ ⟨nn, rfl, rfl⟩)
  go_returns
  exact ⟨rfl, by (repeat' first | (with_reducible first | exact Below.refl _ _ | assumption | refine Later.belowOf _ ?_ ?_ | refine Below.alloc ?_ ?_ _ | refine Below.setCell ?_ ?_ _ | refine Below.drewN' _ ?_ | refine Below.drew ?_ | exact Ge.le) | go_size)⟩

set_option maxHeartbeats 400000 in
theorem around_c {x : Nat × Nat} {e : Nat} (hx : Lt x) (he : e < 18446744073709551616) : Gives 169 #[(.agg #[.float .f64 x.1, .float .f64 x.2]), (.float .f64 e)] (.agg #[.float .f64 ((aroundP x e).1), .float .f64 ((aroundP x e).2)]) := by
  intro w
  have ne := fneg_eq he
  have M := make_any (fneg e) e (fneg_lt e) he
  have A := addC hx (lt_make (fneg_lt e) he)
  unfold aroundP
  generalize fneg e = f at *
  generalize makeI f e = m at *
  generalize addP x m = r at *
  obtain ⟨x1, x2⟩ := x
  go_enter Tryz.func169, Tryz.ntmps169
  go_wp2_with (fail)
  (refine wp_region_tail_later 6 (by kernel_rfl) (by kernel_rfl) ?_; simp only [List.take_succ_cons, List.take_zero, List.drop_succ_cons, List.drop_zero])
  repeat (go_big_quiet_step (first | (go_at_call 123; (with_reducible exact M.later _)) | (go_at_call 121; (with_reducible exact A.later _))))
  (refine wpQuiet_nil ?_; rintro _ ⟨nq, rfl⟩)
  go_wp2
  go_returns
  exact ⟨rfl, by (repeat' first | (with_reducible first | exact Below.refl _ _ | assumption | refine Later.belowOf _ ?_ ?_ | refine Below.alloc ?_ ?_ _ | refine Below.setCell ?_ ?_ _ | refine Below.drewN' _ ?_ | refine Below.drew ?_ | exact Ge.le) | go_size)⟩

theorem ldexp_one (e : Int) (h1 : -1075 ≤ e) (h2 : e ≤ 1023) : Gives 170 #[(.float .f64 4607182418800017408), .int .i64 e] (.float .f64 (ldx e)) :=
  Ldexp_pos 4607182418800017408 e 1023 (by decide) (by decide) (by decide) (by omega) (by omega)

/-! ### A block of an interval, of the call's own -/
/-- Block b holds an interval, and may be written. -/
structure Box (w : World) (b : Nat) (x : Nat × Nat) : Prop where
  blk : w.heap[b]? = some (Obj.cells #[(.float .f64 x.1), (.float .f64 x.2)] 24)
namespace Box
variable {w : World} {b : Nat} {x : Nat × Nat}
theorem c0 (h : Box w b x) : w.cell? ⟨b, 0, none⟩ = some (.float .f64 x.1) := by simp [World.cell?, h.blk]
theorem c1 (h : Box w b x) : w.cell? ⟨b, 1, none⟩ = some (.float .f64 x.2) := by simp [World.cell?, h.blk]
theorem f0 (h : Box w b x) : w.frozen? ⟨b, 0, none⟩ = false := by simp [World.frozen?, h.blk]
theorem f1 (h : Box w b x) : w.frozen? ⟨b, 1, none⟩ = false := by simp [World.frozen?, h.blk]
theorem lt (h : Box w b x) : b < w.heap.size := by
  rcases Nat.lt_or_ge b w.heap.size with h' | h'
  · exact h'
  · have := h.blk; simp [Array.getElem?_eq_none h'] at this
theorem below (h : Box w b x) {w' : World} (hb : Below w.heap.size w w') : Box w' b x := ⟨(hb.block b h.lt).trans h.blk⟩
theorem alloc (h : Box w b x) (o : Obj) : Box (w.alloc o) b x := h.below ((Below.refl _ _).alloc (Nat.le_refl _) _)
theorem later (h : Box w b x) (n : Later w) : Box n.val b x := h.below n.below
theorem new (w : World) (p q : Nat) : Box (w.alloc (Obj.cells #[(.float .f64 p), (.float .f64 q)] 24)) w.heap.size (p, q) := ⟨by unfold World.alloc; simp [Array.getElem?_push]⟩
theorem set (h : Box w b x) (p q : Nat) : Box ((w.setCell ⟨b, 0, none⟩ (.float .f64 p)).setCell ⟨b, 1, none⟩ (.float .f64 q)) b (p, q) := by
  have hl := h.lt
  have e := h.blk
  have e2 : w.heap[b] = Obj.cells #[(.float .f64 x.1), (.float .f64 x.2)] 24 := by simpa [Array.getElem?_eq_getElem hl] using e
  refine ⟨?_⟩
  unfold World.setCell
  simp [Array.getElem?_modify, e]
theorem set0 (h : Box w b x) (v : Value) : (w.setCell ⟨b, 0, none⟩ v).cell? ⟨b, 0, none⟩ = some v := World.cell?_setCell_same _ _ _ h.c0
theorem set1 (h : Box w b x) (p : Nat) (v : Value) : ((w.setCell ⟨b, 0, none⟩ (.float .f64 p)).setCell ⟨b, 1, none⟩ v).cell? ⟨b, 1, none⟩ = some v := by
  refine World.cell?_setCell_same' _ _ _ ?_
  have := h.c1
  simp [go_sem, this]
theorem set_other (h : Box w b x) {a : Addr} (v : Value) (ha : a.block ≠ b) : Box (w.setCell a v) b x := ⟨by rw [Below.heap_setCell _ _ _ _ (fun e => ha e.symm)]; exact h.blk⟩
end Box

/-! ### Series -/
/-- A function value gives F, in all later worlds. -/
def FnOk (K : FuncId) (caps : Array Value) (F : Int → Nat × Nat) (w : World) : Prop :=
  (∀ (x : Value) (w' : World), (callFunc K (#[x] ++ caps)).run Tryz.prog w' = .ok (.enter K (#[x] ++ caps)) w') ∧ ∀ (i : Int) (m : World), 1 ≤ i → i ≤ 100 → Below w.heap.size w m → Calls Tryz.prog K (#[.int .i64 i] ++ caps) m fun e w' => e = .returned (.agg #[.float .f64 ((F i).1), .float .f64 ((F i).2)]) ∧ Below m.heap.size m w'
theorem FnOk.at {K : FuncId} {caps : Array Value} {F : Int → Nat × Nat} {w : World} (h : FnOk K caps F w) (i : Int) (i1 : 1 ≤ i) (i2 : i ≤ 100) {wr : World} (hb : Below w.heap.size w wr) (m : Later wr) :
    Calls Tryz.prog K (#[.int .i64 i] ++ caps) m.val fun e w'' => e = .returned (.agg #[.float .f64 ((F i).1), .float .f64 ((F i).2)]) ∧ ∃ r : Later wr, w'' = r.val :=
  (h.2 i m.val i1 i2 (hb.trans (m.below.mono hb.size))).mono fun _ w'' ⟨he, hb'⟩ => ⟨he, ⟨w'', m.below.trans (hb'.mono m.below.size)⟩, rfl⟩

def SerInv (w : World) (B : Nat) (n : Nat) (F : Int → Nat × Nat) (R : Nat × Nat) (i : Value) (wr : World) : Prop :=
  ∃ (k : Nat) (s : Nat × Nat), i = .int .i64 k ∧ k ≤ n ∧ Lt s ∧ Box wr w.heap.size (0, 0) ∧ Box wr B s ∧ serP F k s = R ∧ Below w.heap.size w wr

set_option maxHeartbeats 4000000 in
theorem series_c (n : Nat) (hn : n ≤ 100) (K : FuncId) (caps : Array Value) (F : Int → Nat × Nat) (hF : ∀ i, Lt (F i)) (w : World) (hK : FnOk K caps F w) :
    Calls Tryz.prog 167 #[.int .i64 n, .func (.func K) #[] caps] w fun e w' => e = .returned (.agg #[.float .f64 ((serP F n (wholeP 1)).1), .float .f64 ((serP F n (wholeP 1)).2)]) ∧ Below w.heap.size w w' := by
  have W := whole_c 1
  have l1 := lt_whole 1
  generalize hR : serP F n (wholeP 1) = R
  have HR := Lib.hid hR
  clear hR
  have HF := Lib.hid hF
  clear hF
  have HK := Lib.hid hK
  clear hK
  have HL := Lib.hid l1
  clear l1
  go_enter Tryz.func167, Tryz.ntmps167
  go_wp2_with (go_at_call 122; (with_reducible refine (W.go _).mono ?_); rintro _ _ ⟨nn, rfl, rfl⟩)
  go_loopw [6] (fun i wr => SerInv w nn.val.heap.size n F R i wr) (fun i _ => (intOf i).toNat)
  case atStart => exact ⟨n, _, rfl, Nat.le_refl _, HL.out, (Box.new w 0 0).below (by (repeat' first | (with_reducible first | exact Below.refl _ _ | assumption | refine Later.belowOf _ ?_ ?_ | refine Below.alloc ?_ ?_ _ | refine Below.setCell ?_ ?_ _ | refine Below.drewN' _ ?_ | refine Below.drew ?_ | exact Ge.le) | go_size)), Box.new _ _ _, HR.out, by (repeat' first | (with_reducible first | exact Below.refl _ _ | assumption | refine Later.belowOf _ ?_ ?_ | refine Below.alloc ?_ ?_ _ | refine Below.setCell ?_ ?_ _ | refine Below.drewN' _ ?_ | refine Below.drew ?_ | exact Ge.le) | go_size)⟩
  case round =>
    obtain ⟨k, s, rfl, hk, hs, b0, b1, hr, hbel⟩ := hrel
    have HS := Lib.hid hr
    clear hr
    have HB := Lib.hid (show _ ∧ _ from ⟨b0, b1⟩)
    haveI gb : Ge wr (nn.val.heap.size + 1) := ⟨b1.lt⟩
    haveI gc : Ge wr (w.heap.size + 1) := ⟨b0.lt⟩
    by_cases h0 : k = 0
    · subst h0
      have b0' := b0
      have c0 := b1.c0
      have c1 := b1.c1
      have d0 := b0.c0
      have d1 := b0.c1
      have f0 := b0.f0
      have f1 := b0.f1
      clear b0 b1
      obtain rfl : s = R := HS.out
      have e0 := b0'.set0 (.float .f64 s.1)
      have e1 := b0'.set1 s.1 (.float .f64 s.2)
      clear b0'
      go_wp2
      exact bodyPost_ret (v := (.agg #[.float .f64 s.1, .float .f64 s.2])) (by simp [results, Tryz.results167, go_sem, e0, e1]) rfl ⟨rfl, by (repeat' first | (with_reducible first | exact Below.refl _ _ | assumption | refine Later.belowOf _ ?_ ?_ | refine Below.alloc ?_ ?_ _ | refine Below.setCell ?_ ?_ _ | refine Below.drewN' _ ?_ | refine Below.drew ?_ | exact Ge.le) | go_size)⟩
    · have hk1 : 0 < k := by omega
      have lf := HF.out k
      have A1 := mulC lf hs
      have A2 := addC HL.out (lt_mul lf hs)
      have hcf := HK.out.1
      have A3 := fun m : Later wr => HK.out.at k (by omega) (by omega) hbel m
      generalize hF : F (k : Int) = f at *
      generalize hM : mulP f s = g at *
      generalize hA : addP (wholeP 1) g = t at *
      have HA := Lib.hid (show _ ∧ _ ∧ _ from ⟨hF, hM, hA⟩)
      clear hF hM hA
      have c0 := b1.c0
      have c1 := b1.c1
      have f0 := b1.f0
      have f1 := b1.f1
      clear b0 b1
      go_wp2_with (fail)
      (refine wp_region_tail_later 7 (by kernel_rfl) (by kernel_rfl) ?_; simp only [List.take_succ_cons, List.take_zero, List.drop_succ_cons, List.drop_zero])
      repeat (go_big_quiet_step (first | (go_at_call 122; (with_reducible exact W.later _)) | (go_at_call 166; (with_reducible exact A1.later _)) | (go_at_call 121; (with_reducible exact A2.later _)) | (with_reducible exact A3 _)))
      (refine wpQuiet_nil ?_; rintro _ ⟨nq, rfl⟩)
      go_wp2
      go_roundw
      case rel =>
        obtain ⟨rfl, rfl, rfl⟩ := HA.out
        obtain ⟨b0, b1⟩ := HB.out
        obtain ⟨j, rfl⟩ : ∃ j, k = j + 1 := ⟨k - 1, by omega⟩
        haveI gd : Ge wr w.heap.size := ⟨hbel.size⟩
        refine ⟨j, _, by go_num, by omega, lt_add HL.out (lt_mul lf hs), ((b0.later nq).set_other _ ?_).set_other _ ?_, (b1.later nq).set _ _, HS.out, by (repeat' first | (with_reducible first | exact Below.refl _ _ | assumption | refine Later.belowOf _ ?_ ?_ | refine Below.alloc ?_ ?_ _ | refine Below.setCell ?_ ?_ _ | refine Below.drewN' _ ?_ | refine Below.drew ?_ | exact Ge.le) | go_size)⟩
        all_goals (show nn.val.heap.size ≠ w.heap.size; have := nn.below.size; simp at this; omega)
      case measure => simp [intOf]; omega

set_option maxHeartbeats 1000000 in
theorem exp1_c {r : Nat × Nat} (hr : Lt r) (b : Nat) (w : World) (hc : Box w b r) : FnOk 168 #[.pointer (some ⟨b, 0, none⟩)] (fun i => divP r (wholeP i)) w := by
  refine ⟨fun x w' => by simp [go_sem], fun i m i1 i2 hm => ?_⟩
  have hc := hc.below hm
  have W := whole_c i
  have D := divC hr (lt_whole i)
  have c0 := hc.c0
  have c1 := hc.c1
  haveI gb : Ge m (b + 1) := ⟨hc.lt⟩
  clear hc hm i1 i2
  simp only [List.append_toArray, List.cons_append, List.nil_append]
  generalize divP r (wholeP i) = d at *
  generalize wholeP i = u at *
  obtain ⟨r1, r2⟩ := r
  go_enter Tryz.func168, Tryz.ntmps168
  go_wp2_with (fail)
  (refine wp_region_tail_later 4 (by kernel_rfl) (by kernel_rfl) ?_; simp only [List.take_succ_cons, List.take_zero, List.drop_succ_cons, List.drop_zero])
  repeat (go_big_quiet_step (first | (go_at_call 122; (with_reducible exact W.later _)) | (go_at_call 113; (with_reducible exact D.later _))))
  (refine wpQuiet_nil ?_; rintro _ ⟨nq, rfl⟩)
  go_wp2
  go_returns
  exact ⟨rfl, by (repeat' first | (with_reducible first | exact Below.refl _ _ | assumption | refine Later.belowOf _ ?_ ?_ | refine Below.alloc ?_ ?_ _ | refine Below.setCell ?_ ?_ _ | refine Below.drewN' _ ?_ | refine Below.drew ?_ | exact Ge.le) | go_size)⟩

/-! ### The floor -/
theorem dec_num {x : Nat} (h : nan x = false) : ∀ s t, FloatKind.f64.decode x ≠ .nan s t := by
  intro s t e
  unfold FloatKind.decode at e
  rw [read_eq] at e
  have := nan_false.1 h
  split at e
  · cases e
  · split at e
    · cases e
    · rename_i h1 h2
      omega

theorem run_archFloor (x : Nat) (h : nan x = false) (w : World) : (callFunc 244 #[.float .f64 x]).run Tryz.prog w = .ok (.value (.float .f64 (floorF x))) w := by
  rw [run_callFunc_extern Tryz.func244 (by kernel_rfl) (by kernel_rfl) (by kernel_rfl) (e := Extern.MathFloor.toIntegral "math.archFloor" .down) (by kernel_rfl)]
  have hd := dec_num h
  obtain ⟨N, key⟩ : ∃ N : Bool → Nat → Sem Value, Extern.MathFloor.toIntegral "math.archFloor" .down #[.float .f64 x] =
      (match FloatKind.f64.decode x with | .nan s t => N s t | d => pure (.float .f64 (FloatKind.f64.encode (d.integral .down)))) := ⟨_, by rfl⟩
  rw [key]
  unfold floorF
  cases e : FloatKind.f64.decode x with
  | nan s t => exact absurd e (hd s t)
  | number s m i => rfl
  | infinity s => rfl

set_option maxHeartbeats 400000 in
theorem floor_c {x : Nat} (h : nan x = false) : Gives 165 #[(.float .f64 x)] (.float .f64 (floorF x)) := by
  intro w
  have F := fun w' => run_archFloor x h w'
  clear h
  generalize floorF x = r at *
  go_enter Tryz.func165, Tryz.ntmps165
  go_wp2
  go_ret
  exact ⟨rfl, by (repeat' first | (with_reducible first | exact Below.refl _ _ | assumption | refine Later.belowOf _ ?_ ?_ | refine Below.alloc ?_ ?_ _ | refine Below.setCell ?_ ?_ _ | refine Below.drewN' _ ?_ | refine Below.drew ?_ | exact Ge.le) | go_size)⟩
end Go.Proofs.YtkmgfbhnioojhaaGreat
