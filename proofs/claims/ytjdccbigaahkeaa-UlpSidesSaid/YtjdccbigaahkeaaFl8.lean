/- What the rounded operations are; the machine's own ones where one isn't finite. (plain; no program) -/
import Derived.Test.YtjdccbigaahkeaaFl7
namespace Go.Proofs.Ytjdccbigaahkeaa.Fl
set_option linter.unusedSimpArgs false
set_option linter.unusedVariables false

/-- S / D in units of 2^-1074, rounded. -/
def rnd (S : Int) (D : Nat) (dir : Int) : Nat := bitsOf (if decide (S < 0) = true then -(rungOf S.natAbs D (if S < 0 then -dir else dir) : Int) else (rungOf S.natAbs D (if S < 0 then -dir else dir) : Int))

def finB (x : Nat) : Bool := decide (rung x < 9218868437227405312)
theorem finB_rung {x : Nat} : finB x = true ↔ rung x < INFR := by unfold finB INFR; simp
theorem finB_false {x : Nat} : finB x = false ↔ INFR ≤ rung x := by unfold finB INFR; simp

/-- No number. -/
def QN : Nat := 9221120237041090561
theorem nan_QN : nan QN = true := by decide
/-- The same value, or no numbers both. -/
def Eqv (r s : Nat) : Prop := r = s ∨ (nan r = true ∧ nan s = true)
theorem Eqv.rfl {r : Nat} : Eqv r r := Or.inl (Eq.refl _)
theorem Eqv.num {r s : Nat} (h : Eqv r s) (hs : nan s = false) : r = s := by
  rcases h with h | ⟨_, h⟩
  · exact h
  · rw [hs] at h; cases h
theorem Eqv.nan {r s : Nat} (h : Eqv r s) : nan r = nan s := by
  rcases h with h | ⟨h1, h2⟩
  · rw [h]
  · rw [h1, h2]

def infW (neg : Bool) : Nat := word neg INFR

def addS (a b : Nat) (dir : Int) : Nat :=
  if finB a && finB b then rnd (val a + val b) 1 dir
  else if nan a || nan b then QN
  else if finB a then b
  else if finB b then a
  else if sgn a = sgn b then a
  else QN
def mulS (a b : Nat) (dir : Int) : Nat :=
  if nan a || nan b then QN
  else if rung a = 0 ∨ rung b = 0 then 0
  else if finB a && finB b then rnd (val a * val b) (pw 1074) dir
  else infW (sgn a ^^ sgn b)
def divS (a b : Nat) (dir : Int) : Nat :=
  if nan a || nan b then QN
  else if rung b = 0 then QN
  else if finB a && finB b then rnd (val a * (if sgn b then -1 else 1) * (pw 1074 : Nat)) (G (rung b)) dir
  else if finB a then 0
  else if finB b then infW (sgn a ^^ sgn b)
  else QN

theorem read_fin {x : Nat} (h : finB x = true) : FloatKind.f64.format.read x = .number (sgn x) (mag (rung x)) (-1074 + (exn (rung x) : Nat)) := by
  rw [read_eq, if_pos (finB_rung.1 h)]
theorem read_inf {x : Nat} (h : finB x = false) (hn : nan x = false) : FloatKind.f64.format.read x = .infinity (sgn x) ∧ rung x = INFR := by
  have h1 := finB_false.1 h
  have h2 := nan_false.1 hn
  have : rung x = INFR := by omega
  rw [read_eq, if_neg (by omega), if_pos this]; exact ⟨rfl, this⟩

theorem infW_of {x : Nat} (hx : x < 18446744073709551616) (h : rung x = INFR) : infW (sgn x) = x := by
  unfold infW; rw [← h]; exact word_of hx

theorem fop_none_lt {op : BinOp} {a b : Nat} (w : World) (h : floatBits op .f64 a b = none) : fop op a b w < 18446744073709551616 := by
  unfold fop; rw [h]; exact (nanCut _ _ _).2
theorem fadd_nan {a b : Nat} (h : nan a = true ∨ nan b = true) : floatBits .add .f64 a b = none := by
  have hr : ∀ x, nan x = true → ∃ s t, FloatKind.f64.format.read x = .nan s t := by
    intro x hx
    have := nan_true.1 hx
    rw [read_eq, if_neg (by omega), if_neg (by omega)]; exact ⟨_, _, rfl⟩
  have c1 : ∀ d e : Ieee.Datum, (∃ s t, d = .nan s t) ∨ (∃ s t, e = .nan s t) → d.sum e = none := by
    rintro d e (⟨s, t, rfl⟩ | ⟨s, t, rfl⟩)
    · rfl
    · cases d <;> rfl
  have hor : (∃ s t, FloatKind.f64.format.read a = .nan s t) ∨ (∃ s t, FloatKind.f64.format.read b = .nan s t) := by
    rcases h with h | h
    · exact Or.inl (hr a h)
    · exact Or.inr (hr b h)
  unfold floatBits
  simp only [Ieee.Format.add, c1 _ _ hor, Option.map_none]

theorem fdiv_nan {a b : Nat} (h : nan a = true ∨ nan b = true) : floatBits .quo .f64 a b = none := by
  have hr : ∀ x, nan x = true → ∃ s t, FloatKind.f64.format.read x = .nan s t := by
    intro x hx
    have := nan_true.1 hx
    rw [read_eq, if_neg (by omega), if_neg (by omega)]; exact ⟨_, _, rfl⟩
  have c1 : ∀ (k : Nat) (d e : Ieee.Datum), (∃ s t, d = .nan s t) ∨ (∃ s t, e = .nan s t) → Ieee.Datum.quotient k d e = none := by
    rintro k d e (⟨s, t, rfl⟩ | ⟨s, t, rfl⟩)
    · rfl
    · cases d <;> rfl
  have hor : (∃ s t, FloatKind.f64.format.read a = .nan s t) ∨ (∃ s t, FloatKind.f64.format.read b = .nan s t) := by
    rcases h with h | h
    · exact Or.inl (hr a h)
    · exact Or.inr (hr b h)
  unfold floatBits
  simp only [Ieee.Format.div, c1 _ _ _ hor, Option.map_none]

theorem fop_add_non {a b : Nat} (w : World) (ha : a < 18446744073709551616) (hb : b < 18446744073709551616) (h : (finB a && finB b) = false) (dir : Int) : Eqv (fop .add a b w) (addS a b dir) ∧ fop .add a b w < 18446744073709551616 := by
  unfold addS
  rw [if_neg (by rw [h]; decide)]
  have lt : ∀ s : Bool, infW s < 18446744073709551616 := fun s => word_lt _ (by decide)
  by_cases hn : (nan a || nan b) = true
  · rw [if_pos hn]
    rw [Bool.or_eq_true] at hn
    exact ⟨Or.inr ⟨fop_nan w hn (by simp), nan_QN⟩, fop_none_lt w (fadd_nan hn)⟩
  · rw [if_neg hn]
    simp only [Bool.or_eq_true, not_or, Bool.not_eq_true] at hn
    obtain ⟨na, nb⟩ := hn
    cases fa : finB a <;> cases fb : finB b
    · obtain ⟨ra, ia⟩ := read_inf fa na
      obtain ⟨rb, ib⟩ := read_inf fb nb
      by_cases hs : sgn a = sgn b
      · rw [if_pos hs]
        have : fop .add a b w = a := by
          apply fop_some
          unfold floatBits
          simp only [Ieee.Format.add, ra, rb, Ieee.Datum.sum, if_pos hs, Option.map_some, Ieee.Format.write, fmt_inf, fword]
          congr 1; exact infW_of ha ia
        rw [this]; simp; exact ⟨Or.inl rfl, ha⟩
      · rw [if_neg hs]
        have : floatBits .add .f64 a b = none := by
          unfold floatBits
          simp only [Ieee.Format.add, ra, rb, Ieee.Datum.sum, if_neg hs, Option.map_none]
        simp; exact ⟨Or.inr ⟨fop_none w this, nan_QN⟩, fop_none_lt w this⟩
    · obtain ⟨ra, ia⟩ := read_inf fa na
      have rb := read_fin fb
      have : fop .add a b w = a := by
        apply fop_some
        unfold floatBits
        simp only [Ieee.Format.add, ra, rb, Ieee.Datum.sum, Option.map_some, Ieee.Format.write, fmt_inf, fword]
        congr 1; exact infW_of ha ia
      rw [this]; simp; exact ⟨Or.inl rfl, ha⟩
    · have ra := read_fin fa
      obtain ⟨rb, ib⟩ := read_inf fb nb
      have : fop .add a b w = b := by
        apply fop_some
        unfold floatBits
        simp only [Ieee.Format.add, ra, rb, Ieee.Datum.sum, Option.map_some, Ieee.Format.write, fmt_inf, fword]
        congr 1; exact infW_of hb ib
      rw [this]; simp; exact ⟨Or.inl rfl, hb⟩
    · rw [fa, fb] at h; cases h

theorem mag_zero {r : Nat} : mag r = 0 ↔ r = 0 := by unfold mag BIN; split <;> omega

theorem fop_mul_non {a b : Nat} (w : World) (ha : a < 18446744073709551616) (hb : b < 18446744073709551616) (h : (finB a && finB b) = false) (na : nan a = false) (nb : nan b = false) (za : rung a ≠ 0) (zb : rung b ≠ 0) (dir : Int) :
    fop .mul a b w = mulS a b dir ∧ fop .mul a b w < 18446744073709551616 ∧ nan (mulS a b dir) = false := by
  have hm : mulS a b dir = infW (sgn a ^^ sgn b) := by
    unfold mulS
    rw [na, nb, h, if_neg (by decide), if_neg (by omega), if_neg (by decide)]
  rw [hm]
  have e : fop .mul a b w = infW (sgn a ^^ sgn b) := by
    apply fop_some
    unfold floatBits
    cases fa : finB a <;> cases fb : finB b
    · obtain ⟨ra, ia⟩ := read_inf fa na
      obtain ⟨rb, ib⟩ := read_inf fb nb
      simp only [Ieee.Format.mul, ra, rb, Ieee.Datum.product, Option.map_some, Ieee.Format.write, fmt_inf, fword]
      rfl
    · obtain ⟨ra, ia⟩ := read_inf fa na
      have rb := read_fin fb
      simp only [Ieee.Format.mul, ra, rb, Ieee.Datum.product, if_neg (fun hh => zb (mag_zero.1 hh)), Option.map_some, Ieee.Format.write, fmt_inf, fword]
      rfl
    · have ra := read_fin fa
      obtain ⟨rb, ib⟩ := read_inf fb nb
      simp only [Ieee.Format.mul, ra, rb, Ieee.Datum.product, if_neg (fun hh => za (mag_zero.1 hh)), Option.map_some, Ieee.Format.write, fmt_inf, fword]
      rw [Bool.xor_comm]; rfl
    · rw [fa, fb] at h; cases h
  rw [e]
  refine ⟨rfl, word_lt _ (by decide), ?_⟩
  unfold infW; rw [nan_false, rung_word _ (by decide)]; exact Nat.le_refl _

theorem fop_quo_non {a b : Nat} (w : World) (ha : a < 18446744073709551616) (hb : b < 18446744073709551616) (h : (finB a && finB b) = false) (zb : rung b ≠ 0) (dir : Int) :
    (nan (fop .quo a b w) = true ∧ fop .quo a b w < 18446744073709551616 ∧ nan (divS a b dir) = true) ∨ (nan (fop .quo a b w) = false ∧ cl (fop .quo a b w) = divS a b dir) := by
  unfold divS
  by_cases hn : (nan a || nan b) = true
  · rw [if_pos hn]
    rw [Bool.or_eq_true] at hn
    exact Or.inl ⟨fop_nan w hn (by simp), fop_none_lt w (fdiv_nan hn), nan_QN⟩
  · rw [if_neg hn, if_neg zb, if_neg (by rw [h]; decide)]
    simp only [Bool.or_eq_true, not_or, Bool.not_eq_true] at hn
    obtain ⟨na, nb⟩ := hn
    cases fa : finB a <;> cases fb : finB b
    · left
      obtain ⟨ra, ia⟩ := read_inf fa na
      obtain ⟨rb, ib⟩ := read_inf fb nb
      have : floatBits .quo .f64 a b = none := by
        unfold floatBits
        simp only [Ieee.Format.div, ra, rb, Ieee.Datum.quotient, Option.map_none]
      exact ⟨fop_none w this, fop_none_lt w this, by simp [nan_QN]⟩
    · right
      obtain ⟨ra, ia⟩ := read_inf fa na
      have rb := read_fin fb
      have : fop .quo a b w = infW (sgn a ^^ sgn b) := by
        apply fop_some
        unfold floatBits
        simp only [Ieee.Format.div, ra, rb, Ieee.Datum.quotient, Option.map_some, Ieee.Format.write, fmt_inf, fword]
        rfl
      rw [this]
      have hr : rung (infW (sgn a ^^ sgn b)) = INFR := rung_word _ (by decide)
      refine ⟨by rw [nan_false, hr]; exact Nat.le_refl _, ?_⟩
      unfold cl
      rw [if_neg (fun hh => by have := (idx_zero_iff _).1 hh; rw [hr] at this; exact absurd this (by decide))]
      simp
    · right
      have ra := read_fin fa
      obtain ⟨rb, ib⟩ := read_inf fb nb
      have : fop .quo a b w = word (sgn a ^^ sgn b) 0 := by
        apply fop_some
        unfold floatBits
        simp only [Ieee.Format.div, ra, rb, Ieee.Datum.quotient, Option.map_some, Ieee.Format.write]
        rw [nearest_zero]
      rw [this]
      cases (sgn a ^^ sgn b) <;> exact ⟨by decide, by decide⟩
    · rw [fa, fb] at h; cases h
end Go.Proofs.Ytjdccbigaahkeaa.Fl
