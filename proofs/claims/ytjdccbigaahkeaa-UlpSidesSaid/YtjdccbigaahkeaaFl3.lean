/- Sums, differences, products of floats and floats of whole numbers, as the machine makes them (to the nearest): by exact amounts. (plain; no program) -/
import Derived.Test.YtjdccbigaahkeaaFl2
namespace Go.Proofs.Ytjdccbigaahkeaa.Fl
set_option linter.unusedSimpArgs false
set_option linter.unusedVariables false

/-- The bits of a sign and a rung. -/
def word (neg : Bool) (r : Nat) : Nat := if neg then SW + r else r

theorem fword (neg : Bool) (r : Nat) : FloatKind.f64.format.word neg r = word neg r := word_eq neg r

theorem rung_lt (x : Nat) : rung x < SW := Nat.mod_lt _ (by decide)
theorem word_of {x : Nat} (hx : x < 18446744073709551616) : word (sgn x) (rung x) = x := by
  unfold word sgn rung
  by_cases h : x / SW % 2 = 1
  · simp only [h, beq_self_eq_true, if_true]; unfold SW at *; omega
  · have : (x / SW % 2 == 1) = false := by simpa using h
    simp only [this, Bool.false_eq_true, if_false]; unfold SW at *; omega
theorem sgn_word (neg : Bool) {r : Nat} (h : r < SW) : sgn (word neg r) = neg := by
  unfold word sgn
  cases neg
  · simp only [Bool.false_eq_true, if_false, Nat.div_eq_of_lt h]; rfl
  · simp only [if_true]
    have : (SW + r) / SW = 1 := by unfold SW at *; omega
    rw [this]; rfl
theorem rung_word (neg : Bool) {r : Nat} (h : r < SW) : rung (word neg r) = r := by
  unfold word rung
  cases neg
  · simp only [Bool.false_eq_true, if_false]; exact Nat.mod_eq_of_lt h
  · simp only [if_true]; rw [Nat.add_mod_left]; exact Nat.mod_eq_of_lt h
theorem nan_word (neg : Bool) {r : Nat} (h : r ≤ INFR) : nan (word neg r) = false := by
  unfold nan
  rw [rung_word neg (Nat.lt_of_le_of_lt h (by decide))]
  simpa using h
theorem idx_word (neg : Bool) {r : Nat} (h : r < SW) : idx (word neg r) = if neg then -(r : Int) else (r : Int) := by
  unfold idx; rw [rung_word neg h, sgn_word neg h]
theorem word_lt (neg : Bool) {r : Nat} (h : r < SW) : word neg r < 18446744073709551616 := by
  unfold word; unfold SW at *; cases neg <;> simp <;> omega
theorem nan_false {x : Nat} : nan x = false ↔ rung x ≤ INFR := by unfold nan; simp
theorem nan_true {x : Nat} : nan x = true ↔ INFR < rung x := by unfold nan; simp

/-- A float's bits, from its place (0 has no sign). -/
def bitsOf (i : Int) : Nat := if i < 0 then SW + (-i).toNat else i.toNat
theorem bitsOf_idx {x : Nat} (hx : x < 18446744073709551616) (h : idx x ≠ 0) : bitsOf (idx x) = x := by
  have e := word_of hx
  have l := rung_lt x
  unfold idx at *
  unfold word at e
  unfold bitsOf
  cases hs : sgn x
  · simp only [hs, Bool.false_eq_true, if_false] at *
    rw [if_neg (by omega)]; omega
  · simp only [hs, if_true] at *
    rw [if_pos (by omega)]; omega
theorem bitsOf_word (neg : Bool) (r : Nat) (h : 0 < r) : bitsOf (if neg then -(r : Int) else (r : Int)) = word neg r := by
  unfold bitsOf word
  cases neg
  · simp only [Bool.false_eq_true, if_false]; rw [if_neg (by omega)]; omega
  · simp only [if_true]; rw [if_pos (by omega)]; omega
theorem idx_bitsOf {i : Int} (h1 : -(INFR : Int) ≤ i) (h2 : i ≤ (INFR : Int)) : idx (bitsOf i) = i ∧ nan (bitsOf i) = false ∧ bitsOf i < 18446744073709551616 := by
  unfold INFR at *
  by_cases hi : i < 0
  · have e : bitsOf i = word true (-i).toNat := by unfold bitsOf word; simp [hi]
    rw [e, idx_word true (by unfold SW; omega)]
    exact ⟨by simp only [if_true]; omega, nan_word true (by unfold INFR; omega), word_lt true (by unfold SW; omega)⟩
  · have e : bitsOf i = word false i.toNat := by unfold bitsOf word; simp [hi]
    rw [e, idx_word false (by unfold SW; omega)]
    exact ⟨by simp only [Bool.false_eq_true, if_false]; omega, nan_word false (by unfold INFR; omega), word_lt false (by unfold SW; omega)⟩

/-- -0 is 0. -/
def cl (x : Nat) : Nat := if idx x = 0 then 0 else x
theorem idx_zero_iff (x : Nat) : idx x = 0 ↔ rung x = 0 := by unfold idx; cases sgn x <;> simp
theorem cl_eq {x : Nat} (hx : x < 18446744073709551616) : cl x = bitsOf (idx x) := by
  unfold cl
  split
  · rename_i h; rw [h]; rfl
  · rename_i h; rw [bitsOf_idx hx h]

/-- The exact value, in units of 2^-1074. -/
def val (x : Nat) : Int := if sgn x then -(G (rung x) : Int) else (G (rung x) : Int)

theorem val_eq_zero (x : Nat) : val x = 0 ↔ rung x = 0 := by
  unfold val
  have : (G (rung x) = 0) ↔ rung x = 0 := ⟨fun h => by rcases Nat.eq_zero_or_pos (rung x) with h' | h'; exact h'; have := G_pos h'; omega, fun h => by rw [h]; rfl⟩
  cases sgn x <;> simp <;> omega

/-- An exact amount that is a float's own. -/
theorem rungOf_exact {r D : Nat} (hD : 0 < D) (h : r < INFR) (dir : Int) : rungOf (G r * D) D dir = r := by
  have f : flr (G r * D) D = r := flr_eq h (Nat.le_refl _) (Or.inr (Nat.mul_lt_mul_of_pos_right (G_succ r) hD))
  unfold rungOf
  rw [f, if_pos rfl]
theorem rungOf_exact1 {r : Nat} (h : r < INFR) (dir : Int) : rungOf (G r) 1 dir = r := by
  have := rungOf_exact (D := 1) (by decide) h dir
  rwa [Nat.mul_one] at this

theorem nearest_zero (neg : Bool) (place : Int) : FloatKind.f64.format.nearest neg 0 place = word neg 0 := by
  unfold Ieee.Format.nearest; rw [if_pos rfl, fword]

theorem rungOf_zero (D : Nat) (hD : 0 < D) (dir : Int) : rungOf 0 D dir = 0 := by
  have := rungOf_exact (r := 0) hD (by decide) dir
  rwa [G_zero, Nat.zero_mul] at this

theorem nearest_all (neg : Bool) (mag a b N D : Nat) (hD : 0 < D) (h : N * 2 ^ b = mag * 2 ^ a * D) :
    FloatKind.f64.format.nearest neg mag (-1074 + (a : Int) - (b : Int)) = word neg (rungOf N D 0) := by
  by_cases hm : mag = 0
  · subst hm
    have : N = 0 := by
      have h2 := Nat.two_pow_pos b
      rcases Nat.eq_zero_or_pos N with h' | h'
      · exact h'
      · have := Nat.mul_pos h' h2; rw [h, Nat.zero_mul, Nat.zero_mul] at this; omega
    rw [this, nearest_zero, rungOf_zero D hD]
  · rw [nearest_eq neg mag a b N D (by omega) hD h, fword]

theorem signed_val (s : Bool) (r : Nat) (b : Nat) (h : b ≤ exn r) : (Ieee.signed s (mag r) (exn r - b)) * ((2 ^ b : Nat) : Int) = if s then -(G r : Int) else (G r : Int) := by
  rw [signed_eq s _ _ _ h, G_eq]

theorem sum_num (s t : Bool) (r q : Nat) :
    (Ieee.Datum.number s (mag r) (-1074 + (exn r : Nat))).sum (.number t (mag q) (-1074 + (exn q : Nat))) =
      some (.number (if (if s then -(G r : Int) else (G r : Int)) + (if t then -(G q : Int) else (G q : Int)) = 0 then s && t else decide ((if s then -(G r : Int) else (G r : Int)) + (if t then -(G q : Int) else (G q : Int)) < 0))
        (Ieee.signed s (mag r) (exn r - min (exn r) (exn q)) + Ieee.signed t (mag q) (exn q - min (exn r) (exn q))).natAbs (-1074 + (min (exn r) (exn q) : Nat))) := by
  have ei : ((-1074 + (exn r : Nat) : Int) - (-1074 + (min (exn r) (exn q) : Nat))).toNat = exn r - min (exn r) (exn q) := by omega
  have ej : ((-1074 + (exn q : Nat) : Int) - (-1074 + (min (exn r) (exn q) : Nat))).toNat = exn q - min (exn r) (exn q) := by omega
  have em : min (-1074 + (exn r : Int)) (-1074 + (exn q : Int)) = -1074 + (min (exn r) (exn q) : Nat) := by omega
  unfold Ieee.Datum.sum
  simp only [em, ei, ej]
  congr 1
  have s1 := signed_val s r (min (exn r) (exn q)) (Nat.min_le_left _ _)
  have s2 := signed_val t q (min (exn r) (exn q)) (Nat.min_le_right _ _)
  rw [← s1, ← s2, ← Int.add_mul]
  have p : (0 : Int) < ((2 ^ min (exn r) (exn q) : Nat) : Int) := by have := Nat.two_pow_pos (min (exn r) (exn q)); omega
  generalize Ieee.signed s (mag r) (exn r - min (exn r) (exn q)) + Ieee.signed t (mag q) (exn q - min (exn r) (exn q)) = S
  generalize ((2 ^ min (exn r) (exn q) : Nat) : Int) = m at *
  have h1 : S * m = 0 ↔ S = 0 := by
    constructor
    · intro h; rcases Int.mul_eq_zero.1 h with h | h
      · exact h
      · omega
    · intro h; rw [h]; simp
  have h2 : S * m < 0 ↔ S < 0 := by
    constructor
    · intro h; exact Int.lt_of_not_ge fun h' => by have := Int.mul_nonneg h' (Int.le_of_lt p); omega
    · intro h; have := Int.mul_lt_mul_of_pos_right h p; omega
  simp only [h1, h2]

/-- The sign of a sum. -/
def sumNeg (a b : Nat) : Bool := if val a + val b = 0 then sgn a && sgn b else decide (val a + val b < 0)

theorem natAbs_scale (S : Int) (m : Nat) : S.natAbs * m = (S * (m : Int)).natAbs := by rw [Int.natAbs_mul, Int.natAbs_natCast]

/-- **A sum of finite floats.** -/
theorem fadd_eq {a b : Nat} (ha : rung a < INFR) (hb : rung b < INFR) : FloatKind.f64.format.add a b = some (word (sumNeg a b) (rungOf (val a + val b).natAbs 1 0)) := by
  unfold Ieee.Format.add
  rw [read_eq, read_eq, if_pos ha, if_pos hb, sum_num]
  simp only [Option.map_some]
  congr 1
  unfold Ieee.Format.write
  simp only []
  have s1 := signed_val (sgn a) (rung a) (min (exn (rung a)) (exn (rung b))) (Nat.min_le_left _ _)
  have s2 := signed_val (sgn b) (rung b) (min (exn (rung a)) (exn (rung b))) (Nat.min_le_right _ _)
  have hn := nearest_all (sumNeg a b) (Ieee.signed (sgn a) (mag (rung a)) (exn (rung a) - min (exn (rung a)) (exn (rung b))) + Ieee.signed (sgn b) (mag (rung b)) (exn (rung b) - min (exn (rung a)) (exn (rung b)))).natAbs
    (min (exn (rung a)) (exn (rung b))) 0 (val a + val b).natAbs 1 (by decide) (by
      rw [Nat.pow_zero, Nat.mul_one, Nat.mul_one, natAbs_scale, Int.add_mul, s1, s2]; rfl)
  simp only [Int.natCast_zero, Int.sub_zero] at hn
  exact hn

theorem read_neg (x : Nat) (hx : x < 18446744073709551616) : (FloatKind.f64.format.read x).opposite = FloatKind.f64.format.read (x ^^^ 2 ^ 63) := by
  have h : rung (x ^^^ 2 ^ 63) = rung x ∧ sgn (x ^^^ 2 ^ 63) = !sgn x := by
    have e1 : (x ^^^ 2 ^ 63) % 2 ^ 63 = x % 2 ^ 63 := by
      apply Nat.eq_of_testBit_eq; intro i
      simp only [Nat.testBit_mod_two_pow, Nat.testBit_xor, Nat.testBit_two_pow]
      by_cases hi : i < 63
      · have hn : ¬ 63 = i := by omega
        simp [hi, hn]
      · simp [hi]
    have e2 : (x ^^^ 2 ^ 63) / 2 ^ 63 = (x / 2 ^ 63) ^^^ 1 := by
      apply Nat.eq_of_testBit_eq; intro i
      rw [Nat.testBit_div_two_pow, Nat.testBit_xor, Nat.testBit_xor, Nat.testBit_div_two_pow, Nat.testBit_two_pow]
      congr 1
      rw [show (1 : Nat) = 2 ^ 0 from rfl, Nat.testBit_two_pow]
      congr 1; simp; omega
    refine ⟨e1, ?_⟩
    unfold sgn
    have e3 : (x ^^^ 2 ^ 63) / SW = (x / SW) ^^^ 1 := e2
    rw [e3]
    have hq : x / SW < 2 := by unfold SW; omega
    have : x / SW = 0 ∨ x / SW = 1 := by unfold SW at *; omega
    rcases this with h | h <;> rw [h] <;> rfl
  rw [read_eq, read_eq, h.1, h.2]
  by_cases h1 : rung x < INFR
  · simp [h1, Ieee.Datum.opposite]
  · by_cases h2 : rung x = INFR
    · simp [h2, Ieee.Datum.opposite]
    · simp [h1, h2, Ieee.Datum.opposite]

/-- The negative. -/
def fneg (x : Nat) : Nat := word (!sgn x) (rung x)
theorem fneg_eq {x : Nat} (hx : x < 18446744073709551616) : Op.negFloat .f64 x = fneg x := by
  have h : x ^^^ 2 ^ 63 = fneg x := by
    have e1 : (x ^^^ 2 ^ 63) % 2 ^ 63 = x % 2 ^ 63 := by
      apply Nat.eq_of_testBit_eq; intro i
      simp only [Nat.testBit_mod_two_pow, Nat.testBit_xor, Nat.testBit_two_pow]
      by_cases hi : i < 63
      · have hn : ¬ 63 = i := by omega
        simp [hi, hn]
      · simp [hi]
    have e2 : (x ^^^ 2 ^ 63) / 2 ^ 63 = (x / 2 ^ 63) ^^^ 1 := by
      apply Nat.eq_of_testBit_eq; intro i
      rw [Nat.testBit_div_two_pow, Nat.testBit_xor, Nat.testBit_xor, Nat.testBit_div_two_pow, Nat.testBit_two_pow]
      congr 1
      rw [show (1 : Nat) = 2 ^ 0 from rfl, Nat.testBit_two_pow]
      congr 1; simp; omega
    have e := Nat.div_add_mod (x ^^^ 2 ^ 63) (2 ^ 63)
    rw [e1, e2] at e
    rw [← e]
    unfold fneg word sgn rung
    have hq : x / SW < 2 := by unfold SW; omega
    have : x / SW = 0 ∨ x / SW = 1 := by unfold SW at *; omega
    have e4 : (2 : Nat) ^ 63 = SW := rfl
    rw [e4]
    rcases this with h | h <;> rw [h] <;> simp
  exact h

theorem fneg_lt (x : Nat) : fneg x < 18446744073709551616 := word_lt _ (rung_lt x)
theorem idx_fneg (x : Nat) : idx (fneg x) = - idx x := by
  unfold fneg; rw [idx_word _ (rung_lt x)]; unfold idx; cases sgn x <;> simp
theorem nan_fneg (x : Nat) : nan (fneg x) = nan x := by unfold nan fneg; rw [rung_word _ (rung_lt x)]
theorem rung_fneg (x : Nat) : rung (fneg x) = rung x := by unfold fneg; rw [rung_word _ (rung_lt x)]
theorem sgn_fneg (x : Nat) : sgn (fneg x) = !sgn x := by unfold fneg; rw [sgn_word _ (rung_lt x)]
theorem val_fneg (x : Nat) : val (fneg x) = - val x := by unfold val; rw [rung_fneg, sgn_fneg]; cases sgn x <;> simp

/-- A difference is a sum with the negative. -/
theorem fsub_eq {a b : Nat} (hb : b < 18446744073709551616) : FloatKind.f64.format.sub a b = FloatKind.f64.format.add a (fneg b) := by
  unfold Ieee.Format.sub Ieee.Format.add
  rw [read_neg b hb, show b ^^^ 2 ^ 63 = fneg b from fneg_eq hb]

/-- **x + 0.** -/
theorem fadd_zero {x : Nat} (hx : x < 18446744073709551616) (h : nan x = false) : FloatKind.f64.format.add x 0 = some (cl x) := by
  have z0 : rung 0 = 0 := by decide
  have v0 : val 0 = 0 := by decide
  have s0 : sgn 0 = false := by decide
  rcases Nat.lt_or_eq_of_le (nan_false.1 h) with h1 | h1
  · rw [fadd_eq h1 (by decide)]
    congr 1
    unfold sumNeg
    rw [v0, Int.add_zero]
    have e : (val x).natAbs = G (rung x) := by unfold val; cases sgn x <;> simp
    rw [e, rungOf_exact1 h1, s0, Bool.and_false]
    unfold cl
    by_cases h0 : rung x = 0
    · rw [if_pos ((val_eq_zero x).2 h0), if_pos ((idx_zero_iff x).2 h0), h0]; rfl
    · rw [if_neg (fun hh => h0 ((val_eq_zero x).1 hh)), if_neg (fun hh => h0 ((idx_zero_iff x).1 hh))]
      have : decide (val x < 0) = sgn x := by
        unfold val
        have := G_pos (Nat.pos_of_ne_zero h0)
        cases sgn x <;> simp <;> omega
      rw [this]; exact word_of hx
  · unfold Ieee.Format.add
    rw [read_eq, read_eq, if_neg (by omega), if_pos h1, if_pos (show rung 0 < INFR by decide)]
    simp only [Ieee.Datum.sum, Option.map_some, Ieee.Format.write, fmt_inf, fword]
    congr 1
    unfold cl
    rw [if_neg (fun hh => by have := (idx_zero_iff x).1 hh; rw [h1] at this; exact absurd this (by decide)), ← h1]
    exact word_of hx

theorem cl_lt {x : Nat} (hx : x < 18446744073709551616) : cl x < 18446744073709551616 := by unfold cl; split <;> omega
theorem nan_cl (x : Nat) (h : nan x = false) : nan (cl x) = false := by unfold cl; split; rfl; exact h
theorem idx_cl (x : Nat) : idx (cl x) = idx x := by unfold cl; split; (rename_i h; rw [h]; rfl); rfl
theorem cl_nan {x : Nat} (h : nan x = true) : cl x = x := by
  unfold cl; rw [if_neg]; intro hh; have := (idx_zero_iff x).1 hh; have := nan_true.1 h; unfold INFR at this; omega

theorem fop_nan {op : BinOp} {a b : Nat} (w : World) (h : nan a = true ∨ nan b = true) (hop : op = .add ∨ op = .sub ∨ op = .mul ∨ op = .quo) : nan (fop op a b w) = true := by
  apply fop_none
  have hr : ∀ x, nan x = true → ∃ s t, FloatKind.f64.format.read x = .nan s t := by
    intro x hx
    have := nan_true.1 hx
    rw [read_eq, if_neg (by omega), if_neg (by omega)]; exact ⟨_, _, rfl⟩
  have opp : ∀ d : Ieee.Datum, (∃ s t, d = .nan s t) → ∃ s t, d.opposite = .nan s t := by
    rintro d ⟨s, t, rfl⟩; exact ⟨_, _, rfl⟩
  have c1 : ∀ d e : Ieee.Datum, (∃ s t, d = .nan s t) ∨ (∃ s t, e = .nan s t) → d.sum e = none := by
    rintro d e (⟨s, t, rfl⟩ | ⟨s, t, rfl⟩)
    · rfl
    · cases d <;> rfl
  have c2 : ∀ d e : Ieee.Datum, (∃ s t, d = .nan s t) ∨ (∃ s t, e = .nan s t) → d.product e = none := by
    rintro d e (⟨s, t, rfl⟩ | ⟨s, t, rfl⟩)
    · rfl
    · cases d <;> rfl
  have c3 : ∀ (k : Nat) (d e : Ieee.Datum), (∃ s t, d = .nan s t) ∨ (∃ s t, e = .nan s t) → Ieee.Datum.quotient k d e = none := by
    rintro k d e (⟨s, t, rfl⟩ | ⟨s, t, rfl⟩)
    · rfl
    · cases d <;> rfl
  have hor : (∃ s t, FloatKind.f64.format.read a = .nan s t) ∨ (∃ s t, FloatKind.f64.format.read b = .nan s t) := by
    rcases h with h | h
    · exact Or.inl (hr a h)
    · exact Or.inr (hr b h)
  unfold floatBits
  rcases hop with rfl | rfl | rfl | rfl
  · simp only [Ieee.Format.add, c1 _ _ hor, Option.map_none]
  · have : (∃ s t, FloatKind.f64.format.read a = .nan s t) ∨ (∃ s t, (FloatKind.f64.format.read b).opposite = .nan s t) := by
      rcases hor with h | h
      · exact Or.inl h
      · exact Or.inr (opp _ h)
    simp only [Ieee.Format.sub, c1 _ _ this, Option.map_none]
  · simp only [Ieee.Format.mul, c2 _ _ hor, Option.map_none]
  · simp only [Ieee.Format.div, c3 _ _ _ hor, Option.map_none]

/-- x + 0, in the walk's words. -/
theorem fop_add_zero {x : Nat} (w : World) (hx : x < 18446744073709551616) : (nan x = true ∧ nan (fop .add x 0 w) = true) ∨ (nan x = false ∧ fop .add x 0 w = cl x ∧ nd .add x 0 = 0) := by
  cases h : nan x
  · right
    have e := fadd_zero hx h
    exact ⟨rfl, fop_some w e, by unfold nd; rw [show floatBits .add .f64 x 0 = some (cl x) from e]; rfl⟩
  · left; exact ⟨rfl, fop_nan w (Or.inl h) (by simp)⟩

end Go.Proofs.Ytjdccbigaahkeaa.Fl
