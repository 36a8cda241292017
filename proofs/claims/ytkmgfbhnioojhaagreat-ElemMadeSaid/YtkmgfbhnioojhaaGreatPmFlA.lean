/- What the 64 bits of a float stand for, as a place in the order of all floats: comparisons of floats are comparisons of places. (plain; no program) -/
import Derived.WalkLawsBesides
namespace Go.Proofs.YtkmgfbhnioojhaaGreat.Fl
set_option linter.unusedSimpArgs false
set_option linter.unusedVariables false

/-- The rung of infinity; a binade; the sign bit. -/
abbrev INFR : Nat := 9218868437227405312
abbrev BIN : Nat := 4503599627370496
abbrev SW : Nat := 9223372036854775808

def sgn (x : Nat) : Bool := x / SW % 2 == 1
def rung (x : Nat) : Nat := x % SW
def nan (x : Nat) : Bool := decide (INFR < rung x)
/-- A float's place. -/
def idx (x : Nat) : Int := if sgn x then -(rung x : Int) else (rung x : Int)

/-- The amount at a rung, in units of 2^-1074. -/
def G (r : Nat) : Nat := if r < BIN then r else (BIN + r % BIN) * 2 ^ (r / BIN - 1)

theorem G_zero : G 0 = 0 := rfl

theorem G_pos {r : Nat} (h : 0 < r) : 0 < G r := by
  unfold G
  split
  · exact h
  · exact Nat.mul_pos (by unfold BIN; omega) (Nat.two_pow_pos _)

theorem G_succ (r : Nat) : G r < G (r + 1) := by
  unfold G
  by_cases h1 : r + 1 < BIN
  · rw [if_pos (by omega), if_pos h1]; omega
  · by_cases h2 : r < BIN
    · have : r = BIN - 1 := by omega
      subst this
      decide
    · rw [if_neg h2, if_neg h1]
      by_cases h3 : r % BIN = BIN - 1
      · have e1 : (r + 1) % BIN = 0 := by unfold BIN at *; omega
        have e2 : (r + 1) / BIN - 1 = (r / BIN - 1) + 1 := by unfold BIN at *; omega
        rw [e1, e2, h3, Nat.pow_succ]
        have := Nat.two_pow_pos (r / BIN - 1)
        generalize 2 ^ (r / BIN - 1) = p at *
        unfold BIN; omega
      · have e1 : (r + 1) % BIN = r % BIN + 1 := by unfold BIN at *; omega
        have e2 : (r + 1) / BIN = r / BIN := by unfold BIN at *; omega
        rw [e1, e2]
        exact Nat.mul_lt_mul_of_pos_right (by omega) (Nat.two_pow_pos _)

theorem G_lt {r s : Nat} (h : r < s) : G r < G s := by
  induction s with
  | zero => omega
  | succ s ih =>
    by_cases e : r = s
    · subst e; exact G_succ _
    · exact Nat.lt_trans (ih (by omega)) (G_succ _)

theorem G_le {r s : Nat} (h : r ≤ s) : G r ≤ G s := by
  by_cases e : r = s
  · subst e; exact Nat.le_refl _
  · exact Nat.le_of_lt (G_lt (by omega))

theorem G_lt_iff {r s : Nat} : G r < G s ↔ r < s :=
  ⟨fun h => Nat.lt_of_not_le fun h' => by have := G_le h'; omega, G_lt⟩
theorem G_le_iff {r s : Nat} : G r ≤ G s ↔ r ≤ s :=
  ⟨fun h => Nat.le_of_not_lt fun h' => by have := G_lt h'; omega, G_le⟩
theorem G_inj {r s : Nat} (h : G r = G s) : r = s := by
  have h1 := G_le_iff.1 (Nat.le_of_eq h); have h2 := G_le_iff.1 (Nat.le_of_eq h.symm); omega

/-! ### Ieee's reading -/

theorem fmt_sw : FloatKind.f64.format.signWeight = SW := by decide
theorem fmt_bin : FloatKind.f64.format.binade = BIN := by decide
theorem fmt_inf : FloatKind.f64.format.infRung = INFR := by decide
theorem fmt_least : FloatKind.f64.format.leastPlace = -1074 := by decide

/-- The significand and the exponent (from -1074 on) at a rung. -/
def mag (r : Nat) : Nat := if r < BIN then r else BIN + r % BIN
def exn (r : Nat) : Nat := r / BIN - 1

theorem G_eq (r : Nat) : G r = mag r * 2 ^ exn r := by
  unfold G mag exn
  split
  · rename_i h
    have : r / BIN = 0 := Nat.div_eq_of_lt h
    simp [this]
  · rfl

theorem read_eq (x : Nat) : FloatKind.f64.format.read x =
    if rung x < INFR then .number (sgn x) (mag (rung x)) (-1074 + (exn (rung x) : Nat))
    else if rung x = INFR then .infinity (sgn x) else .nan (sgn x) (rung x - INFR) := by
  unfold Ieee.Format.read
  simp only [fmt_sw, fmt_bin, fmt_inf, fmt_least]
  unfold mag exn rung sgn
  by_cases h1 : x % SW < BIN
  · have h2 : x % SW < INFR := by unfold BIN at h1; unfold INFR; omega
    have h3 : x % SW / BIN = 0 := Nat.div_eq_of_lt h1
    simp [h1, h2, h3]
  · simp [h1]

theorem cmp_mul (a b : Int) (p : Nat) (hp : 0 < p) : compare (a * (p : Int)) (b * (p : Int)) = compare a b := by
  have hp' : (0 : Int) < (p : Int) := by omega
  simp only [compare, compareOfLessAndEq]
  have e1 : (a * (p : Int) < b * (p : Int)) ↔ a < b := ⟨fun h => Int.lt_of_mul_lt_mul_right h (Int.le_of_lt hp'), fun h => Int.mul_lt_mul_of_pos_right h hp'⟩
  have e2 : (a * (p : Int) = b * (p : Int)) ↔ a = b := ⟨fun h => Int.eq_of_mul_eq_mul_right (by omega) h, fun h => by rw [h]⟩
  simp only [e1, e2]

theorem cmp_idx (s t : Bool) (r q : Nat) : compare (if s then -(G r : Int) else (G r : Int)) (if t then -(G q : Int) else (G q : Int)) =
    compare (if s then -(r : Int) else (r : Int)) (if t then -(q : Int) else (q : Int)) := by
  have h1 := @G_lt_iff r q
  have h2 := @G_lt_iff q r
  have h3 : (G r = G q) ↔ r = q := ⟨G_inj, fun h => by rw [h]⟩
  have hr : (G r = 0) ↔ r = 0 := ⟨fun h => by rcases Nat.eq_zero_or_pos r with h' | h'; exact h'; have := G_pos h'; omega, fun h => by rw [h]; rfl⟩
  have hq : (G q = 0) ↔ q = 0 := ⟨fun h => by rcases Nat.eq_zero_or_pos q with h' | h'; exact h'; have := G_pos h'; omega, fun h => by rw [h]; rfl⟩
  generalize G r = gr at *
  generalize G q = gq at *
  simp only [compare, compareOfLessAndEq]
  cases s <;> cases t <;> simp only [Bool.false_eq_true, if_false, if_true] <;> (repeat' split) <;> first | rfl | omega

theorem signed_eq (s : Bool) (m e b : Nat) (h : b ≤ e) : (Ieee.signed s m (e - b)) * ((2 ^ b : Nat) : Int) = if s then -((m * 2 ^ e : Nat) : Int) else ((m * 2 ^ e : Nat) : Int) := by
  have e1 : m * 2 ^ e = m * 2 ^ (e - b) * 2 ^ b := by rw [Nat.mul_assoc, ← Nat.pow_add]; congr 2; omega
  unfold Ieee.signed
  rw [e1, Nat.shiftLeft_eq]
  cases s
  · simp only [Bool.false_eq_true, if_false]; rw [Int.natCast_mul (m * 2 ^ (e - b))]
  · simp only [if_true]; rw [Int.natCast_mul (m * 2 ^ (e - b)), Int.neg_mul]

theorem order_num (s t : Bool) (m n i j : Nat) :
    (Ieee.Datum.number s m (-1074 + (i : Nat))).order (.number t n (-1074 + (j : Nat))) =
      some (compare (if s then -((m * 2 ^ i : Nat) : Int) else ((m * 2 ^ i : Nat) : Int)) (if t then -((n * 2 ^ j : Nat) : Int) else ((n * 2 ^ j : Nat) : Int))) := by
  unfold Ieee.Datum.order
  simp only []
  congr 1
  have ei : ((-1074 + (i : Nat) : Int) - min (-1074 + (i : Int)) (-1074 + (j : Int))).toNat = i - min i j := by omega
  have ej : ((-1074 + (j : Nat) : Int) - min (-1074 + (i : Int)) (-1074 + (j : Int))).toNat = j - min i j := by omega
  rw [ei, ej, ← cmp_mul _ _ (2 ^ min i j) (Nat.two_pow_pos _), signed_eq _ _ _ _ (Nat.min_le_left _ _), signed_eq _ _ _ _ (Nat.min_le_right _ _)]

/-- **Floats stand in the order of their places.** -/
theorem order_eq (a b : Nat) : FloatKind.f64.format.order a b = if nan a || nan b then none else some (compare (idx a) (idx b)) := by
  unfold Ieee.Format.order
  rw [read_eq, read_eq]
  unfold nan idx
  have l1 : rung a < SW := Nat.mod_lt _ (by decide)
  have l2 : rung b < SW := Nat.mod_lt _ (by decide)
  generalize rung a = r at *
  generalize rung b = q at *
  generalize sgn a = s at *
  generalize sgn b = t at *
  by_cases h1 : INFR < r
  · rw [if_neg (by omega), if_neg (by omega)]
    simp [h1, Ieee.Datum.order]
  · by_cases h2 : INFR < q
    · rw [if_neg (show ¬ q < INFR by omega), if_neg (show ¬ q = INFR by omega)]
      simp only [h2, decide_true, Bool.or_true, if_true]
      unfold Ieee.Datum.order
      split <;> simp_all
    · simp only [h1, h2, decide_false, Bool.or_false, Bool.false_eq_true, if_false]
      by_cases h3 : r = INFR
      · subst h3
        by_cases h4 : q = INFR
        · subst h4
          cases s <;> cases t <;> decide
        · rw [if_neg (by omega), if_pos rfl, if_pos (show q < INFR by omega)]
          have hq : (q : Int) < 9218868437227405312 := by unfold INFR at *; omega
          unfold INFR Ieee.Datum.order
          simp only [compare, compareOfLessAndEq]
          cases s <;> cases t <;> simp only [Bool.false_eq_true, if_false, if_true] <;> (repeat' split) <;> first | rfl | omega
      · rw [if_pos (show r < INFR by omega)]
        by_cases h4 : q = INFR
        · subst h4
          rw [if_neg (by omega), if_pos rfl]
          have hr : (r : Int) < 9218868437227405312 := by unfold INFR at *; omega
          unfold INFR Ieee.Datum.order
          simp only [compare, compareOfLessAndEq]
          cases s <;> cases t <;> simp only [Bool.false_eq_true, if_false, if_true] <;> (repeat' split) <;> first | rfl | omega
        · rw [if_pos (show q < INFR by omega), order_num, ← G_eq, ← G_eq, cmp_idx]

/-! ### The six comparisons, as the walk writes them -/

theorem eq_iff (a b : Nat) : (FloatKind.f64.format.order a b == some .eq) = (!nan a && !nan b && decide (idx a = idx b)) := by
  rw [order_eq]
  cases nan a <;> cases nan b <;> simp [compare, compareOfLessAndEq]
  by_cases h1 : idx a < idx b
  · simp [h1]; omega
  · by_cases h2 : idx a = idx b <;> simp [h2]
    simp [h1]
theorem lt_iff (a b : Nat) : (FloatKind.f64.format.order a b == some .lt) = (!nan a && !nan b && decide (idx a < idx b)) := by
  rw [order_eq]
  cases nan a <;> cases nan b <;> simp [compare, compareOfLessAndEq]
  by_cases h1 : idx a < idx b
  · simp [h1]
  · by_cases h2 : idx a = idx b <;> simp [h1, h2]
theorem gt_iff (a b : Nat) : (FloatKind.f64.format.order a b == some .gt) = (!nan a && !nan b && decide (idx b < idx a)) := by
  rw [order_eq]
  cases nan a <;> cases nan b <;> simp [compare, compareOfLessAndEq]
  by_cases h1 : idx a < idx b
  · simp [h1]; omega
  · by_cases h2 : idx a = idx b
    · simp [h2]
    · simp [h1, h2]; omega

/-- Held against each other: equal, below, not above. -/
def feq (a b : Nat) : Bool := !nan a && !nan b && decide (idx a = idx b)
def flt (a b : Nat) : Bool := !nan a && !nan b && decide (idx a < idx b)
def fle (a b : Nat) : Bool := !nan a && !nan b && decide (idx a ≤ idx b)

theorem feq_true {a b : Nat} : feq a b = true ↔ nan a = false ∧ nan b = false ∧ idx a = idx b := by unfold feq; simp [and_assoc]
theorem flt_true {a b : Nat} : flt a b = true ↔ nan a = false ∧ nan b = false ∧ idx a < idx b := by unfold flt; simp [and_assoc]
theorem fle_true {a b : Nat} : fle a b = true ↔ nan a = false ∧ nan b = false ∧ idx a ≤ idx b := by unfold fle; simp [and_assoc]

theorem le_iff (a b : Nat) : (FloatKind.f64.format.order a b == some .lt || FloatKind.f64.format.order a b == some .eq) = fle a b := by
  rw [lt_iff, eq_iff]; unfold fle
  cases nan a <;> cases nan b <;> simp
  rw [Bool.eq_iff_iff]; simp; omega
theorem ge_iff (a b : Nat) : (FloatKind.f64.format.order a b == some .gt || FloatKind.f64.format.order a b == some .eq) = fle b a := by
  rw [gt_iff, eq_iff]; unfold fle
  cases nan a <;> cases nan b <;> simp
  rw [Bool.eq_iff_iff]; simp; omega

section
variable (t : TypeId) (a b : Nat)
theorem bin_eql : binOp .eql t (.float .f64 a) (.float .f64 b) = pure (.bool (feq a b)) := by rw [binOp_float_cmp_eql, eq_iff]; rfl
theorem bin_neq : binOp .neq t (.float .f64 a) (.float .f64 b) = pure (.bool (!feq a b)) := by
  rw [binOp_float_cmp_neq]; unfold feq; rw [← eq_iff]; rfl
theorem bin_lss : binOp .lss t (.float .f64 a) (.float .f64 b) = pure (.bool (flt a b)) := by rw [binOp_float_cmp_lss, lt_iff]; rfl
theorem bin_leq : binOp .leq t (.float .f64 a) (.float .f64 b) = pure (.bool (fle a b)) := by rw [binOp_float_cmp_leq, le_iff]
theorem bin_gtr : binOp .gtr t (.float .f64 a) (.float .f64 b) = pure (.bool (flt b a)) := by
  rw [binOp_float_cmp_gtr, gt_iff]; unfold flt; rw [Bool.and_comm (!nan a)]
theorem bin_geq : binOp .geq t (.float .f64 a) (.float .f64 b) = pure (.bool (fle b a)) := by rw [binOp_float_cmp_geq, ge_iff]
end

/-! ### Arithmetic of floats, as the walk has it: in every world -/

def fop (op : BinOp) (a b : Nat) (w : World) : Nat :=
  match floatBits op .f64 a b with
  | some r => r
  | none => (Question.nanBits .f64 a b).cut (w.tape w.drawn (.nanBits .f64 a b))
def nd (op : BinOp) (a b : Nat) : Nat := if (floatBits op .f64 a b).isSome then 0 else 1

theorem fop_some {op : BinOp} {a b r : Nat} (w : World) (h : floatBits op .f64 a b = some r) : fop op a b w = r := by unfold fop; rw [h]
theorem nanCut (a b t : Nat) : nan ((Question.nanBits .f64 a b).cut t) = true ∧ (Question.nanBits .f64 a b).cut t < 18446744073709551616 := by
  unfold nan rung Question.cut
  simp only [decide_eq_true_eq]
  unfold INFR SW
  have h1 : t % 2 < 2 := Nat.mod_lt _ (by decide)
  have h2 : t / 2 % (2 ^ 52 - 1) < 2 ^ 52 - 1 := Nat.mod_lt _ (by decide)
  generalize t % 2 = x at *
  generalize t / 2 % (2 ^ 52 - 1) = y at *
  omega
theorem fop_none {op : BinOp} {a b : Nat} (w : World) (h : floatBits op .f64 a b = none) : nan (fop op a b w) = true := by
  unfold fop; rw [h]; exact (nanCut _ _ _).1

theorem run_fop (op : BinOp) (hop : op = .add ∨ op = .sub ∨ op = .mul ∨ op = .quo) (P : Program) (w : World) (t : TypeId) (a b : Nat) :
    (binOp op t (.float .f64 a) (.float .f64 b)).run P w = .ok (.float .f64 (fop op a b w)) (w.drewN (nd op a b)) := by
  cases h : floatBits op .f64 a b with
  | some r => rw [run_float_arith w op t .f64 a b r h]; unfold fop nd; rw [h]; rfl
  | none =>
    have hf : (Question.nanBits .f64 a b).forced = false := rfl
    unfold fop nd
    rw [h]
    unfold floatBits at h
    rcases hop with rfl | rfl | rfl | rfl <;> simp only at h <;> simp [binOp, Op.floatArith, h, run_choose_drew, hf] <;> rfl

end Go.Proofs.YtkmgfbhnioojhaaGreat.Fl

/- Exact amounts N / D (in units of 2^-1074) rounded to a rung: down, up, to the nearest with ties to even; Ieee's own rounding is the last of them. (plain; no program) -/
namespace Go.Proofs.YtkmgfbhnioojhaaGreat.Fl
set_option linter.unusedSimpArgs false
set_option linter.unusedVariables false

/-- The greatest rung up to b that is not above N / D. -/
def flrTo (N D : Nat) : Nat → Nat
  | 0 => 0
  | b + 1 => if G (b + 1) * D ≤ N then b + 1 else flrTo N D b

theorem flrTo_spec (N D : Nat) : ∀ b, flrTo N D b ≤ b ∧ G (flrTo N D b) * D ≤ N ∧ (flrTo N D b = b ∨ N < G (flrTo N D b + 1) * D)
  | 0 => by simp [flrTo, G_zero]
  | b + 1 => by
    unfold flrTo
    split
    · rename_i h; exact ⟨Nat.le_refl _, h, Or.inl rfl⟩
    · rename_i h
      obtain ⟨h1, h2, h3⟩ := flrTo_spec N D b
      refine ⟨by omega, h2, Or.inr ?_⟩
      rcases h3 with h3 | h3
      · rw [h3]; omega
      · exact h3

/-- Below infinity. -/
def flr (N D : Nat) : Nat := flrTo N D (INFR - 1)

theorem flr_spec (N D : Nat) : flr N D < INFR ∧ G (flr N D) * D ≤ N ∧ (flr N D + 1 = INFR ∨ N < G (flr N D + 1) * D) := by
  obtain ⟨h1, h2, h3⟩ := flrTo_spec N D (INFR - 1)
  unfold flr
  generalize flrTo N D (INFR - 1) = r at *
  have : 0 < INFR := by decide
  refine ⟨by omega, h2, ?_⟩
  rcases h3 with h3 | h3
  · left; omega
  · exact Or.inr h3

attribute [irreducible] flr

theorem flr_eq {N D r : Nat} (h1 : r < INFR) (h2 : G r * D ≤ N) (h3 : r + 1 = INFR ∨ N < G (r + 1) * D) : flr N D = r := by
  obtain ⟨k1, k2, k3⟩ := flr_spec N D
  generalize flr N D = q at *
  rcases Nat.lt_trichotomy q r with h | h | h
  · exfalso
    rcases k3 with k3 | k3
    · omega
    · have := Nat.mul_le_mul_right D (G_le (show q + 1 ≤ r by omega)); omega
  · exact h
  · exfalso
    rcases h3 with h3 | h3
    · omega
    · have := Nat.mul_le_mul_right D (G_le (show r + 1 ≤ q by omega)); omega

/-- An exact amount, rounded: dir below 0 down, above 0 up, 0 to the nearest. -/
def rungOf (N D : Nat) (dir : Int) : Nat :=
  if G (flr N D) * D = N then flr N D
  else if dir < 0 then flr N D
  else if 0 < dir then flr N D + 1
  else if 2 * N < (G (flr N D) + G (flr N D + 1)) * D then flr N D
  else if (G (flr N D) + G (flr N D + 1)) * D < 2 * N then flr N D + 1
  else if flr N D % 2 = 0 then flr N D else flr N D + 1

theorem rungOf_le (N D : Nat) (dir : Int) : rungOf N D dir ≤ INFR := by
  have := (flr_spec N D).1
  unfold rungOf
  repeat' split
  all_goals omega

/-- What a number at a scale stands for: k 2^E, k of 53 bits. -/
theorem G_fit {E k : Nat} (hk : k ≤ 2 * BIN) (hE : E = 0 ∨ BIN ≤ k) : G (E * BIN + k) = k * 2 ^ E := by
  unfold G
  by_cases h0 : E * BIN + k < BIN
  · have : E = 0 := by
      rcases hE with h | h
      · exact h
      · exfalso; omega
    subst this
    rw [if_pos h0]; simp
  · rw [if_neg h0]
    by_cases h1 : k = 2 * BIN
    · subst h1
      have e1 : (E * BIN + 2 * BIN) % BIN = 0 := by rw [← Nat.add_mul]; exact Nat.mul_mod_left _ _
      have e2 : (E * BIN + 2 * BIN) / BIN = E + 2 := by rw [← Nat.add_mul]; exact Nat.mul_div_cancel _ (by decide)
      rw [e1, e2, show E + 2 - 1 = E + 1 by omega, Nat.pow_succ]
      generalize 2 ^ E = p
      unfold BIN; omega
    · by_cases h2 : k < BIN
      · have : E = 0 := by
          rcases hE with h | h
          · exact h
          · exfalso; omega
        subst this
        exfalso; omega
      · have e0 : E * BIN + k = (E + 1) * BIN + (k - BIN) := by rw [Nat.add_mul]; omega
        have e1 : (E * BIN + k) % BIN = k - BIN := by rw [e0, Nat.add_comm, Nat.add_mul_mod_self_right]; exact Nat.mod_eq_of_lt (by omega)
        have e2 : (E * BIN + k) / BIN = E + 1 := by
          rw [e0, Nat.add_comm, Nat.add_mul_div_right _ _ (by decide), Nat.div_eq_of_lt (by omega)]; omega
        rw [e1, e2, show BIN + (k - BIN) = k by omega, show E + 1 - 1 = E by omega]

theorem flr_at {N D E k : Nat} (hk : k < 2 * BIN) (hE : E = 0 ∨ BIN ≤ k) (lo : k * 2 ^ E * D ≤ N) (hi : N < (k + 1) * 2 ^ E * D) (hlt : E * BIN + k < INFR) : flr N D = E * BIN + k :=
  flr_eq hlt (by rw [G_fit (by omega) hE]; exact lo) (Or.inr (by rw [Nat.add_assoc, G_fit (by omega) (by omega)]; exact hi))

theorem flr_over {N D : Nat} (h : G INFR * D ≤ N) : flr N D = INFR - 1 := by
  have := Nat.mul_le_mul_right D (G_le (show INFR - 1 ≤ INFR by omega))
  exact flr_eq (by decide) (by omega) (Or.inl (by decide))

/-- Rounding at a scale. -/
theorem rungOf_at {N D E k : Nat} (dir : Int) (hD : 0 < D) (hk : k < 2 * BIN) (hE : E = 0 ∨ BIN ≤ k) (lo : k * 2 ^ E * D ≤ N) (hi : N < (k + 1) * 2 ^ E * D) :
    rungOf N D dir = if INFR ≤ E * BIN + k then (if dir < 0 then INFR - 1 else INFR)
      else E * BIN + (if k * 2 ^ E * D = N then k else if dir < 0 then k else if 0 < dir then k + 1
        else if 2 * N < (2 * k + 1) * 2 ^ E * D then k else if (2 * k + 1) * 2 ^ E * D < 2 * N then k + 1 else if k % 2 = 0 then k else k + 1) := by
  by_cases ho : INFR ≤ E * BIN + k
  · rw [if_pos ho]
    have g1 : G INFR * D ≤ N := by
      have := Nat.mul_le_mul_right D (G_le ho)
      rw [G_fit (by omega) hE] at this
      omega
    have f := flr_over g1
    have g2 : G (INFR - 1) * D < N := by
      have := Nat.mul_lt_mul_of_pos_right (G_lt (show INFR - 1 < INFR by decide)) hD
      omega
    unfold rungOf
    rw [f, show INFR - 1 + 1 = INFR by decide]
    rw [if_neg (by omega)]
    by_cases hd : dir < 0
    · rw [if_pos hd, if_pos hd]
    · rw [if_neg hd, if_neg hd]
      by_cases hd2 : 0 < dir
      · rw [if_pos hd2]
      · rw [if_neg hd2, Nat.add_mul, if_neg (by omega), if_pos (by omega)]
  · rw [if_neg ho]
    have f := flr_at hk hE lo hi (by omega)
    unfold rungOf
    rw [f, G_fit (by omega) hE, Nat.add_assoc, G_fit (by omega) (by omega)]
    have e3 : (k * 2 ^ E + (k + 1) * 2 ^ E) * D = (2 * k + 1) * 2 ^ E * D := by rw [← Nat.add_mul]; congr 2; omega
    rw [e3]
    have e4 : (E * BIN + k) % 2 = k % 2 := by unfold BIN; omega
    rw [e4]
    repeat' split
    all_goals omega

/-! ### Ieee's rounding -/

/-- 'n / 2^drop' to the nearest, ties to even. -/
theorem cut_even (neg : Bool) (n drop : Nat) : Ieee.Toward.even.cut neg n drop =
    if 2 * n < (2 * (n / 2 ^ drop) + 1) * 2 ^ drop then n / 2 ^ drop else if (2 * (n / 2 ^ drop) + 1) * 2 ^ drop < 2 * n then n / 2 ^ drop + 1 else if n / 2 ^ drop % 2 = 0 then n / 2 ^ drop else n / 2 ^ drop + 1 := by
  have small : ∀ d, n.log2 + 2 ≤ d → 2 * n < 2 ^ d := by
    intro d h
    have h1 : n < 2 ^ (n.log2 + 1) := Nat.lt_log2_self
    have h2 : 2 ^ (n.log2 + 2) ≤ 2 ^ d := Nat.pow_le_pow_right (by decide) h
    rw [show n.log2 + 2 = (n.log2 + 1) + 1 by omega, Nat.pow_succ] at h2
    omega
  unfold Ieee.Toward.cut
  simp only [Nat.one_shiftLeft]
  by_cases hd : drop ≤ n.log2 + 2
  · rw [Nat.min_eq_left hd]
    have e := Nat.div_add_mod n (2 ^ drop)
    have l := Nat.mod_lt n (Nat.two_pow_pos drop)
    generalize 2 ^ drop = p at *
    generalize n / p = q at *
    generalize n % p = r at *
    have e5 : (2 * q + 1) * p = 2 * (p * q) + p := by rw [Nat.add_mul, Nat.one_mul, Nat.mul_assoc, Nat.mul_comm q p]
    rw [e5]
    by_cases c1 : p < 2 * r
    · rw [if_neg (by omega), if_pos (by omega)]; simp [c1]
    · by_cases c2 : p = 2 * r
      · rw [if_neg (by omega), if_neg (by omega)]
        by_cases c3 : q % 2 = 0
        · rw [if_pos c3]; simp [c1, c2, c3]
        · have : q % 2 = 1 := by omega
          rw [if_neg c3]; simp [c1, c2, this]
      · rw [if_pos (by omega)]; simp [c1, c2]
  · rw [Nat.min_eq_right (by omega)]
    have s1 := small (n.log2 + 2) (Nat.le_refl _)
    have s2 := small drop (by omega)
    have z1 : n / 2 ^ (n.log2 + 2) = 0 := Nat.div_eq_of_lt (by omega)
    have z2 : n / 2 ^ drop = 0 := Nat.div_eq_of_lt (by omega)
    have z3 : n % 2 ^ (n.log2 + 2) = n := Nat.mod_eq_of_lt (by omega)
    rw [z1, z2, z3, if_pos (by omega)]
    have c1 : ¬ 2 ^ (n.log2 + 2) < 2 * n := by omega
    have c2 : ¬ 2 ^ (n.log2 + 2) = 2 * n := by omega
    simp [c1, c2]

theorem word_eq (neg : Bool) (r : Nat) : FloatKind.f64.format.word neg r = if neg then SW + r else r := by
  unfold Ieee.Format.word; rw [fmt_sw]

theorem fmt_frac : FloatKind.f64.format.fractionBits = 52 := rfl

/-- **Ieee rounds to the nearest rung.** 'place + 1074 = a - b': the amount is mag 2^a / 2^b = N / D. -/
theorem nearest_eq (neg : Bool) (mag a b N D : Nat) (hm : 0 < mag) (hD : 0 < D) (h : N * 2 ^ b = mag * 2 ^ a * D) :
    FloatKind.f64.format.nearest neg mag (-1074 + (a : Int) - (b : Int)) = FloatKind.f64.format.word neg (rungOf N D 0) := by
  unfold Ieee.Format.nearest
  rw [if_neg (by omega)]
  simp only [fmt_frac, fmt_least, fmt_bin, fmt_inf]
  congr 1
  have l1 : 2 ^ mag.log2 ≤ mag := Nat.log2_self_le (by omega)
  have l2 : mag < 2 ^ (mag.log2 + 1) := Nat.lt_log2_self
  generalize hL : mag.log2 = L at *
  -- the scale
  obtain ⟨E, hE⟩ : ∃ E : Nat, max (-1074 + (a : Int) - (b : Int) + (L : Nat) - ((52 : Nat) : Int)) (-1074) = -1074 + (E : Int) ∧ (E : Int) = max ((a : Int) - b + L - 52) 0 := ⟨(max ((a : Int) - b + L - 52) 0).toNat, by omega, by omega⟩
  rw [hE.1]
  have t1 : ((-1074 + (E : Int)) - -1074).toNat = E := by omega
  have t2 : ((-1074 + (a : Int) - (b : Int)) - (-1074 + (E : Int))).toNat = a - (b + E) := by omega
  have t3 : ((-1074 + (E : Int)) - (-1074 + (a : Int) - (b : Int))).toNat = (b + E) - a := by omega
  rw [t1, t2, t3, cut_even, Nat.shiftLeft_eq]
  have hE2 := hE.2
  clear hE t1 t2 t3
  -- n / 2^drop is the amount at the scale
  generalize hu : a - (b + E) = u at *
  generalize hd : (b + E) - a = d at *
  have eud : a + d = b + E + u := by omega
  -- (mag 2^u) 2^E D 2^b = N 2^b 2^d ..
  have key : mag * 2 ^ u * 2 ^ E * D = N * 2 ^ d := by
    have e1 : (mag * 2 ^ u * 2 ^ E * D) * 2 ^ b = (N * 2 ^ d) * 2 ^ b := by
      have : N * 2 ^ d * 2 ^ b = (N * 2 ^ b) * 2 ^ d := by rw [Nat.mul_assoc, Nat.mul_comm (2 ^ d), ← Nat.mul_assoc]
      rw [this, h]
      have e2 : mag * 2 ^ u * 2 ^ E * D * 2 ^ b = mag * D * 2 ^ (u + E + b) := by rw [Nat.pow_add, Nat.pow_add]; simp only [Nat.mul_assoc, Nat.mul_comm, Nat.mul_left_comm]
      have e3 : mag * 2 ^ a * D * 2 ^ d = mag * D * 2 ^ (a + d) := by rw [Nat.pow_add]; simp only [Nat.mul_assoc, Nat.mul_comm, Nat.mul_left_comm]
      rw [e2, e3]; congr 2; omega
    exact Nat.eq_of_mul_eq_mul_right (Nat.two_pow_pos b) e1
  have pd := Nat.two_pow_pos d
  generalize hn : mag * 2 ^ u = n at *
  -- n / 2^d < 2^53; and 2^52 or more, or E = 0
  have hdu : d = 0 ∨ u = 0 := by omega
  have up : n < 2 ^ 53 * 2 ^ d := by
    rw [← hn, ← Nat.pow_add]
    have : mag * 2 ^ u < 2 ^ (L + 1) * 2 ^ u := Nat.mul_lt_mul_of_pos_right l2 (Nat.two_pow_pos _)
    rw [← Nat.pow_add] at this
    exact Nat.lt_of_lt_of_le this (Nat.pow_le_pow_right (by decide) (by omega))
  have dn : E = 0 ∨ 2 ^ 52 * 2 ^ d ≤ n := by
    by_cases h0 : E = 0
    · exact Or.inl h0
    · right
      rw [← hn, ← Nat.pow_add]
      have : 2 ^ L * 2 ^ u ≤ mag * 2 ^ u := Nat.mul_le_mul_right _ l1
      rw [← Nat.pow_add] at this
      exact Nat.le_trans (Nat.pow_le_pow_right (by decide) (by omega)) this
  have kn := Nat.div_add_mod n (2 ^ d)
  have kl := Nat.mod_lt n pd
  generalize hk : n / 2 ^ d = k at *
  have klo : k * 2 ^ d ≤ n := by rw [Nat.mul_comm]; omega
  have khi : n < (k + 1) * 2 ^ d := by rw [Nat.add_mul, Nat.mul_comm k]; omega
  have k53 : k < 2 * BIN := by
    have : k * 2 ^ d < 2 ^ 53 * 2 ^ d := by omega
    have := Nat.lt_of_mul_lt_mul_right this
    unfold BIN; omega
  have k52 : E = 0 ∨ BIN ≤ k := by
    rcases dn with h0 | h0
    · exact Or.inl h0
    · right
      rw [← hk, Nat.le_div_iff_mul_le pd]
      unfold BIN
      exact h0
  have p2E := Nat.two_pow_pos E
  -- inequalities between n and 2^d are those between N and 2^E D
  have tr : ∀ c m : Nat, (c * 2 ^ d ≤ m * n) ↔ c * 2 ^ E * D ≤ m * N := by
    intro c m
    have e1 : m * n * (2 ^ E * D) = m * N * 2 ^ d := by
      have : m * n * (2 ^ E * D) = m * (n * 2 ^ E * D) := by simp only [Nat.mul_assoc]
      rw [this, key]; simp only [Nat.mul_assoc]
    have e2 : c * 2 ^ d * (2 ^ E * D) = c * 2 ^ E * D * 2 ^ d := by simp only [Nat.mul_assoc, Nat.mul_comm, Nat.mul_left_comm]
    constructor
    · intro hh
      have := Nat.mul_le_mul_right (2 ^ E * D) hh
      rw [e1, e2] at this
      exact Nat.le_of_mul_le_mul_right this pd
    · intro hh
      have := Nat.mul_le_mul_right (2 ^ d) hh
      rw [← e1, ← e2] at this
      exact Nat.le_of_mul_le_mul_right this (Nat.mul_pos p2E hD)
  have tlo := (tr k 1).1 (by omega)
  have thi : N < (k + 1) * 2 ^ E * D := by
    have := (tr (k + 1) 1)
    omega
  rw [rungOf_at 0 hD k53 k52 (by omega) thi]
  have c1 := tr (2 * k + 1) 2
  have c2 : (2 * k + 1) * 2 ^ d = 2 * n ↔ (2 * k + 1) * 2 ^ E * D = 2 * N := by
    have e1 : 2 * n * (2 ^ E * D) = 2 * N * 2 ^ d := by
      have : 2 * n * (2 ^ E * D) = 2 * (n * 2 ^ E * D) := by simp only [Nat.mul_assoc]
      rw [this, key]; simp only [Nat.mul_assoc]
    have e2 : (2 * k + 1) * 2 ^ d * (2 ^ E * D) = (2 * k + 1) * 2 ^ E * D * 2 ^ d := by simp only [Nat.mul_assoc, Nat.mul_comm, Nat.mul_left_comm]
    constructor
    · intro hh
      have this : (2 * k + 1) * 2 ^ d * (2 ^ E * D) = 2 * n * (2 ^ E * D) := by rw [hh]
      rw [e1, e2] at this
      exact Nat.eq_of_mul_eq_mul_right pd this
    · intro hh
      have this : (2 * k + 1) * 2 ^ E * D * 2 ^ d = 2 * N * 2 ^ d := by rw [hh]
      rw [← e1, ← e2] at this
      exact Nat.eq_of_mul_eq_mul_right (Nat.mul_pos p2E hD) this
  have c3 : k * 2 ^ E * D = N → 2 * n < (2 * k + 1) * 2 ^ d := by
    intro hh
    have := tr k 1
    have e6 : k * 2 ^ d = n := by
      have e7 : n * (2 ^ E * D) = k * 2 ^ d * (2 ^ E * D) := by
        have : n * (2 ^ E * D) = n * 2 ^ E * D := by simp only [Nat.mul_assoc]
        rw [this, key, ← hh]; simp only [Nat.mul_assoc, Nat.mul_comm, Nat.mul_left_comm]
      exact (Nat.eq_of_mul_eq_mul_right (Nat.mul_pos p2E hD) e7).symm
    rw [Nat.add_mul, Nat.mul_assoc, e6]; omega
  generalize (2 * k + 1) * 2 ^ E * D = W at *
  generalize (2 * k + 1) * 2 ^ d = V at *
  generalize k * 2 ^ E * D = U at *
  have hbin : BIN < INFR := by decide
  by_cases ho : INFR ≤ E * BIN + k
  · rw [if_pos ho, if_neg (show ¬ ((0 : Int) < 0) by omega), Nat.min_eq_right]
    repeat' split
    all_goals omega
  · rw [if_neg ho]
    have em : ∀ j, j ≤ k + 1 → min (E * BIN + j) INFR = E * BIN + j := fun j hj => Nat.min_eq_left (by omega)
    rw [em _ (by repeat' split
                 all_goals omega)]
    congr 1
    by_cases hx : U = N
    · rw [if_pos hx, if_pos (c3 hx)]
    · rw [if_neg hx, if_neg (show ¬ ((0 : Int) < 0) by omega), if_neg (show ¬ ((0 : Int) < 0) by omega)]
      repeat' split
      all_goals omega

end Go.Proofs.YtkmgfbhnioojhaaGreat.Fl

/- Sums, differences, products of floats and floats of whole numbers, as the machine makes them (to the nearest): by exact amounts. (plain; no program) -/
namespace Go.Proofs.YtkmgfbhnioojhaaGreat.Fl
set_option linter.unusedSimpArgs false
set_option linter.unusedVariables false

/-- The bits of a sign and a rung. -/
def word (neg : Bool) (r : Nat) : Nat := if neg then SW + r else r

theorem fword (neg : Bool) (r : Nat) : FloatKind.f64.format.word neg r = word neg r := word_eq neg r

theorem rung_lt (x : Nat) : rung x < SW := Nat.mod_lt _ (by decide)
theorem word_of {x : Nat} (hx : x < 18446744073709551616) : word (sgn x) (rung x) = x := by
  unfold word sgn rung
  by_cases h : x / SW % 2 = 1
  · simp only [h, beq_self_eq_true, if_true]; unfold SW at *; omega
  · have : (x / SW % 2 == 1) = false := by simpa using h
    simp only [this, Bool.false_eq_true, if_false]; unfold SW at *; omega
theorem sgn_word (neg : Bool) {r : Nat} (h : r < SW) : sgn (word neg r) = neg := by
  unfold word sgn
  cases neg
  · simp only [Bool.false_eq_true, if_false, Nat.div_eq_of_lt h]; rfl
  · simp only [if_true]
    have : (SW + r) / SW = 1 := by unfold SW at *; omega
    rw [this]; rfl
theorem rung_word (neg : Bool) {r : Nat} (h : r < SW) : rung (word neg r) = r := by
  unfold word rung
  cases neg
  · simp only [Bool.false_eq_true, if_false]; exact Nat.mod_eq_of_lt h
  · simp only [if_true]; rw [Nat.add_mod_left]; exact Nat.mod_eq_of_lt h
theorem nan_word (neg : Bool) {r : Nat} (h : r ≤ INFR) : nan (word neg r) = false := by
  unfold nan
  rw [rung_word neg (Nat.lt_of_le_of_lt h (by decide))]
  simpa using h
theorem idx_word (neg : Bool) {r : Nat} (h : r < SW) : idx (word neg r) = if neg then -(r : Int) else (r : Int) := by
  unfold idx; rw [rung_word neg h, sgn_word neg h]
theorem word_lt (neg : Bool) {r : Nat} (h : r < SW) : word neg r < 18446744073709551616 := by
  unfold word; unfold SW at *; cases neg <;> simp <;> omega
theorem nan_false {x : Nat} : nan x = false ↔ rung x ≤ INFR := by unfold nan; simp
theorem nan_true {x : Nat} : nan x = true ↔ INFR < rung x := by unfold nan; simp

/-- A float's bits, from its place (0 has no sign). -/
def bitsOf (i : Int) : Nat := if i < 0 then SW + (-i).toNat else i.toNat
theorem bitsOf_word (neg : Bool) (r : Nat) (h : 0 < r) : bitsOf (if neg then -(r : Int) else (r : Int)) = word neg r := by
  unfold bitsOf word
  cases neg
  · simp only [Bool.false_eq_true, if_false]; rw [if_neg (by omega)]; omega
  · simp only [if_true]; rw [if_pos (by omega)]; omega
theorem idx_bitsOf {i : Int} (h1 : -(INFR : Int) ≤ i) (h2 : i ≤ (INFR : Int)) : idx (bitsOf i) = i ∧ nan (bitsOf i) = false ∧ bitsOf i < 18446744073709551616 := by
  unfold INFR at *
  by_cases hi : i < 0
  · have e : bitsOf i = word true (-i).toNat := by unfold bitsOf word; simp [hi]
    rw [e, idx_word true (by unfold SW; omega)]
    exact ⟨by simp only [if_true]; omega, nan_word true (by unfold INFR; omega), word_lt true (by unfold SW; omega)⟩
  · have e : bitsOf i = word false i.toNat := by unfold bitsOf word; simp [hi]
    rw [e, idx_word false (by unfold SW; omega)]
    exact ⟨by simp only [Bool.false_eq_true, if_false]; omega, nan_word false (by unfold INFR; omega), word_lt false (by unfold SW; omega)⟩

/-- -0 is 0. -/
def cl (x : Nat) : Nat := if idx x = 0 then 0 else x
theorem idx_zero_iff (x : Nat) : idx x = 0 ↔ rung x = 0 := by unfold idx; cases sgn x <;> simp
/-- The exact value, in units of 2^-1074. -/
def val (x : Nat) : Int := if sgn x then -(G (rung x) : Int) else (G (rung x) : Int)

theorem val_eq_zero (x : Nat) : val x = 0 ↔ rung x = 0 := by
  unfold val
  have : (G (rung x) = 0) ↔ rung x = 0 := ⟨fun h => by rcases Nat.eq_zero_or_pos (rung x) with h' | h'; exact h'; have := G_pos h'; omega, fun h => by rw [h]; rfl⟩
  cases sgn x <;> simp <;> omega

/-- An exact amount that is a float's own. -/
theorem rungOf_exact {r D : Nat} (hD : 0 < D) (h : r < INFR) (dir : Int) : rungOf (G r * D) D dir = r := by
  have f : flr (G r * D) D = r := flr_eq h (Nat.le_refl _) (Or.inr (Nat.mul_lt_mul_of_pos_right (G_succ r) hD))
  unfold rungOf
  rw [f, if_pos rfl]
theorem rungOf_exact1 {r : Nat} (h : r < INFR) (dir : Int) : rungOf (G r) 1 dir = r := by
  have := rungOf_exact (D := 1) (by decide) h dir
  rwa [Nat.mul_one] at this

theorem nearest_zero (neg : Bool) (place : Int) : FloatKind.f64.format.nearest neg 0 place = word neg 0 := by
  unfold Ieee.Format.nearest; rw [if_pos rfl, fword]

theorem rungOf_zero (D : Nat) (hD : 0 < D) (dir : Int) : rungOf 0 D dir = 0 := by
  have := rungOf_exact (r := 0) hD (by decide) dir
  rwa [G_zero, Nat.zero_mul] at this

theorem nearest_all (neg : Bool) (mag a b N D : Nat) (hD : 0 < D) (h : N * 2 ^ b = mag * 2 ^ a * D) :
    FloatKind.f64.format.nearest neg mag (-1074 + (a : Int) - (b : Int)) = word neg (rungOf N D 0) := by
  by_cases hm : mag = 0
  · subst hm
    have : N = 0 := by
      have h2 := Nat.two_pow_pos b
      rcases Nat.eq_zero_or_pos N with h' | h'
      · exact h'
      · have := Nat.mul_pos h' h2; rw [h, Nat.zero_mul, Nat.zero_mul] at this; omega
    rw [this, nearest_zero, rungOf_zero D hD]
  · rw [nearest_eq neg mag a b N D (by omega) hD h, fword]

theorem signed_val (s : Bool) (r : Nat) (b : Nat) (h : b ≤ exn r) : (Ieee.signed s (mag r) (exn r - b)) * ((2 ^ b : Nat) : Int) = if s then -(G r : Int) else (G r : Int) := by
  rw [signed_eq s _ _ _ h, G_eq]

theorem sum_num (s t : Bool) (r q : Nat) :
    (Ieee.Datum.number s (mag r) (-1074 + (exn r : Nat))).sum (.number t (mag q) (-1074 + (exn q : Nat))) =
      some (.number (if (if s then -(G r : Int) else (G r : Int)) + (if t then -(G q : Int) else (G q : Int)) = 0 then s && t else decide ((if s then -(G r : Int) else (G r : Int)) + (if t then -(G q : Int) else (G q : Int)) < 0))
        (Ieee.signed s (mag r) (exn r - min (exn r) (exn q)) + Ieee.signed t (mag q) (exn q - min (exn r) (exn q))).natAbs (-1074 + (min (exn r) (exn q) : Nat))) := by
  have ei : ((-1074 + (exn r : Nat) : Int) - (-1074 + (min (exn r) (exn q) : Nat))).toNat = exn r - min (exn r) (exn q) := by omega
  have ej : ((-1074 + (exn q : Nat) : Int) - (-1074 + (min (exn r) (exn q) : Nat))).toNat = exn q - min (exn r) (exn q) := by omega
  have em : min (-1074 + (exn r : Int)) (-1074 + (exn q : Int)) = -1074 + (min (exn r) (exn q) : Nat) := by omega
  unfold Ieee.Datum.sum
  simp only [em, ei, ej]
  congr 1
  have s1 := signed_val s r (min (exn r) (exn q)) (Nat.min_le_left _ _)
  have s2 := signed_val t q (min (exn r) (exn q)) (Nat.min_le_right _ _)
  rw [← s1, ← s2, ← Int.add_mul]
  have p : (0 : Int) < ((2 ^ min (exn r) (exn q) : Nat) : Int) := by have := Nat.two_pow_pos (min (exn r) (exn q)); omega
  generalize Ieee.signed s (mag r) (exn r - min (exn r) (exn q)) + Ieee.signed t (mag q) (exn q - min (exn r) (exn q)) = S
  generalize ((2 ^ min (exn r) (exn q) : Nat) : Int) = m at *
  have h1 : S * m = 0 ↔ S = 0 := by
    constructor
    · intro h; rcases Int.mul_eq_zero.1 h with h | h
      · exact h
      · omega
    · intro h; rw [h]; simp
  have h2 : S * m < 0 ↔ S < 0 := by
    constructor
    · intro h; exact Int.lt_of_not_ge fun h' => by have := Int.mul_nonneg h' (Int.le_of_lt p); omega
    · intro h; have := Int.mul_lt_mul_of_pos_right h p; omega
  simp only [h1, h2]

/-- The sign of a sum. -/
def sumNeg (a b : Nat) : Bool := if val a + val b = 0 then sgn a && sgn b else decide (val a + val b < 0)

theorem natAbs_scale (S : Int) (m : Nat) : S.natAbs * m = (S * (m : Int)).natAbs := by rw [Int.natAbs_mul, Int.natAbs_natCast]

/-- **A sum of finite floats.** -/
theorem fadd_eq {a b : Nat} (ha : rung a < INFR) (hb : rung b < INFR) : FloatKind.f64.format.add a b = some (word (sumNeg a b) (rungOf (val a + val b).natAbs 1 0)) := by
  unfold Ieee.Format.add
  rw [read_eq, read_eq, if_pos ha, if_pos hb, sum_num]
  simp only [Option.map_some]
  congr 1
  unfold Ieee.Format.write
  simp only []
  have s1 := signed_val (sgn a) (rung a) (min (exn (rung a)) (exn (rung b))) (Nat.min_le_left _ _)
  have s2 := signed_val (sgn b) (rung b) (min (exn (rung a)) (exn (rung b))) (Nat.min_le_right _ _)
  have hn := nearest_all (sumNeg a b) (Ieee.signed (sgn a) (mag (rung a)) (exn (rung a) - min (exn (rung a)) (exn (rung b))) + Ieee.signed (sgn b) (mag (rung b)) (exn (rung b) - min (exn (rung a)) (exn (rung b)))).natAbs
    (min (exn (rung a)) (exn (rung b))) 0 (val a + val b).natAbs 1 (by decide) (by
      rw [Nat.pow_zero, Nat.mul_one, Nat.mul_one, natAbs_scale, Int.add_mul, s1, s2]; rfl)
  simp only [Int.natCast_zero, Int.sub_zero] at hn
  exact hn

theorem read_neg (x : Nat) (hx : x < 18446744073709551616) : (FloatKind.f64.format.read x).opposite = FloatKind.f64.format.read (x ^^^ 2 ^ 63) := by
  have h : rung (x ^^^ 2 ^ 63) = rung x ∧ sgn (x ^^^ 2 ^ 63) = !sgn x := by
    have e1 : (x ^^^ 2 ^ 63) % 2 ^ 63 = x % 2 ^ 63 := by
      apply Nat.eq_of_testBit_eq; intro i
      simp only [Nat.testBit_mod_two_pow, Nat.testBit_xor, Nat.testBit_two_pow]
      by_cases hi : i < 63
      · have hn : ¬ 63 = i := by omega
        simp [hi, hn]
      · simp [hi]
    have e2 : (x ^^^ 2 ^ 63) / 2 ^ 63 = (x / 2 ^ 63) ^^^ 1 := by
      apply Nat.eq_of_testBit_eq; intro i
      rw [Nat.testBit_div_two_pow, Nat.testBit_xor, Nat.testBit_xor, Nat.testBit_div_two_pow, Nat.testBit_two_pow]
      congr 1
      rw [show (1 : Nat) = 2 ^ 0 from rfl, Nat.testBit_two_pow]
      congr 1; simp; omega
    refine ⟨e1, ?_⟩
    unfold sgn
    have e3 : (x ^^^ 2 ^ 63) / SW = (x / SW) ^^^ 1 := e2
    rw [e3]
    have hq : x / SW < 2 := by unfold SW; omega
    have : x / SW = 0 ∨ x / SW = 1 := by unfold SW at *; omega
    rcases this with h | h <;> rw [h] <;> rfl
  rw [read_eq, read_eq, h.1, h.2]
  by_cases h1 : rung x < INFR
  · simp [h1, Ieee.Datum.opposite]
  · by_cases h2 : rung x = INFR
    · simp [h2, Ieee.Datum.opposite]
    · simp [h1, h2, Ieee.Datum.opposite]

/-- The negative. -/
def fneg (x : Nat) : Nat := word (!sgn x) (rung x)
theorem fneg_eq {x : Nat} (hx : x < 18446744073709551616) : Op.negFloat .f64 x = fneg x := by
  have h : x ^^^ 2 ^ 63 = fneg x := by
    have e1 : (x ^^^ 2 ^ 63) % 2 ^ 63 = x % 2 ^ 63 := by
      apply Nat.eq_of_testBit_eq; intro i
      simp only [Nat.testBit_mod_two_pow, Nat.testBit_xor, Nat.testBit_two_pow]
      by_cases hi : i < 63
      · have hn : ¬ 63 = i := by omega
        simp [hi, hn]
      · simp [hi]
    have e2 : (x ^^^ 2 ^ 63) / 2 ^ 63 = (x / 2 ^ 63) ^^^ 1 := by
      apply Nat.eq_of_testBit_eq; intro i
      rw [Nat.testBit_div_two_pow, Nat.testBit_xor, Nat.testBit_xor, Nat.testBit_div_two_pow, Nat.testBit_two_pow]
      congr 1
      rw [show (1 : Nat) = 2 ^ 0 from rfl, Nat.testBit_two_pow]
      congr 1; simp; omega
    have e := Nat.div_add_mod (x ^^^ 2 ^ 63) (2 ^ 63)
    rw [e1, e2] at e
    rw [← e]
    unfold fneg word sgn rung
    have hq : x / SW < 2 := by unfold SW; omega
    have : x / SW = 0 ∨ x / SW = 1 := by unfold SW at *; omega
    have e4 : (2 : Nat) ^ 63 = SW := rfl
    rw [e4]
    rcases this with h | h <;> rw [h] <;> simp
  exact h

theorem fneg_lt (x : Nat) : fneg x < 18446744073709551616 := word_lt _ (rung_lt x)
theorem idx_fneg (x : Nat) : idx (fneg x) = - idx x := by
  unfold fneg; rw [idx_word _ (rung_lt x)]; unfold idx; cases sgn x <;> simp
theorem nan_fneg (x : Nat) : nan (fneg x) = nan x := by unfold nan fneg; rw [rung_word _ (rung_lt x)]
theorem rung_fneg (x : Nat) : rung (fneg x) = rung x := by unfold fneg; rw [rung_word _ (rung_lt x)]
theorem sgn_fneg (x : Nat) : sgn (fneg x) = !sgn x := by unfold fneg; rw [sgn_word _ (rung_lt x)]
/-- **x + 0.** -/
theorem fadd_zero {x : Nat} (hx : x < 18446744073709551616) (h : nan x = false) : FloatKind.f64.format.add x 0 = some (cl x) := by
  have z0 : rung 0 = 0 := by decide
  have v0 : val 0 = 0 := by decide
  have s0 : sgn 0 = false := by decide
  rcases Nat.lt_or_eq_of_le (nan_false.1 h) with h1 | h1
  · rw [fadd_eq h1 (by decide)]
    congr 1
    unfold sumNeg
    rw [v0, Int.add_zero]
    have e : (val x).natAbs = G (rung x) := by unfold val; cases sgn x <;> simp
    rw [e, rungOf_exact1 h1, s0, Bool.and_false]
    unfold cl
    by_cases h0 : rung x = 0
    · rw [if_pos ((val_eq_zero x).2 h0), if_pos ((idx_zero_iff x).2 h0), h0]; rfl
    · rw [if_neg (fun hh => h0 ((val_eq_zero x).1 hh)), if_neg (fun hh => h0 ((idx_zero_iff x).1 hh))]
      have : decide (val x < 0) = sgn x := by
        unfold val
        have := G_pos (Nat.pos_of_ne_zero h0)
        cases sgn x <;> simp <;> omega
      rw [this]; exact word_of hx
  · unfold Ieee.Format.add
    rw [read_eq, read_eq, if_neg (by omega), if_pos h1, if_pos (show rung 0 < INFR by decide)]
    simp only [Ieee.Datum.sum, Option.map_some, Ieee.Format.write, fmt_inf, fword]
    congr 1
    unfold cl
    rw [if_neg (fun hh => by have := (idx_zero_iff x).1 hh; rw [h1] at this; exact absurd this (by decide)), ← h1]
    exact word_of hx

theorem cl_lt {x : Nat} (hx : x < 18446744073709551616) : cl x < 18446744073709551616 := by unfold cl; split <;> omega
theorem nan_cl (x : Nat) (h : nan x = false) : nan (cl x) = false := by unfold cl; split; rfl; exact h
theorem idx_cl (x : Nat) : idx (cl x) = idx x := by unfold cl; split; (rename_i h; rw [h]; rfl); rfl
theorem cl_nan {x : Nat} (h : nan x = true) : cl x = x := by
  unfold cl; rw [if_neg]; intro hh; have := (idx_zero_iff x).1 hh; have := nan_true.1 h; unfold INFR at this; omega

theorem fop_nan {op : BinOp} {a b : Nat} (w : World) (h : nan a = true ∨ nan b = true) (hop : op = .add ∨ op = .sub ∨ op = .mul ∨ op = .quo) : nan (fop op a b w) = true := by
  apply fop_none
  have hr : ∀ x, nan x = true → ∃ s t, FloatKind.f64.format.read x = .nan s t := by
    intro x hx
    have := nan_true.1 hx
    rw [read_eq, if_neg (by omega), if_neg (by omega)]; exact ⟨_, _, rfl⟩
  have opp : ∀ d : Ieee.Datum, (∃ s t, d = .nan s t) → ∃ s t, d.opposite = .nan s t := by
    rintro d ⟨s, t, rfl⟩; exact ⟨_, _, rfl⟩
  have c1 : ∀ d e : Ieee.Datum, (∃ s t, d = .nan s t) ∨ (∃ s t, e = .nan s t) → d.sum e = none := by
    rintro d e (⟨s, t, rfl⟩ | ⟨s, t, rfl⟩)
    · rfl
    · cases d <;> rfl
  have c2 : ∀ d e : Ieee.Datum, (∃ s t, d = .nan s t) ∨ (∃ s t, e = .nan s t) → d.product e = none := by
    rintro d e (⟨s, t, rfl⟩ | ⟨s, t, rfl⟩)
    · rfl
    · cases d <;> rfl
  have c3 : ∀ (k : Nat) (d e : Ieee.Datum), (∃ s t, d = .nan s t) ∨ (∃ s t, e = .nan s t) → Ieee.Datum.quotient k d e = none := by
    rintro k d e (⟨s, t, rfl⟩ | ⟨s, t, rfl⟩)
    · rfl
    · cases d <;> rfl
  have hor : (∃ s t, FloatKind.f64.format.read a = .nan s t) ∨ (∃ s t, FloatKind.f64.format.read b = .nan s t) := by
    rcases h with h | h
    · exact Or.inl (hr a h)
    · exact Or.inr (hr b h)
  unfold floatBits
  rcases hop with rfl | rfl | rfl | rfl
  · simp only [Ieee.Format.add, c1 _ _ hor, Option.map_none]
  · have : (∃ s t, FloatKind.f64.format.read a = .nan s t) ∨ (∃ s t, (FloatKind.f64.format.read b).opposite = .nan s t) := by
      rcases hor with h | h
      · exact Or.inl h
      · exact Or.inr (opp _ h)
    simp only [Ieee.Format.sub, c1 _ _ this, Option.map_none]
  · simp only [Ieee.Format.mul, c2 _ _ hor, Option.map_none]
  · simp only [Ieee.Format.div, c3 _ _ _ hor, Option.map_none]

/-- x + 0, in the walk's words. -/
theorem fop_add_zero {x : Nat} (w : World) (hx : x < 18446744073709551616) : (nan x = true ∧ nan (fop .add x 0 w) = true) ∨ (nan x = false ∧ fop .add x 0 w = cl x ∧ nd .add x 0 = 0) := by
  cases h : nan x
  · right
    have e := fadd_zero hx h
    exact ⟨rfl, fop_some w e, by unfold nd; rw [show floatBits .add .f64 x 0 = some (cl x) from e]; rfl⟩
  · left; exact ⟨rfl, fop_nan w (Or.inl h) (by simp)⟩

end Go.Proofs.YtkmgfbhnioojhaaGreat.Fl
