/- What the 64 bits of a float stand for, as a place in the order of all floats: comparisons of floats are comparisons of places. (plain; no program) -/
import Derived.WalkLawsBesides
namespace Go.Proofs.Ytjdccbigaahkeaa.Fl
set_option linter.unusedSimpArgs false
set_option linter.unusedVariables false

/-- The rung of infinity; a binade; the sign bit. -/
abbrev INFR : Nat := 9218868437227405312
abbrev BIN : Nat := 4503599627370496
abbrev SW : Nat := 9223372036854775808

def sgn (x : Nat) : Bool := x / SW % 2 == 1
def rung (x : Nat) : Nat := x % SW
def nan (x : Nat) : Bool := decide (INFR < rung x)
/-- A float's place. -/
def idx (x : Nat) : Int := if sgn x then -(rung x : Int) else (rung x : Int)

/-- The amount at a rung, in units of 2^-1074. -/
def G (r : Nat) : Nat := if r < BIN then r else (BIN + r % BIN) * 2 ^ (r / BIN - 1)

theorem G_zero : G 0 = 0 := rfl

theorem G_pos {r : Nat} (h : 0 < r) : 0 < G r := by
  unfold G
  split
  · exact h
  · exact Nat.mul_pos (by unfold BIN; omega) (Nat.two_pow_pos _)

theorem G_succ (r : Nat) : G r < G (r + 1) := by
  unfold G
  by_cases h1 : r + 1 < BIN
  · rw [if_pos (by omega), if_pos h1]; omega
  · by_cases h2 : r < BIN
    · have : r = BIN - 1 := by omega
      subst this
      decide
    · rw [if_neg h2, if_neg h1]
      by_cases h3 : r % BIN = BIN - 1
      · have e1 : (r + 1) % BIN = 0 := by unfold BIN at *; omega
        have e2 : (r + 1) / BIN - 1 = (r / BIN - 1) + 1 := by unfold BIN at *; omega
        rw [e1, e2, h3, Nat.pow_succ]
        have := Nat.two_pow_pos (r / BIN - 1)
        generalize 2 ^ (r / BIN - 1) = p at *
        unfold BIN; omega
      · have e1 : (r + 1) % BIN = r % BIN + 1 := by unfold BIN at *; omega
        have e2 : (r + 1) / BIN = r / BIN := by unfold BIN at *; omega
        rw [e1, e2]
        exact Nat.mul_lt_mul_of_pos_right (by omega) (Nat.two_pow_pos _)

theorem G_lt {r s : Nat} (h : r < s) : G r < G s := by
  induction s with
  | zero => omega
  | succ s ih =>
    by_cases e : r = s
    · subst e; exact G_succ _
    · exact Nat.lt_trans (ih (by omega)) (G_succ _)

theorem G_le {r s : Nat} (h : r ≤ s) : G r ≤ G s := by
  by_cases e : r = s
  · subst e; exact Nat.le_refl _
  · exact Nat.le_of_lt (G_lt (by omega))

theorem G_lt_iff {r s : Nat} : G r < G s ↔ r < s :=
  ⟨fun h => Nat.lt_of_not_le fun h' => by have := G_le h'; omega, G_lt⟩
theorem G_le_iff {r s : Nat} : G r ≤ G s ↔ r ≤ s :=
  ⟨fun h => Nat.le_of_not_lt fun h' => by have := G_lt h'; omega, G_le⟩
theorem G_inj {r s : Nat} (h : G r = G s) : r = s := by
  have h1 := G_le_iff.1 (Nat.le_of_eq h); have h2 := G_le_iff.1 (Nat.le_of_eq h.symm); omega

/-! ### Ieee's reading -/

theorem fmt_sw : FloatKind.f64.format.signWeight = SW := by decide
theorem fmt_bin : FloatKind.f64.format.binade = BIN := by decide
theorem fmt_inf : FloatKind.f64.format.infRung = INFR := by decide
theorem fmt_least : FloatKind.f64.format.leastPlace = -1074 := by decide

/-- The significand and the exponent (from -1074 on) at a rung. -/
def mag (r : Nat) : Nat := if r < BIN then r else BIN + r % BIN
def exn (r : Nat) : Nat := r / BIN - 1

theorem G_eq (r : Nat) : G r = mag r * 2 ^ exn r := by
  unfold G mag exn
  split
  · rename_i h
    have : r / BIN = 0 := Nat.div_eq_of_lt h
    simp [this]
  · rfl

theorem read_eq (x : Nat) : FloatKind.f64.format.read x =
    if rung x < INFR then .number (sgn x) (mag (rung x)) (-1074 + (exn (rung x) : Nat))
    else if rung x = INFR then .infinity (sgn x) else .nan (sgn x) (rung x - INFR) := by
  unfold Ieee.Format.read
  simp only [fmt_sw, fmt_bin, fmt_inf, fmt_least]
  unfold mag exn rung sgn
  by_cases h1 : x % SW < BIN
  · have h2 : x % SW < INFR := by unfold BIN at h1; unfold INFR; omega
    have h3 : x % SW / BIN = 0 := Nat.div_eq_of_lt h1
    simp [h1, h2, h3]
  · simp [h1]

theorem cmp_mul (a b : Int) (p : Nat) (hp : 0 < p) : compare (a * (p : Int)) (b * (p : Int)) = compare a b := by
  have hp' : (0 : Int) < (p : Int) := by omega
  simp only [compare, compareOfLessAndEq]
  have e1 : (a * (p : Int) < b * (p : Int)) ↔ a < b := ⟨fun h => Int.lt_of_mul_lt_mul_right h (Int.le_of_lt hp'), fun h => Int.mul_lt_mul_of_pos_right h hp'⟩
  have e2 : (a * (p : Int) = b * (p : Int)) ↔ a = b := ⟨fun h => Int.eq_of_mul_eq_mul_right (by omega) h, fun h => by rw [h]⟩
  simp only [e1, e2]

theorem cmp_idx (s t : Bool) (r q : Nat) : compare (if s then -(G r : Int) else (G r : Int)) (if t then -(G q : Int) else (G q : Int)) =
    compare (if s then -(r : Int) else (r : Int)) (if t then -(q : Int) else (q : Int)) := by
  have h1 := @G_lt_iff r q
  have h2 := @G_lt_iff q r
  have h3 : (G r = G q) ↔ r = q := ⟨G_inj, fun h => by rw [h]⟩
  have hr : (G r = 0) ↔ r = 0 := ⟨fun h => by rcases Nat.eq_zero_or_pos r with h' | h'; exact h'; have := G_pos h'; omega, fun h => by rw [h]; rfl⟩
  have hq : (G q = 0) ↔ q = 0 := ⟨fun h => by rcases Nat.eq_zero_or_pos q with h' | h'; exact h'; have := G_pos h'; omega, fun h => by rw [h]; rfl⟩
  generalize G r = gr at *
  generalize G q = gq at *
  simp only [compare, compareOfLessAndEq]
  cases s <;> cases t <;> simp only [Bool.false_eq_true, if_false, if_true] <;> (repeat' split) <;> first | rfl | omega

theorem signed_eq (s : Bool) (m e b : Nat) (h : b ≤ e) : (Ieee.signed s m (e - b)) * ((2 ^ b : Nat) : Int) = if s then -((m * 2 ^ e : Nat) : Int) else ((m * 2 ^ e : Nat) : Int) := by
  have e1 : m * 2 ^ e = m * 2 ^ (e - b) * 2 ^ b := by rw [Nat.mul_assoc, ← Nat.pow_add]; congr 2; omega
  unfold Ieee.signed
  rw [e1, Nat.shiftLeft_eq]
  cases s
  · simp only [Bool.false_eq_true, if_false]; rw [Int.natCast_mul (m * 2 ^ (e - b))]
  · simp only [if_true]; rw [Int.natCast_mul (m * 2 ^ (e - b)), Int.neg_mul]

theorem order_num (s t : Bool) (m n i j : Nat) :
    (Ieee.Datum.number s m (-1074 + (i : Nat))).order (.number t n (-1074 + (j : Nat))) =
      some (compare (if s then -((m * 2 ^ i : Nat) : Int) else ((m * 2 ^ i : Nat) : Int)) (if t then -((n * 2 ^ j : Nat) : Int) else ((n * 2 ^ j : Nat) : Int))) := by
  unfold Ieee.Datum.order
  simp only []
  congr 1
  have ei : ((-1074 + (i : Nat) : Int) - min (-1074 + (i : Int)) (-1074 + (j : Int))).toNat = i - min i j := by omega
  have ej : ((-1074 + (j : Nat) : Int) - min (-1074 + (i : Int)) (-1074 + (j : Int))).toNat = j - min i j := by omega
  rw [ei, ej, ← cmp_mul _ _ (2 ^ min i j) (Nat.two_pow_pos _), signed_eq _ _ _ _ (Nat.min_le_left _ _), signed_eq _ _ _ _ (Nat.min_le_right _ _)]

/-- **Floats stand in the order of their places.** -/
theorem order_eq (a b : Nat) : FloatKind.f64.format.order a b = if nan a || nan b then none else some (compare (idx a) (idx b)) := by
  unfold Ieee.Format.order
  rw [read_eq, read_eq]
  unfold nan idx
  have l1 : rung a < SW := Nat.mod_lt _ (by decide)
  have l2 : rung b < SW := Nat.mod_lt _ (by decide)
  generalize rung a = r at *
  generalize rung b = q at *
  generalize sgn a = s at *
  generalize sgn b = t at *
  by_cases h1 : INFR < r
  · rw [if_neg (by omega), if_neg (by omega)]
    simp [h1, Ieee.Datum.order]
  · by_cases h2 : INFR < q
    · rw [if_neg (show ¬ q < INFR by omega), if_neg (show ¬ q = INFR by omega)]
      simp only [h2, decide_true, Bool.or_true, if_true]
      unfold Ieee.Datum.order
      split <;> simp_all
    · simp only [h1, h2, decide_false, Bool.or_false, Bool.false_eq_true, if_false]
      by_cases h3 : r = INFR
      · subst h3
        by_cases h4 : q = INFR
        · subst h4
          cases s <;> cases t <;> decide
        · rw [if_neg (by omega), if_pos rfl, if_pos (show q < INFR by omega)]
          have hq : (q : Int) < 9218868437227405312 := by unfold INFR at *; omega
          unfold INFR Ieee.Datum.order
          simp only [compare, compareOfLessAndEq]
          cases s <;> cases t <;> simp only [Bool.false_eq_true, if_false, if_true] <;> (repeat' split) <;> first | rfl | omega
      · rw [if_pos (show r < INFR by omega)]
        by_cases h4 : q = INFR
        · subst h4
          rw [if_neg (by omega), if_pos rfl]
          have hr : (r : Int) < 9218868437227405312 := by unfold INFR at *; omega
          unfold INFR Ieee.Datum.order
          simp only [compare, compareOfLessAndEq]
          cases s <;> cases t <;> simp only [Bool.false_eq_true, if_false, if_true] <;> (repeat' split) <;> first | rfl | omega
        · rw [if_pos (show q < INFR by omega), order_num, ← G_eq, ← G_eq, cmp_idx]

/-! ### The six comparisons, as the walk writes them -/

theorem eq_iff (a b : Nat) : (FloatKind.f64.format.order a b == some .eq) = (!nan a && !nan b && decide (idx a = idx b)) := by
  rw [order_eq]
  cases nan a <;> cases nan b <;> simp [compare, compareOfLessAndEq]
  by_cases h1 : idx a < idx b
  · simp [h1]; omega
  · by_cases h2 : idx a = idx b <;> simp [h2]
    simp [h1]
theorem lt_iff (a b : Nat) : (FloatKind.f64.format.order a b == some .lt) = (!nan a && !nan b && decide (idx a < idx b)) := by
  rw [order_eq]
  cases nan a <;> cases nan b <;> simp [compare, compareOfLessAndEq]
  by_cases h1 : idx a < idx b
  · simp [h1]
  · by_cases h2 : idx a = idx b <;> simp [h1, h2]
theorem gt_iff (a b : Nat) : (FloatKind.f64.format.order a b == some .gt) = (!nan a && !nan b && decide (idx b < idx a)) := by
  rw [order_eq]
  cases nan a <;> cases nan b <;> simp [compare, compareOfLessAndEq]
  by_cases h1 : idx a < idx b
  · simp [h1]; omega
  · by_cases h2 : idx a = idx b
    · simp [h2]
    · simp [h1, h2]; omega

/-- Held against each other: equal, below, not above. -/
def feq (a b : Nat) : Bool := !nan a && !nan b && decide (idx a = idx b)
def flt (a b : Nat) : Bool := !nan a && !nan b && decide (idx a < idx b)
def fle (a b : Nat) : Bool := !nan a && !nan b && decide (idx a ≤ idx b)

theorem feq_true {a b : Nat} : feq a b = true ↔ nan a = false ∧ nan b = false ∧ idx a = idx b := by unfold feq; simp [and_assoc]
theorem flt_true {a b : Nat} : flt a b = true ↔ nan a = false ∧ nan b = false ∧ idx a < idx b := by unfold flt; simp [and_assoc]
theorem fle_true {a b : Nat} : fle a b = true ↔ nan a = false ∧ nan b = false ∧ idx a ≤ idx b := by unfold fle; simp [and_assoc]

theorem le_iff (a b : Nat) : (FloatKind.f64.format.order a b == some .lt || FloatKind.f64.format.order a b == some .eq) = fle a b := by
  rw [lt_iff, eq_iff]; unfold fle
  cases nan a <;> cases nan b <;> simp
  rw [Bool.eq_iff_iff]; simp; omega
theorem ge_iff (a b : Nat) : (FloatKind.f64.format.order a b == some .gt || FloatKind.f64.format.order a b == some .eq) = fle b a := by
  rw [gt_iff, eq_iff]; unfold fle
  cases nan a <;> cases nan b <;> simp
  rw [Bool.eq_iff_iff]; simp; omega

section
variable (t : TypeId) (a b : Nat)
theorem bin_eql : binOp .eql t (.float .f64 a) (.float .f64 b) = pure (.bool (feq a b)) := by rw [binOp_float_cmp_eql, eq_iff]; rfl
theorem bin_neq : binOp .neq t (.float .f64 a) (.float .f64 b) = pure (.bool (!feq a b)) := by
  rw [binOp_float_cmp_neq]; unfold feq; rw [← eq_iff]; rfl
theorem bin_lss : binOp .lss t (.float .f64 a) (.float .f64 b) = pure (.bool (flt a b)) := by rw [binOp_float_cmp_lss, lt_iff]; rfl
theorem bin_leq : binOp .leq t (.float .f64 a) (.float .f64 b) = pure (.bool (fle a b)) := by rw [binOp_float_cmp_leq, le_iff]
theorem bin_gtr : binOp .gtr t (.float .f64 a) (.float .f64 b) = pure (.bool (flt b a)) := by
  rw [binOp_float_cmp_gtr, gt_iff]; unfold flt; rw [Bool.and_comm (!nan a)]
theorem bin_geq : binOp .geq t (.float .f64 a) (.float .f64 b) = pure (.bool (fle b a)) := by rw [binOp_float_cmp_geq, ge_iff]
end

/-! ### Arithmetic of floats, as the walk has it: in every world -/

def fop (op : BinOp) (a b : Nat) (w : World) : Nat :=
  match floatBits op .f64 a b with
  | some r => r
  | none => (Question.nanBits .f64 a b).cut (w.tape w.drawn (.nanBits .f64 a b))
def nd (op : BinOp) (a b : Nat) : Nat := if (floatBits op .f64 a b).isSome then 0 else 1

theorem fop_some {op : BinOp} {a b r : Nat} (w : World) (h : floatBits op .f64 a b = some r) : fop op a b w = r := by unfold fop; rw [h]
theorem nanCut (a b t : Nat) : nan ((Question.nanBits .f64 a b).cut t) = true ∧ (Question.nanBits .f64 a b).cut t < 18446744073709551616 := by
  unfold nan rung Question.cut
  simp only [decide_eq_true_eq]
  unfold INFR SW
  have h1 : t % 2 < 2 := Nat.mod_lt _ (by decide)
  have h2 : t / 2 % (2 ^ 52 - 1) < 2 ^ 52 - 1 := Nat.mod_lt _ (by decide)
  generalize t % 2 = x at *
  generalize t / 2 % (2 ^ 52 - 1) = y at *
  omega
theorem fop_none {op : BinOp} {a b : Nat} (w : World) (h : floatBits op .f64 a b = none) : nan (fop op a b w) = true := by
  unfold fop; rw [h]; exact (nanCut _ _ _).1

theorem run_fop (op : BinOp) (hop : op = .add ∨ op = .sub ∨ op = .mul ∨ op = .quo) (P : Program) (w : World) (t : TypeId) (a b : Nat) :
    (binOp op t (.float .f64 a) (.float .f64 b)).run P w = .ok (.float .f64 (fop op a b w)) (w.drewN (nd op a b)) := by
  cases h : floatBits op .f64 a b with
  | some r => rw [run_float_arith w op t .f64 a b r h]; unfold fop nd; rw [h]; rfl
  | none =>
    have hf : (Question.nanBits .f64 a b).forced = false := rfl
    unfold fop nd
    rw [h]
    unfold floatBits at h
    rcases hop with rfl | rfl | rfl | rfl <;> simp only at h <;> simp [binOp, Op.floatArith, h, run_choose_drew, hf] <;> rfl

end Go.Proofs.Ytjdccbigaahkeaa.Fl
