/- Roots: what the rounded one is; bit by bit. (plain; no program) -/
import Derived.Test.YtjdccbigaahkeaaFl9
namespace Go.Proofs.Ytjdccbigaahkeaa.Fl
set_option linter.unusedSimpArgs false
set_option linter.unusedVariables false

/-- What is whole of a root. -/
def isq : Nat → Nat
  | 0 => 0
  | n + 1 => if (isq n + 1) * (isq n + 1) ≤ n + 1 then isq n + 1 else isq n

theorem isq_spec (n : Nat) : isq n * isq n ≤ n ∧ n < (isq n + 1) * (isq n + 1) := by
  induction n with
  | zero => exact ⟨Nat.le_refl _, by decide⟩
  | succ n ih =>
    unfold isq
    split
    · rename_i h
      refine ⟨h, ?_⟩
      have e : (isq n + 1 + 1) * (isq n + 1 + 1) = (isq n + 1) * (isq n + 1) + 2 * (isq n + 1) + 1 := by
        rw [Nat.add_mul (isq n + 1) 1, Nat.mul_add (isq n + 1), Nat.mul_one, Nat.one_mul]; omega
      omega
    · rename_i h
      exact ⟨by omega, by omega⟩

theorem isq_le {k n : Nat} : k * k ≤ n ↔ k ≤ isq n := by
  have h := isq_spec n
  constructor
  · intro hk
    rcases Nat.lt_or_ge (isq n) k with c | c
    · have := Nat.mul_self_le_mul_self (show isq n + 1 ≤ k from c)
      omega
    · exact c
  · intro hk
    have := Nat.mul_self_le_mul_self hk
    omega

/-- A root, in units of 2^-1074, as a ratio: between the halves that stand about it. -/
def rootN (A : Nat) : Nat := if isq (4 * A * pw 1074) * isq (4 * A * pw 1074) = 4 * A * pw 1074 then isq (4 * A * pw 1074) else 2 * isq (4 * A * pw 1074) + 1
def rootD (A : Nat) : Nat := if isq (4 * A * pw 1074) * isq (4 * A * pw 1074) = 4 * A * pw 1074 then 2 else 4

theorem rootD_pos (A : Nat) : 0 < rootD A := by unfold rootD; split <;> decide

/-- Halves below it are those whose square is. -/
theorem root_le (A k : Nat) : k * rootD A ≤ 2 * rootN A ↔ k * k ≤ 4 * A * pw 1074 := by
  unfold rootD rootN
  rw [isq_le]
  split <;> omega
theorem root_eq (A k : Nat) : k * rootD A = 2 * rootN A ↔ k * k = 4 * A * pw 1074 := by
  unfold rootD rootN
  generalize 4 * A * pw 1074 = n
  have h := isq_spec n
  split
  · rename_i e
    constructor
    · intro hk
      have : k = isq n := by omega
      rw [this, e]
    · intro hk
      have : k ≤ isq n := isq_le.1 (by omega)
      have h2 : isq n ≤ k := by
        rcases Nat.lt_or_ge k (isq n) with c | c
        · have := Nat.mul_self_lt_mul_self c
          omega
        · exact c
      omega
  · rename_i e
    constructor
    · intro hk; omega
    · intro hk
      exfalso
      have h1 : k ≤ isq n := isq_le.1 (by omega)
      have h3 := Nat.mul_self_le_mul_self h1
      have : isq n * isq n = n := by omega
      exact e this

def rootS (a : Nat) (dir : Int) : Nat :=
  if nan a then QN
  else if rung a = 0 then 0
  else if sgn a then QN
  else if finB a then rnd (rootN (G (rung a))) (rootD (G (rung a))) dir
  else a

/-- V, and what lies behind it, of the root of A. -/
theorem root_amount {A V a : Nat} {more : Bool} (h1 : V * 2 ^ a * (V * 2 ^ a) ≤ A * pw 1074) (h2 : A * pw 1074 < (V + 1) * 2 ^ a * ((V + 1) * 2 ^ a)) (hm : more = true ↔ V * 2 ^ a * (V * 2 ^ a) ≠ A * pw 1074) :
    Amount V more a 0 (rootN A) (rootD A) := by
  have e0 : 4 * A * pw 1074 = 4 * (A * pw 1074) := Nat.mul_assoc _ _ _
  have k1 := root_le A (2 * (V * 2 ^ a))
  have k2 := root_eq A (2 * (V * 2 ^ a))
  have k3 := root_le A (2 * ((V + 1) * 2 ^ a))
  have sq : ∀ x : Nat, 2 * x * (2 * x) = 4 * (x * x) := fun x => by
    rw [Nat.mul_assoc, Nat.mul_left_comm x 2 x, ← Nat.mul_assoc]
  rw [sq, e0] at k1 k2 k3
  unfold Amount
  rw [Nat.pow_zero, Nat.mul_one]
  generalize V * 2 ^ a = X at *
  generalize (V + 1) * 2 ^ a = Y at *
  have l1 := k1.2 (by omega)
  have l3 : 2 * rootN A < 2 * Y * rootD A := by
    rcases Nat.lt_or_ge (2 * rootN A) (2 * Y * rootD A) with c | c
    · exact c
    · have := k3.1 c; omega
  rw [Nat.mul_assoc] at l1 l3 k2
  cases more
  · have : X * X = A * pw 1074 := by
      rcases Nat.eq_or_lt_of_le h1 with h | h
      · exact h
      · have := hm.2 (by omega); cases this
    have := k2.2 (by omega)
    simp only [Bool.false_eq_true, if_false]; omega
  · have hne := hm.1 rfl
    have : ¬ 2 * (X * rootD A) = 2 * rootN A := fun h => hne (by have := k2.1 h; omega)
    simp only [if_true]; omega

def RootInv (T r : Int) (k : Nat) : Prop := 0 ≤ r ∧ (∃ q, r = 2 ^ k * q) ∧ r + 2 ^ k ≤ 18446744073709551616 ∧ r * r ≤ T ∧ T < (r + 2 ^ k) * (r + 2 ^ k)

theorem rootInv_start {T : Int} (h0 : 0 ≤ T) (h1 : T < 18446744073709551616 * 18446744073709551616) : RootInv T 0 64 := by
  refine ⟨Int.le_refl _, ⟨0, by simp⟩, by decide, by simpa using h0, ?_⟩
  rw [Int.zero_add, show (2 : Int) ^ 64 = 18446744073709551616 by decide]
  exact h1

theorem rootInv_step {T r : Int} {k : Nat} (h : RootInv T r (k + 1)) :
    (r + 2 ^ k) * (r + 2 ^ k) ≤ T → RootInv T (r + 2 ^ k) k := by
  intro ht
  obtain ⟨h0, ⟨q, hq⟩, h2, h3, h4⟩ := h
  have p : (0 : Int) < 2 ^ k := by rw [← pow2_cast]; have := Nat.two_pow_pos k; omega
  have e : (2 : Int) ^ (k + 1) = 2 ^ k + 2 ^ k := by rw [Int.pow_succ]; omega
  rw [e] at h2 h4
  refine ⟨by omega, ⟨2 * q + 1, ?_⟩, by omega, ht, ?_⟩
  · rw [hq, e, Int.mul_add, Int.mul_one, Int.add_mul]; 
    have : (2 : Int) ^ k * (2 * q) = 2 ^ k * q + 2 ^ k * q := by rw [Int.mul_left_comm]; omega
    omega
  · rw [show r + 2 ^ k + 2 ^ k = r + (2 ^ k + 2 ^ k) by omega]; exact h4

theorem rootInv_stay {T r : Int} {k : Nat} (h : RootInv T r (k + 1)) :
    T < (r + 2 ^ k) * (r + 2 ^ k) → RootInv T r k := by
  intro ht
  obtain ⟨h0, ⟨q, hq⟩, h2, h3, h4⟩ := h
  have p : (0 : Int) < 2 ^ k := by rw [← pow2_cast]; have := Nat.two_pow_pos k; omega
  have e : (2 : Int) ^ (k + 1) = 2 ^ k + 2 ^ k := by rw [Int.pow_succ]; omega
  rw [e] at h2
  refine ⟨h0, ⟨2 * q, ?_⟩, by omega, h3, ht⟩
  rw [hq, e, Int.add_mul, Int.mul_left_comm]; omega

/-- The root of the machine. -/
def fsq (a : Nat) (w : World) : Nat :=
  match FloatKind.f64.format.sqrt a with
  | some r => r
  | none => (Question.nanBits .f64 a a).cut (w.tape w.drawn (.nanBits .f64 a a))
def nsq (a : Nat) : Nat := if (FloatKind.f64.format.sqrt a).isSome then 0 else 1

theorem fsq_non {a : Nat} (w : World) (ha : a < 18446744073709551616) (h : finB a = false ∨ flt a 0 = true) (dir : Int) : Eqv (fsq a w) (rootS a dir) ∧ fsq a w < 18446744073709551616 := by
  have none_ : FloatKind.f64.format.sqrt a = none → nan (fsq a w) = true ∧ fsq a w < 18446744073709551616 := by
    intro h
    unfold fsq; rw [h]; exact nanCut _ _ _
  unfold rootS
  by_cases hn : nan a = true
  · rw [if_pos hn]
    have : FloatKind.f64.format.sqrt a = none := by
      have hr := nan_true.1 hn
      unfold Ieee.Format.sqrt
      rw [read_eq, if_neg (by omega), if_neg (by omega)]
      rfl
    exact ⟨Or.inr ⟨(none_ this).1, nan_QN⟩, (none_ this).2⟩
  · rw [if_neg hn]
    have hn' : nan a = false := by simpa using hn
    by_cases hf : finB a = true
    · have hl : flt a 0 = true := by
        rcases h with h | h
        · rw [hf] at h; cases h
        · exact h
      have hneg : idx a < 0 := by
        unfold flt at hl
        simp at hl
        have : idx 0 = 0 := by decide
        omega
      have hs : sgn a = true ∧ rung a ≠ 0 := by
        unfold idx at hneg
        cases hh : sgn a
        · rw [hh] at hneg; simp at hneg; omega
        · rw [hh] at hneg; simp at hneg; exact ⟨rfl, by omega⟩
      rw [if_neg hs.2, hs.1, if_pos rfl]
      have : FloatKind.f64.format.sqrt a = none := by
        unfold Ieee.Format.sqrt
        rw [read_fin hf, hs.1]
        unfold Ieee.Datum.root
        simp only []
        rw [if_neg (fun hh => hs.2 (mag_zero.1 hh)), if_pos trivial]
        rfl
      exact ⟨Or.inr ⟨(none_ this).1, nan_QN⟩, (none_ this).2⟩
    · have hf' : finB a = false := by simpa using hf
      obtain ⟨r1, r2⟩ := read_inf hf' hn'
      rw [if_neg (by rw [r2]; decide), if_neg hf]
      cases hs : sgn a
      · have : FloatKind.f64.format.sqrt a = some a := by
          unfold Ieee.Format.sqrt
          rw [r1, hs]
          simp only [Ieee.Datum.root, Bool.false_eq_true, if_false, Option.map_some, Ieee.Format.write, fmt_inf, fword]
          congr 1
          have := infW_of ha r2
          rw [hs] at this; exact this
        have e : fsq a w = a := by unfold fsq; rw [this]
        rw [e]
        simp; exact ⟨Or.inl rfl, ha⟩
      · have : FloatKind.f64.format.sqrt a = none := by
          unfold Ieee.Format.sqrt
          rw [r1, hs]
          rfl
        rw [if_pos rfl]
        exact ⟨Or.inr ⟨(none_ this).1, nan_QN⟩, (none_ this).2⟩
end Go.Proofs.Ytjdccbigaahkeaa.Fl
