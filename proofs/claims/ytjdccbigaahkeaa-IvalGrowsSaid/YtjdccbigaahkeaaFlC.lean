/- One digit of a long division. (plain; no program) -/
import Derived.Test.YtjdccbigaahkeaaFlB
namespace Go.Proofs.Ytjdccbigaahkeaa.Fl
set_option linter.unusedSimpArgs false
set_option linter.unusedVariables false

theorem Int.lt_of_mul_lt {a b c : Int} (hc : 0 ≤ c) (h : a * c < b * c) : a < b := by
  rcases Int.lt_or_le a b with h1 | h1
  · exact h1
  · have := Int.mul_le_mul_of_nonneg_right h1 hc; omega

theorem digit {u d y y1 y0 : Int} (hy : y = y1 * 4294967296 + y0) (hu0 : 0 ≤ u) (hu : u < y) (h1 : 2147483648 ≤ y1) (h1' : y1 ≤ 4294967295) (h0 : 0 ≤ y0) (h0' : y0 ≤ 4294967295) (hd : 0 ≤ d) (hd' : d ≤ 4294967295) :
    ∃ q0 p0 r0 m0 m1 q rem : Int, u.tdiv y1 = q0 ∧ q0 * y1 = p0 ∧ u - p0 = r0 ∧ q0 * y0 = m0 ∧ (q0 - 1) * y0 = m1 ∧ 0 ≤ q0 ∧ q0 ≤ 4294967297 ∧ 0 ≤ p0 ∧ p0 ≤ u ∧ 0 ≤ r0 ∧ r0 < y1 ∧
      u * 4294967296 + d = q * y + rem ∧ 0 ≤ rem ∧ rem < y ∧ 0 ≤ q ∧ q ≤ 4294967295 ∧ 0 ≤ m0 ∧ (q0 ≤ 4294967295 → m0 ≤ 18446744065119617025) ∧ (q0 ≤ 4294967296 → m1 ≤ 18446744065119617025) ∧ (1 ≤ q0 → 0 ≤ m1) ∧
      ((q0 < 4294967296 ∧ m0 ≤ 4294967296 * r0 + d ∧ q = q0) ∨
       ((4294967296 ≤ q0 ∨ (1 ≤ q0 ∧ q0 < 4294967296 ∧ 4294967296 * r0 + d < m0)) ∧ 4294967296 ≤ r0 + y1 ∧ q = q0 - 1) ∨
       ((4294967296 ≤ q0 ∨ (1 ≤ q0 ∧ q0 < 4294967296 ∧ 4294967296 * r0 + d < m0)) ∧ r0 + y1 < 4294967296 ∧ q0 - 1 < 4294967296 ∧ m1 ≤ 4294967296 * (r0 + y1) + d ∧ q = q0 - 1) ∨
       ((4294967296 ≤ q0 ∨ (1 ≤ q0 ∧ q0 < 4294967296 ∧ 4294967296 * r0 + d < m0)) ∧ r0 + y1 < 4294967296 ∧ (4294967296 ≤ q0 - 1 ∨ (2 ≤ q0 ∧ q0 - 1 < 4294967296 ∧ 4294967296 * (r0 + y1) + d < m1)) ∧ 4294967296 ≤ r0 + y1 + y1 ∧ q = q0 - 1 - 1)) := by
  obtain ⟨q0, hq0⟩ : ∃ q0, u.tdiv y1 = q0 := ⟨_, rfl⟩
  have hq0' : u / y1 = q0 := by rw [← hq0, Int.tdiv_eq_ediv_of_nonneg hu0]
  have e1 := Int.mul_ediv_add_emod u y1
  have e2 := Int.emod_nonneg u (show y1 ≠ 0 by omega)
  have e3 := Int.emod_lt_of_pos u (show 0 < y1 by omega)
  rw [hq0', Int.mul_comm] at e1
  have q0n : 0 ≤ q0 := by rw [← hq0']; exact Int.ediv_nonneg hu0 (by omega)
  have q0b : q0 < 4294967298 := by
    apply Int.lt_of_mul_lt (c := y1) (by omega)
    omega
  have p0n : 0 ≤ q0 * y1 := Int.mul_nonneg q0n (by omega)
  have m0n : 0 ≤ q0 * y0 := Int.mul_nonneg q0n h0
  have m0b : q0 * y0 ≤ 4294967297 * y0 := Int.mul_le_mul_of_nonneg_right (by omega) h0
  have m0c : q0 ≤ 4294967295 → q0 * y0 ≤ 18446744065119617025 := by
    intro h
    have : q0 * y0 ≤ 4294967295 * y0 := Int.mul_le_mul_of_nonneg_right (by omega) h0
    omega
  have m1e : (q0 - 1) * y0 = q0 * y0 - y0 := by rw [Int.sub_mul, Int.one_mul]
  have m1c : q0 ≤ 4294967296 → (q0 - 1) * y0 ≤ 18446744065119617025 := by
    intro h
    have : (q0 - 1) * y0 ≤ 4294967295 * y0 := Int.mul_le_mul_of_nonneg_right (by omega) h0
    omega
  have m1n : 1 ≤ q0 → 0 ≤ (q0 - 1) * y0 := fun h => Int.mul_nonneg (by omega) h0
  have ey : ∀ q : Int, q * y = (q * y1) * 4294967296 + q * y0 := by
    intro q; rw [hy, Int.mul_add, Int.mul_assoc]
  have ey0 := ey q0
  have big : 4294967296 ≤ q0 → 4294967296 * y ≤ q0 * y := fun h => Int.mul_le_mul_of_nonneg_right h (by omega)
  have big1 : 4294967296 ≤ q0 - 1 → 4294967296 * y ≤ (q0 - 1) * y := fun h => Int.mul_le_mul_of_nonneg_right h (by omega)
  have ey1 : (q0 - 1) * y = q0 * y - y := by rw [Int.sub_mul, Int.one_mul]
  have ey2 : (q0 - 1 - 1) * y = q0 * y - 2 * y := by rw [Int.sub_mul, Int.sub_mul]; omega
  have fin : ∀ q rem : Int, u * 4294967296 + d = q * y + rem → 0 ≤ rem → rem < y → 0 ≤ q ∧ q ≤ 4294967295 := by
    intro q rem h h2 h3
    constructor
    · have : (-1) * y < q * y := by omega
      have := Int.lt_of_mul_lt (c := y) (by omega) this
      omega
    · have : q * y < 4294967296 * y := by omega
      have := Int.lt_of_mul_lt (c := y) (by omega) this
      omega
  have mz : q0 = 0 → q0 * y0 = 0 := by rintro rfl; exact Int.zero_mul _
  have mz1 : q0 = 1 → (q0 - 1) * y0 = 0 := by rintro rfl; rw [show (1 : Int) - 1 = 0 by rfl]; exact Int.zero_mul _
  have done : ∀ q rem : Int, u * 4294967296 + d = q * y + rem → 0 ≤ rem → rem < y → _ → _ := fun q rem h h2 h3 h4 =>
    (⟨q0, q0 * y1, u % y1, q0 * y0, (q0 - 1) * y0, q, rem, hq0, rfl, by omega, rfl, rfl, q0n, by omega, p0n, by omega, e2, e3, h, h2, h3, (fin q rem h h2 h3).1, (fin q rem h h2 h3).2, m0n, m0c, m1c, m1n, h4⟩ : ∃ q0 p0 r0 m0 m1 q rem : Int, u.tdiv y1 = q0 ∧ q0 * y1 = p0 ∧ u - p0 = r0 ∧ q0 * y0 = m0 ∧ (q0 - 1) * y0 = m1 ∧ 0 ≤ q0 ∧ q0 ≤ 4294967297 ∧ 0 ≤ p0 ∧ p0 ≤ u ∧ 0 ≤ r0 ∧ r0 < y1 ∧
      u * 4294967296 + d = q * y + rem ∧ 0 ≤ rem ∧ rem < y ∧ 0 ≤ q ∧ q ≤ 4294967295 ∧ 0 ≤ m0 ∧ (q0 ≤ 4294967295 → m0 ≤ 18446744065119617025) ∧ (q0 ≤ 4294967296 → m1 ≤ 18446744065119617025) ∧ (1 ≤ q0 → 0 ≤ m1) ∧
      ((q0 < 4294967296 ∧ m0 ≤ 4294967296 * r0 + d ∧ q = q0) ∨
       ((4294967296 ≤ q0 ∨ (1 ≤ q0 ∧ q0 < 4294967296 ∧ 4294967296 * r0 + d < m0)) ∧ 4294967296 ≤ r0 + y1 ∧ q = q0 - 1) ∨
       ((4294967296 ≤ q0 ∨ (1 ≤ q0 ∧ q0 < 4294967296 ∧ 4294967296 * r0 + d < m0)) ∧ r0 + y1 < 4294967296 ∧ q0 - 1 < 4294967296 ∧ m1 ≤ 4294967296 * (r0 + y1) + d ∧ q = q0 - 1) ∨
       ((4294967296 ≤ q0 ∨ (1 ≤ q0 ∧ q0 < 4294967296 ∧ 4294967296 * r0 + d < m0)) ∧ r0 + y1 < 4294967296 ∧ (4294967296 ≤ q0 - 1 ∨ (2 ≤ q0 ∧ q0 - 1 < 4294967296 ∧ 4294967296 * (r0 + y1) + d < m1)) ∧ 4294967296 ≤ r0 + y1 + y1 ∧ q = q0 - 1 - 1)))
  generalize hqy : q0 * y = qy at *
  generalize q0 * y1 = p0 at *
  generalize hm0 : q0 * y0 = m0 at *
  generalize (q0 - 1) * y0 = m1 at *
  generalize u % y1 = r0 at *
  by_cases c0 : q0 < 4294967296 ∧ m0 ≤ 4294967296 * r0 + d
  · exact done q0 (u * 4294967296 + d - qy) (by rw [hqy]; omega) (by omega) (by omega) (Or.inl ⟨c0.1, c0.2, rfl⟩)
  · have k0 : 4294967296 ≤ q0 ∨ (1 ≤ q0 ∧ q0 < 4294967296 ∧ 4294967296 * r0 + d < m0) := by omega
    have n0 : u * 4294967296 + d - qy < 0 := by omega
    by_cases c1 : 4294967296 ≤ r0 + y1
    · exact done (q0 - 1) (u * 4294967296 + d - (qy - y)) (by omega) (by omega) (by omega) (Or.inr (Or.inl ⟨k0, c1, rfl⟩))
    · by_cases c2 : q0 - 1 < 4294967296 ∧ m1 ≤ 4294967296 * (r0 + y1) + d
      · exact done (q0 - 1) (u * 4294967296 + d - (qy - y)) (by omega) (by omega) (by omega) (Or.inr (Or.inr (Or.inl ⟨k0, by omega, c2.1, c2.2, rfl⟩)))
      · exact done (q0 - 1 - 1) (u * 4294967296 + d - (qy - 2 * y)) (by omega) (by omega) (by omega) (Or.inr (Or.inr (Or.inr ⟨k0, by omega, by omega, by omega, rfl⟩)))
end Go.Proofs.Ytjdccbigaahkeaa.Fl

/- Roots: what the rounded one is; bit by bit. (plain; no program) -/
namespace Go.Proofs.Ytjdccbigaahkeaa.Fl
set_option linter.unusedSimpArgs false
set_option linter.unusedVariables false

/-- What is whole of a root. -/
def isq : Nat → Nat
  | 0 => 0
  | n + 1 => if (isq n + 1) * (isq n + 1) ≤ n + 1 then isq n + 1 else isq n

theorem isq_spec (n : Nat) : isq n * isq n ≤ n ∧ n < (isq n + 1) * (isq n + 1) := by
  induction n with
  | zero => exact ⟨Nat.le_refl _, by decide⟩
  | succ n ih =>
    unfold isq
    split
    · rename_i h
      refine ⟨h, ?_⟩
      have e : (isq n + 1 + 1) * (isq n + 1 + 1) = (isq n + 1) * (isq n + 1) + 2 * (isq n + 1) + 1 := by
        rw [Nat.add_mul (isq n + 1) 1, Nat.mul_add (isq n + 1), Nat.mul_one, Nat.one_mul]; omega
      omega
    · rename_i h
      exact ⟨by omega, by omega⟩

theorem isq_le {k n : Nat} : k * k ≤ n ↔ k ≤ isq n := by
  have h := isq_spec n
  constructor
  · intro hk
    rcases Nat.lt_or_ge (isq n) k with c | c
    · have := Nat.mul_self_le_mul_self (show isq n + 1 ≤ k from c)
      omega
    · exact c
  · intro hk
    have := Nat.mul_self_le_mul_self hk
    omega

/-- A root, in units of 2^-1074, as a ratio: between the halves that stand about it. -/
def rootN (A : Nat) : Nat := if isq (4 * A * pw 1074) * isq (4 * A * pw 1074) = 4 * A * pw 1074 then isq (4 * A * pw 1074) else 2 * isq (4 * A * pw 1074) + 1
def rootD (A : Nat) : Nat := if isq (4 * A * pw 1074) * isq (4 * A * pw 1074) = 4 * A * pw 1074 then 2 else 4

theorem rootD_pos (A : Nat) : 0 < rootD A := by unfold rootD; split <;> decide

/-- Halves below it are those whose square is. -/
theorem root_le (A k : Nat) : k * rootD A ≤ 2 * rootN A ↔ k * k ≤ 4 * A * pw 1074 := by
  unfold rootD rootN
  rw [isq_le]
  split <;> omega
theorem root_eq (A k : Nat) : k * rootD A = 2 * rootN A ↔ k * k = 4 * A * pw 1074 := by
  unfold rootD rootN
  generalize 4 * A * pw 1074 = n
  have h := isq_spec n
  split
  · rename_i e
    constructor
    · intro hk
      have : k = isq n := by omega
      rw [this, e]
    · intro hk
      have : k ≤ isq n := isq_le.1 (by omega)
      have h2 : isq n ≤ k := by
        rcases Nat.lt_or_ge k (isq n) with c | c
        · have := Nat.mul_self_lt_mul_self c
          omega
        · exact c
      omega
  · rename_i e
    constructor
    · intro hk; omega
    · intro hk
      exfalso
      have h1 : k ≤ isq n := isq_le.1 (by omega)
      have h3 := Nat.mul_self_le_mul_self h1
      have : isq n * isq n = n := by omega
      exact e this

def rootS (a : Nat) (dir : Int) : Nat :=
  if nan a then QN
  else if rung a = 0 then 0
  else if sgn a then QN
  else if finB a then rnd (rootN (G (rung a))) (rootD (G (rung a))) dir
  else a

/-- V, and what lies behind it, of the root of A. -/
theorem root_amount {A V a : Nat} {more : Bool} (h1 : V * 2 ^ a * (V * 2 ^ a) ≤ A * pw 1074) (h2 : A * pw 1074 < (V + 1) * 2 ^ a * ((V + 1) * 2 ^ a)) (hm : more = true ↔ V * 2 ^ a * (V * 2 ^ a) ≠ A * pw 1074) :
    Amount V more a 0 (rootN A) (rootD A) := by
  have e0 : 4 * A * pw 1074 = 4 * (A * pw 1074) := Nat.mul_assoc _ _ _
  have k1 := root_le A (2 * (V * 2 ^ a))
  have k2 := root_eq A (2 * (V * 2 ^ a))
  have k3 := root_le A (2 * ((V + 1) * 2 ^ a))
  have sq : ∀ x : Nat, 2 * x * (2 * x) = 4 * (x * x) := fun x => by
    rw [Nat.mul_assoc, Nat.mul_left_comm x 2 x, ← Nat.mul_assoc]
  rw [sq, e0] at k1 k2 k3
  unfold Amount
  rw [Nat.pow_zero, Nat.mul_one]
  generalize V * 2 ^ a = X at *
  generalize (V + 1) * 2 ^ a = Y at *
  have l1 := k1.2 (by omega)
  have l3 : 2 * rootN A < 2 * Y * rootD A := by
    rcases Nat.lt_or_ge (2 * rootN A) (2 * Y * rootD A) with c | c
    · exact c
    · have := k3.1 c; omega
  rw [Nat.mul_assoc] at l1 l3 k2
  cases more
  · have : X * X = A * pw 1074 := by
      rcases Nat.eq_or_lt_of_le h1 with h | h
      · exact h
      · have := hm.2 (by omega); cases this
    have := k2.2 (by omega)
    simp only [Bool.false_eq_true, if_false]; omega
  · have hne := hm.1 rfl
    have : ¬ 2 * (X * rootD A) = 2 * rootN A := fun h => hne (by have := k2.1 h; omega)
    simp only [if_true]; omega

def RootInv (T r : Int) (k : Nat) : Prop := 0 ≤ r ∧ (∃ q, r = 2 ^ k * q) ∧ r + 2 ^ k ≤ 18446744073709551616 ∧ r * r ≤ T ∧ T < (r + 2 ^ k) * (r + 2 ^ k)

theorem rootInv_start {T : Int} (h0 : 0 ≤ T) (h1 : T < 18446744073709551616 * 18446744073709551616) : RootInv T 0 64 := by
  refine ⟨Int.le_refl _, ⟨0, by simp⟩, by decide, by simpa using h0, ?_⟩
  rw [Int.zero_add, show (2 : Int) ^ 64 = 18446744073709551616 by decide]
  exact h1

theorem rootInv_step {T r : Int} {k : Nat} (h : RootInv T r (k + 1)) :
    (r + 2 ^ k) * (r + 2 ^ k) ≤ T → RootInv T (r + 2 ^ k) k := by
  intro ht
  obtain ⟨h0, ⟨q, hq⟩, h2, h3, h4⟩ := h
  have p : (0 : Int) < 2 ^ k := by rw [← pow2_cast]; have := Nat.two_pow_pos k; omega
  have e : (2 : Int) ^ (k + 1) = 2 ^ k + 2 ^ k := by rw [Int.pow_succ]; omega
  rw [e] at h2 h4
  refine ⟨by omega, ⟨2 * q + 1, ?_⟩, by omega, ht, ?_⟩
  · rw [hq, e, Int.mul_add, Int.mul_one, Int.add_mul]; 
    have : (2 : Int) ^ k * (2 * q) = 2 ^ k * q + 2 ^ k * q := by rw [Int.mul_left_comm]; omega
    omega
  · rw [show r + 2 ^ k + 2 ^ k = r + (2 ^ k + 2 ^ k) by omega]; exact h4

theorem rootInv_stay {T r : Int} {k : Nat} (h : RootInv T r (k + 1)) :
    T < (r + 2 ^ k) * (r + 2 ^ k) → RootInv T r k := by
  intro ht
  obtain ⟨h0, ⟨q, hq⟩, h2, h3, h4⟩ := h
  have p : (0 : Int) < 2 ^ k := by rw [← pow2_cast]; have := Nat.two_pow_pos k; omega
  have e : (2 : Int) ^ (k + 1) = 2 ^ k + 2 ^ k := by rw [Int.pow_succ]; omega
  rw [e] at h2
  refine ⟨h0, ⟨2 * q, ?_⟩, by omega, h3, ht⟩
  rw [hq, e, Int.add_mul, Int.mul_left_comm]; omega

/-- The root of the machine. -/
def fsq (a : Nat) (w : World) : Nat :=
  match FloatKind.f64.format.sqrt a with
  | some r => r
  | none => (Question.nanBits .f64 a a).cut (w.tape w.drawn (.nanBits .f64 a a))
def nsq (a : Nat) : Nat := if (FloatKind.f64.format.sqrt a).isSome then 0 else 1

theorem fsq_non {a : Nat} (w : World) (ha : a < 18446744073709551616) (h : finB a = false ∨ flt a 0 = true) (dir : Int) : Eqv (fsq a w) (rootS a dir) ∧ fsq a w < 18446744073709551616 := by
  have none_ : FloatKind.f64.format.sqrt a = none → nan (fsq a w) = true ∧ fsq a w < 18446744073709551616 := by
    intro h
    unfold fsq; rw [h]; exact nanCut _ _ _
  unfold rootS
  by_cases hn : nan a = true
  · rw [if_pos hn]
    have : FloatKind.f64.format.sqrt a = none := by
      have hr := nan_true.1 hn
      unfold Ieee.Format.sqrt
      rw [read_eq, if_neg (by omega), if_neg (by omega)]
      rfl
    exact ⟨Or.inr ⟨(none_ this).1, nan_QN⟩, (none_ this).2⟩
  · rw [if_neg hn]
    have hn' : nan a = false := by simpa using hn
    by_cases hf : finB a = true
    · have hl : flt a 0 = true := by
        rcases h with h | h
        · rw [hf] at h; cases h
        · exact h
      have hneg : idx a < 0 := by
        unfold flt at hl
        simp at hl
        have : idx 0 = 0 := by decide
        omega
      have hs : sgn a = true ∧ rung a ≠ 0 := by
        unfold idx at hneg
        cases hh : sgn a
        · rw [hh] at hneg; simp at hneg; omega
        · rw [hh] at hneg; simp at hneg; exact ⟨rfl, by omega⟩
      rw [if_neg hs.2, hs.1, if_pos rfl]
      have : FloatKind.f64.format.sqrt a = none := by
        unfold Ieee.Format.sqrt
        rw [read_fin hf, hs.1]
        unfold Ieee.Datum.root
        simp only []
        rw [if_neg (fun hh => hs.2 (mag_zero.1 hh)), if_pos trivial]
        rfl
      exact ⟨Or.inr ⟨(none_ this).1, nan_QN⟩, (none_ this).2⟩
    · have hf' : finB a = false := by simpa using hf
      obtain ⟨r1, r2⟩ := read_inf hf' hn'
      rw [if_neg (by rw [r2]; decide), if_neg hf]
      cases hs : sgn a
      · have : FloatKind.f64.format.sqrt a = some a := by
          unfold Ieee.Format.sqrt
          rw [r1, hs]
          simp only [Ieee.Datum.root, Bool.false_eq_true, if_false, Option.map_some, Ieee.Format.write, fmt_inf, fword]
          congr 1
          have := infW_of ha r2
          rw [hs] at this; exact this
        have e : fsq a w = a := by unfold fsq; rw [this]
        rw [e]
        simp; exact ⟨Or.inl rfl, ha⟩
      · have : FloatKind.f64.format.sqrt a = none := by
          unfold Ieee.Format.sqrt
          rw [r1, hs]
          rfl
        rw [if_pos rfl]
        exact ⟨Or.inr ⟨(none_ this).1, nan_QN⟩, (none_ this).2⟩
end Go.Proofs.Ytjdccbigaahkeaa.Fl

/- Rounded to either side: the order of what comes out; mirrored. (plain; no program) -/
namespace Go.Proofs.Ytjdccbigaahkeaa.Fl
set_option linter.unusedSimpArgs false
set_option linter.unusedVariables false

/-- The place of what is rounded. -/
def plc (S : Int) (D : Nat) (dir : Int) : Int := if S < 0 then -(rungOf S.natAbs D (-dir) : Int) else (rungOf S.natAbs D dir : Int)

theorem rnd_eq (S : Int) (D : Nat) (dir : Int) : rnd S D dir = bitsOf (plc S D dir) := by
  unfold rnd plc
  by_cases h : S < 0 <;> simp [h]

theorem plc_le (S : Int) (D : Nat) (dir : Int) : -9218868437227405312 ≤ plc S D dir ∧ plc S D dir ≤ 9218868437227405312 := by
  have h1 := rungOf_le S.natAbs D dir
  have h2 := rungOf_le S.natAbs D (-dir)
  unfold INFR at h1 h2
  unfold plc
  split <;> omega

/-- Down, near, up: in this order, and no more than neighbours. -/
theorem rungOf_sides (N D : Nat) : rungOf N D (-1) ≤ rungOf N D 0 ∧ rungOf N D 0 ≤ rungOf N D 1 ∧ rungOf N D 1 ≤ rungOf N D (-1) + 1 := by
  unfold rungOf
  by_cases h : G (flr N D) * D = N
  · rw [if_pos h, if_pos h, if_pos h]; omega
  · rw [if_neg h, if_neg h, if_neg h]
    simp only [show ((-1 : Int) < 0) by decide, show ¬ ((0 : Int) < 0) by decide, show ¬ ((1 : Int) < 0) by decide, show ((0 : Int) < 1) by decide, if_true, if_false]
    repeat' split
    all_goals omega

theorem plc_sides (S : Int) (D : Nat) : plc S D (-1) ≤ plc S D 0 ∧ plc S D 0 ≤ plc S D 1 ∧ plc S D 1 ≤ plc S D (-1) + 1 := by
  have h := rungOf_sides S.natAbs D
  unfold plc
  split
  · rw [show (-(-1) : Int) = 1 by decide, show (-(0) : Int) = 0 by decide]; omega
  · omega

theorem plc_neg {S : Int} {D : Nat} (hD : 0 < D) (dir : Int) : plc (-S) D dir = - plc S D (-dir) := by
  unfold plc
  rw [Int.natAbs_neg]
  rcases Int.lt_trichotomy S 0 with h | h | h
  · rw [if_neg (by omega), if_pos h]; simp
  · subst h; simp [rungOf_zero D hD]
  · rw [if_pos (by omega), if_neg (by omega)]

/-- A place's own float. -/
theorem nan_bits {i : Int} (h1 : -9218868437227405312 ≤ i) (h2 : i ≤ 9218868437227405312) : nan (bitsOf i) = false ∧ idx (bitsOf i) = i ∧ bitsOf i < 18446744073709551616 := by
  have e := idx_bitsOf (i := i) (by unfold INFR; omega) (by unfold INFR; omega)
  exact ⟨e.2.1, e.1, e.2.2⟩

def SidesOk (d n u : Nat) : Prop :=
  (nan d = true ∧ nan n = true ∧ nan u = true) ∨
    ∃ i j k : Int, d = bitsOf i ∧ n = bitsOf j ∧ u = bitsOf k ∧ -9218868437227405312 ≤ i ∧ i ≤ j ∧ j ≤ k ∧ k ≤ i + 1 ∧ k ≤ 9218868437227405312

theorem SidesOk.eqv {d n u d' n' u' : Nat} (h : SidesOk d n u) (h1 : Eqv d' d) (h2 : Eqv n' n) (h3 : Eqv u' u) : SidesOk d' n' u' := by
  rcases h with ⟨a, b, c⟩ | ⟨i, j, k, rfl, rfl, rfl, b1, b2, b3, b4, b5⟩
  · exact Or.inl ⟨by rw [h1.nan, a], by rw [h2.nan, b], by rw [h3.nan, c]⟩
  · right
    refine ⟨i, j, k, h1.num (nan_bits (by omega) (by omega)).1, h2.num (nan_bits (by omega) (by omega)).1, h3.num (nan_bits (by omega) (by omega)).1, b1, b2, b3, b4, b5⟩

theorem sides_rnd (S : Int) (D : Nat) : SidesOk (rnd S D (-1)) (rnd S D 0) (rnd S D 1) := by
  right
  have h := plc_sides S D
  have h1 := plc_le S D (-1)
  have h2 := plc_le S D 1
  exact ⟨_, _, _, rnd_eq _ _ _, rnd_eq _ _ _, rnd_eq _ _ _, h1.1, h.1, h.2.1, h.2.2, h2.2⟩

theorem sides_nan {x : Nat} (h : nan x = true) : SidesOk x x x := Or.inl ⟨h, h, h⟩
theorem sides_bits {i : Int} (h1 : -9218868437227405312 ≤ i) (h2 : i ≤ 9218868437227405312) : SidesOk (bitsOf i) (bitsOf i) (bitsOf i) := Or.inr ⟨i, i, i, rfl, rfl, rfl, h1, by omega, by omega, by omega, h2⟩
theorem sides_inf {x : Nat} (hx : x < 18446744073709551616) (h : rung x = INFR) : SidesOk x x x := by
  have hi : idx x ≠ 0 := fun hh => by have := (idx_zero_iff x).1 hh; rw [h] at this; exact absurd this (by decide)
  rw [← bitsOf_idx hx hi]
  apply sides_bits
  all_goals
    unfold idx
    rw [h]
    unfold INFR
    cases sgn x <;> simp

theorem sides_add {a b : Nat} (ha : a < 18446744073709551616) (hb : b < 18446744073709551616) : SidesOk (addS a b (-1)) (addS a b 0) (addS a b 1) := by
  unfold addS
  split
  · exact sides_rnd _ _
  · rename_i h0
    split
    · exact sides_nan nan_QN
    · rename_i hn
      simp only [Bool.or_eq_true, not_or, Bool.not_eq_true] at hn
      split
      · rename_i fa
        have fb : finB b = false := by cases h : finB b; rfl; rw [fa, h] at h0; exact absurd rfl h0
        exact sides_inf hb (read_inf fb hn.2).2
      · rename_i fa
        have ia := (read_inf (by simpa using fa) hn.1).2
        split
        · exact sides_inf ha ia
        · split
          · exact sides_inf ha ia
          · exact sides_nan nan_QN

theorem infW_rung (s : Bool) : rung (infW s) = INFR := rung_word _ (by decide)
theorem infW_lt (s : Bool) : infW s < 18446744073709551616 := word_lt _ (by decide)

theorem sides_mul (a b : Nat) : SidesOk (mulS a b (-1)) (mulS a b 0) (mulS a b 1) := by
  unfold mulS
  split
  · exact sides_nan nan_QN
  · split
    · exact sides_bits (i := 0) (by decide) (by decide)
    · split
      · exact sides_rnd _ _
      · exact sides_inf (infW_lt _) (infW_rung _)

theorem sides_div (a b : Nat) : SidesOk (divS a b (-1)) (divS a b 0) (divS a b 1) := by
  unfold divS
  split
  · exact sides_nan nan_QN
  · split
    · exact sides_nan nan_QN
    · split
      · exact sides_rnd _ _
      · split
        · exact sides_bits (i := 0) (by decide) (by decide)
        · split
          · exact sides_inf (infW_lt _) (infW_rung _)
          · exact sides_nan nan_QN

theorem sides_root {a : Nat} (ha : a < 18446744073709551616) : SidesOk (rootS a (-1)) (rootS a 0) (rootS a 1) := by
  unfold rootS
  split
  · exact sides_nan nan_QN
  · rename_i hn
    split
    · exact sides_bits (i := 0) (by decide) (by decide)
    · split
      · exact sides_nan nan_QN
      · split
        · exact sides_rnd _ _
        · rename_i hf
          exact sides_inf ha (read_inf (by simpa using hf) (by simpa using hn)).2

/-- Each other's negatives, or no numbers both. -/
def MirOk (x y : Nat) : Prop := (nan x = true ∧ nan y = true) ∨ ∃ i : Int, x = bitsOf i ∧ y = bitsOf (-i) ∧ -9218868437227405312 ≤ i ∧ i ≤ 9218868437227405312

theorem MirOk.eqv {x y x' y' : Nat} (h : MirOk x y) (h1 : Eqv x' x) (h2 : Eqv y' y) : MirOk x' y' := by
  rcases h with ⟨a, b⟩ | ⟨i, rfl, rfl, b1, b2⟩
  · exact Or.inl ⟨by rw [h1.nan, a], by rw [h2.nan, b]⟩
  · exact Or.inr ⟨i, h1.num (nan_bits b1 b2).1, h2.num (nan_bits (by omega) (by omega)).1, b1, b2⟩

theorem mir_rnd {S T : Int} {D : Nat} (hD : 0 < D) (h : T = -S) : MirOk (rnd S D (-1)) (rnd T D 1) := by
  right
  have h1 := plc_le S D (-1)
  refine ⟨_, rnd_eq _ _ _, ?_, h1.1, h1.2⟩
  rw [rnd_eq, h, plc_neg hD]

theorem mir_inf (s : Bool) : MirOk (infW s) (infW (!s)) := by
  right
  cases s
  · exact ⟨9218868437227405312, by decide, by decide, by decide, by decide⟩
  · exact ⟨-9218868437227405312, by decide, by decide, by decide, by decide⟩

theorem mir_zero : MirOk 0 0 := Or.inr ⟨0, by decide, by decide, by decide, by decide⟩
theorem mir_nan : MirOk QN QN := Or.inl ⟨nan_QN, nan_QN⟩

theorem finB_fneg (x : Nat) : finB (fneg x) = finB x := by unfold finB; rw [rung_fneg]

theorem mir_infx {x : Nat} (hx : x < 18446744073709551616) (h : rung x = INFR) : MirOk x (fneg x) := by
  have e := infW_of hx h
  have e2 : infW (!sgn x) = fneg x := by unfold infW fneg; rw [h]
  rw [← e2, ← e]
  have : sgn (infW (sgn x)) = sgn x := by rw [e]
  rw [this]
  exact mir_inf _

theorem mir_add {a b : Nat} (ha : a < 18446744073709551616) (hb : b < 18446744073709551616) : MirOk (addS a b (-1)) (addS (fneg a) (fneg b) 1) := by
  unfold addS
  rw [finB_fneg, finB_fneg, nan_fneg, nan_fneg, sgn_fneg, sgn_fneg, val_fneg, val_fneg]
  by_cases h0 : (finB a && finB b) = true
  · rw [if_pos h0, if_pos h0]; exact mir_rnd (by decide) (by omega)
  · rw [if_neg h0, if_neg h0]
    by_cases hn : (nan a || nan b) = true
    · rw [if_pos hn, if_pos hn]; exact mir_nan
    · rw [if_neg hn, if_neg hn]
      simp only [Bool.or_eq_true, not_or, Bool.not_eq_true] at hn
      by_cases fa : finB a = true
      · rw [if_pos fa, if_pos fa]
        have fb : finB b = false := by cases h : finB b; rfl; rw [fa, h] at h0; exact absurd rfl h0
        exact mir_infx hb (read_inf fb hn.2).2
      · rw [if_neg fa, if_neg fa]
        have ia := (read_inf (by simpa using fa) hn.1).2
        by_cases fb : finB b = true
        · rw [if_pos fb, if_pos fb]; exact mir_infx ha ia
        · rw [if_neg fb, if_neg fb]
          by_cases hs : sgn a = sgn b
          · rw [if_pos hs, if_pos (by rw [hs])]; exact mir_infx ha ia
          · rw [if_neg hs, if_neg (by simpa using hs)]; exact mir_nan

theorem mir_mul (a b : Nat) : MirOk (mulS a b (-1)) (mulS (fneg a) b 1) := by
  unfold mulS
  rw [finB_fneg, nan_fneg, sgn_fneg, val_fneg, rung_fneg]
  by_cases hn : (nan a || nan b) = true
  · rw [if_pos hn, if_pos hn]; exact mir_nan
  · rw [if_neg hn, if_neg hn]
    by_cases hz : rung a = 0 ∨ rung b = 0
    · rw [if_pos hz, if_pos hz]; exact mir_zero
    · rw [if_neg hz, if_neg hz]
      by_cases h0 : (finB a && finB b) = true
      · rw [if_pos h0, if_pos h0]; exact mir_rnd (pw_pos _) (by rw [Int.neg_mul])
      · rw [if_neg h0, if_neg h0]
        have : (!sgn a ^^ sgn b) = !(sgn a ^^ sgn b) := by cases sgn a <;> cases sgn b <;> rfl
        rw [this]; exact mir_inf _

theorem mir_div (a b : Nat) : MirOk (divS a b (-1)) (divS a (fneg b) 1) := by
  unfold divS
  rw [finB_fneg, nan_fneg, sgn_fneg, rung_fneg]
  by_cases hn : (nan a || nan b) = true
  · rw [if_pos hn, if_pos hn]; exact mir_nan
  · rw [if_neg hn, if_neg hn]
    by_cases hz : rung b = 0
    · rw [if_pos hz, if_pos hz]; exact mir_nan
    · rw [if_neg hz, if_neg hz]
      by_cases h0 : (finB a && finB b) = true
      · rw [if_pos h0, if_pos h0]
        refine mir_rnd (G_pos (Nat.pos_of_ne_zero hz)) ?_
        rw [← Int.neg_mul]
        congr 1
        cases sgn b <;> simp
      · rw [if_neg h0, if_neg h0]
        by_cases fa : finB a = true
        · rw [if_pos fa, if_pos fa]; exact mir_zero
        · rw [if_neg fa, if_neg fa]
          by_cases fb : finB b = true
          · rw [if_pos fb, if_pos fb]
            have : (sgn a ^^ !sgn b) = !(sgn a ^^ sgn b) := by cases sgn a <;> cases sgn b <;> rfl
            rw [this]; exact mir_inf _
          · rw [if_neg fb, if_neg fb]; exact mir_nan

theorem addS_comm {a b : Nat} (ha : a < 18446744073709551616) (hb : b < 18446744073709551616) (dir : Int) : addS a b dir = addS b a dir := by
  unfold addS
  rw [Bool.and_comm, Bool.or_comm, Int.add_comm]
  by_cases h0 : (finB b && finB a) = true
  · rw [if_pos h0, if_pos h0]
  · rw [if_neg h0, if_neg h0]
    by_cases hn : (nan b || nan a) = true
    · rw [if_pos hn, if_pos hn]
    · rw [if_neg hn, if_neg hn]
      simp only [Bool.or_eq_true, not_or, Bool.not_eq_true] at hn
      by_cases fa : finB a = true
      · have fb : ¬ finB b = true := by intro h; rw [fa, h] at h0; exact absurd rfl h0
        rw [if_pos fa, if_neg fb, if_pos fa]
      · by_cases fb : finB b = true
        · rw [if_neg fa, if_pos fb, if_pos fb]
        · rw [if_neg fa, if_neg fb, if_neg fb, if_neg fa]
          by_cases hs : sgn a = sgn b
          · rw [if_pos hs, if_pos hs.symm]
            have ia := (read_inf (by simpa using fa) hn.2).2
            have ib := (read_inf (by simpa using fb) hn.1).2
            rw [← infW_of ha ia, ← infW_of hb ib, hs]
          · rw [if_neg hs, if_neg (fun h => hs h.symm)]

theorem mulS_comm (a b : Nat) (dir : Int) : mulS a b dir = mulS b a dir := by
  unfold mulS
  rw [Bool.or_comm, Bool.and_comm, Int.mul_comm, Bool.xor_comm]
  congr 2
  exact propext or_comm
end Go.Proofs.Ytjdccbigaahkeaa.Fl
