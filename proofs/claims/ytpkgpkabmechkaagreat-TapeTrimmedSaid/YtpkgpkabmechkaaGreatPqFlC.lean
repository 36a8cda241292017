/- One digit of a long division. (plain; no program) -/
import Derived.Test.YtpkgpkabmechkaaGreatPqFlB
import Derived.Laws.FloatArith
namespace Go.Proofs.YtpkgpkabmechkaaGreat.Fl
set_option linter.unusedSimpArgs false
set_option linter.unusedVariables false

theorem Int.lt_of_mul_lt {a b c : Int} (hc : 0 ≤ c) (h : a * c < b * c) : a < b := by
  rcases Int.lt_or_le a b with h1 | h1
  · exact h1
  · have := Int.mul_le_mul_of_nonneg_right h1 hc; omega

theorem digit {u d y y1 y0 : Int} (hy : y = y1 * 4294967296 + y0) (hu0 : 0 ≤ u) (hu : u < y) (h1 : 2147483648 ≤ y1) (h1' : y1 ≤ 4294967295) (h0 : 0 ≤ y0) (h0' : y0 ≤ 4294967295) (hd : 0 ≤ d) (hd' : d ≤ 4294967295) :
    ∃ q0 p0 r0 m0 m1 q rem : Int, u.tdiv y1 = q0 ∧ q0 * y1 = p0 ∧ u - p0 = r0 ∧ q0 * y0 = m0 ∧ (q0 - 1) * y0 = m1 ∧ 0 ≤ q0 ∧ q0 ≤ 4294967297 ∧ 0 ≤ p0 ∧ p0 ≤ u ∧ 0 ≤ r0 ∧ r0 < y1 ∧
      u * 4294967296 + d = q * y + rem ∧ 0 ≤ rem ∧ rem < y ∧ 0 ≤ q ∧ q ≤ 4294967295 ∧ 0 ≤ m0 ∧ (q0 ≤ 4294967295 → m0 ≤ 18446744065119617025) ∧ (q0 ≤ 4294967296 → m1 ≤ 18446744065119617025) ∧ (1 ≤ q0 → 0 ≤ m1) ∧
      ((q0 < 4294967296 ∧ m0 ≤ 4294967296 * r0 + d ∧ q = q0) ∨
       ((4294967296 ≤ q0 ∨ (1 ≤ q0 ∧ q0 < 4294967296 ∧ 4294967296 * r0 + d < m0)) ∧ 4294967296 ≤ r0 + y1 ∧ q = q0 - 1) ∨
       ((4294967296 ≤ q0 ∨ (1 ≤ q0 ∧ q0 < 4294967296 ∧ 4294967296 * r0 + d < m0)) ∧ r0 + y1 < 4294967296 ∧ q0 - 1 < 4294967296 ∧ m1 ≤ 4294967296 * (r0 + y1) + d ∧ q = q0 - 1) ∨
       ((4294967296 ≤ q0 ∨ (1 ≤ q0 ∧ q0 < 4294967296 ∧ 4294967296 * r0 + d < m0)) ∧ r0 + y1 < 4294967296 ∧ (4294967296 ≤ q0 - 1 ∨ (2 ≤ q0 ∧ q0 - 1 < 4294967296 ∧ 4294967296 * (r0 + y1) + d < m1)) ∧ 4294967296 ≤ r0 + y1 + y1 ∧ q = q0 - 1 - 1)) := by
  obtain ⟨q0, hq0⟩ : ∃ q0, u.tdiv y1 = q0 := ⟨_, rfl⟩
  have hq0' : u / y1 = q0 := by rw [← hq0, Int.tdiv_eq_ediv_of_nonneg hu0]
  have e1 := Int.mul_ediv_add_emod u y1
  have e2 := Int.emod_nonneg u (show y1 ≠ 0 by omega)
  have e3 := Int.emod_lt_of_pos u (show 0 < y1 by omega)
  rw [hq0', Int.mul_comm] at e1
  have q0n : 0 ≤ q0 := by rw [← hq0']; exact Int.ediv_nonneg hu0 (by omega)
  have q0b : q0 < 4294967298 := by
    apply Int.lt_of_mul_lt (c := y1) (by omega)
    omega
  have p0n : 0 ≤ q0 * y1 := Int.mul_nonneg q0n (by omega)
  have m0n : 0 ≤ q0 * y0 := Int.mul_nonneg q0n h0
  have m0b : q0 * y0 ≤ 4294967297 * y0 := Int.mul_le_mul_of_nonneg_right (by omega) h0
  have m0c : q0 ≤ 4294967295 → q0 * y0 ≤ 18446744065119617025 := by
    intro h
    have : q0 * y0 ≤ 4294967295 * y0 := Int.mul_le_mul_of_nonneg_right (by omega) h0
    omega
  have m1e : (q0 - 1) * y0 = q0 * y0 - y0 := by rw [Int.sub_mul, Int.one_mul]
  have m1c : q0 ≤ 4294967296 → (q0 - 1) * y0 ≤ 18446744065119617025 := by
    intro h
    have : (q0 - 1) * y0 ≤ 4294967295 * y0 := Int.mul_le_mul_of_nonneg_right (by omega) h0
    omega
  have m1n : 1 ≤ q0 → 0 ≤ (q0 - 1) * y0 := fun h => Int.mul_nonneg (by omega) h0
  have ey : ∀ q : Int, q * y = (q * y1) * 4294967296 + q * y0 := by
    intro q; rw [hy, Int.mul_add, Int.mul_assoc]
  have ey0 := ey q0
  have big : 4294967296 ≤ q0 → 4294967296 * y ≤ q0 * y := fun h => Int.mul_le_mul_of_nonneg_right h (by omega)
  have big1 : 4294967296 ≤ q0 - 1 → 4294967296 * y ≤ (q0 - 1) * y := fun h => Int.mul_le_mul_of_nonneg_right h (by omega)
  have ey1 : (q0 - 1) * y = q0 * y - y := by rw [Int.sub_mul, Int.one_mul]
  have ey2 : (q0 - 1 - 1) * y = q0 * y - 2 * y := by rw [Int.sub_mul, Int.sub_mul]; omega
  have fin : ∀ q rem : Int, u * 4294967296 + d = q * y + rem → 0 ≤ rem → rem < y → 0 ≤ q ∧ q ≤ 4294967295 := by
    intro q rem h h2 h3
    constructor
    · have : (-1) * y < q * y := by omega
      have := Int.lt_of_mul_lt (c := y) (by omega) this
      omega
    · have : q * y < 4294967296 * y := by omega
      have := Int.lt_of_mul_lt (c := y) (by omega) this
      omega
  have mz : q0 = 0 → q0 * y0 = 0 := by rintro rfl; exact Int.zero_mul _
  have mz1 : q0 = 1 → (q0 - 1) * y0 = 0 := by rintro rfl; rw [show (1 : Int) - 1 = 0 by rfl]; exact Int.zero_mul _
  have done : ∀ q rem : Int, u * 4294967296 + d = q * y + rem → 0 ≤ rem → rem < y → _ → _ := fun q rem h h2 h3 h4 =>
    (⟨q0, q0 * y1, u % y1, q0 * y0, (q0 - 1) * y0, q, rem, hq0, rfl, by omega, rfl, rfl, q0n, by omega, p0n, by omega, e2, e3, h, h2, h3, (fin q rem h h2 h3).1, (fin q rem h h2 h3).2, m0n, m0c, m1c, m1n, h4⟩ : ∃ q0 p0 r0 m0 m1 q rem : Int, u.tdiv y1 = q0 ∧ q0 * y1 = p0 ∧ u - p0 = r0 ∧ q0 * y0 = m0 ∧ (q0 - 1) * y0 = m1 ∧ 0 ≤ q0 ∧ q0 ≤ 4294967297 ∧ 0 ≤ p0 ∧ p0 ≤ u ∧ 0 ≤ r0 ∧ r0 < y1 ∧
      u * 4294967296 + d = q * y + rem ∧ 0 ≤ rem ∧ rem < y ∧ 0 ≤ q ∧ q ≤ 4294967295 ∧ 0 ≤ m0 ∧ (q0 ≤ 4294967295 → m0 ≤ 18446744065119617025) ∧ (q0 ≤ 4294967296 → m1 ≤ 18446744065119617025) ∧ (1 ≤ q0 → 0 ≤ m1) ∧
      ((q0 < 4294967296 ∧ m0 ≤ 4294967296 * r0 + d ∧ q = q0) ∨
       ((4294967296 ≤ q0 ∨ (1 ≤ q0 ∧ q0 < 4294967296 ∧ 4294967296 * r0 + d < m0)) ∧ 4294967296 ≤ r0 + y1 ∧ q = q0 - 1) ∨
       ((4294967296 ≤ q0 ∨ (1 ≤ q0 ∧ q0 < 4294967296 ∧ 4294967296 * r0 + d < m0)) ∧ r0 + y1 < 4294967296 ∧ q0 - 1 < 4294967296 ∧ m1 ≤ 4294967296 * (r0 + y1) + d ∧ q = q0 - 1) ∨
       ((4294967296 ≤ q0 ∨ (1 ≤ q0 ∧ q0 < 4294967296 ∧ 4294967296 * r0 + d < m0)) ∧ r0 + y1 < 4294967296 ∧ (4294967296 ≤ q0 - 1 ∨ (2 ≤ q0 ∧ q0 - 1 < 4294967296 ∧ 4294967296 * (r0 + y1) + d < m1)) ∧ 4294967296 ≤ r0 + y1 + y1 ∧ q = q0 - 1 - 1)))
  generalize hqy : q0 * y = qy at *
  generalize q0 * y1 = p0 at *
  generalize hm0 : q0 * y0 = m0 at *
  generalize (q0 - 1) * y0 = m1 at *
  generalize u % y1 = r0 at *
  by_cases c0 : q0 < 4294967296 ∧ m0 ≤ 4294967296 * r0 + d
  · exact done q0 (u * 4294967296 + d - qy) (by rw [hqy]; omega) (by omega) (by omega) (Or.inl ⟨c0.1, c0.2, rfl⟩)
  · have k0 : 4294967296 ≤ q0 ∨ (1 ≤ q0 ∧ q0 < 4294967296 ∧ 4294967296 * r0 + d < m0) := by omega
    have n0 : u * 4294967296 + d - qy < 0 := by omega
    by_cases c1 : 4294967296 ≤ r0 + y1
    · exact done (q0 - 1) (u * 4294967296 + d - (qy - y)) (by omega) (by omega) (by omega) (Or.inr (Or.inl ⟨k0, c1, rfl⟩))
    · by_cases c2 : q0 - 1 < 4294967296 ∧ m1 ≤ 4294967296 * (r0 + y1) + d
      · exact done (q0 - 1) (u * 4294967296 + d - (qy - y)) (by omega) (by omega) (by omega) (Or.inr (Or.inr (Or.inl ⟨k0, by omega, c2.1, c2.2, rfl⟩)))
      · exact done (q0 - 1 - 1) (u * 4294967296 + d - (qy - 2 * y)) (by omega) (by omega) (by omega) (Or.inr (Or.inr (Or.inr ⟨k0, by omega, by omega, by omega, rfl⟩)))
end Go.Proofs.YtpkgpkabmechkaaGreat.Fl

/- Roots: what the rounded one is; bit by bit. (plain; no program) -/
namespace Go.Proofs.YtpkgpkabmechkaaGreat.Fl
set_option linter.unusedSimpArgs false
set_option linter.unusedVariables false

/-- What is whole of a root. -/
def isq : Nat → Nat
  | 0 => 0
  | n + 1 => if (isq n + 1) * (isq n + 1) ≤ n + 1 then isq n + 1 else isq n

theorem isq_spec (n : Nat) : isq n * isq n ≤ n ∧ n < (isq n + 1) * (isq n + 1) := by
  induction n with
  | zero => exact ⟨Nat.le_refl _, by decide⟩
  | succ n ih =>
    unfold isq
    split
    · rename_i h
      refine ⟨h, ?_⟩
      have e : (isq n + 1 + 1) * (isq n + 1 + 1) = (isq n + 1) * (isq n + 1) + 2 * (isq n + 1) + 1 := by
        rw [Nat.add_mul (isq n + 1) 1, Nat.mul_add (isq n + 1), Nat.mul_one, Nat.one_mul]; omega
      omega
    · rename_i h
      exact ⟨by omega, by omega⟩

theorem isq_le {k n : Nat} : k * k ≤ n ↔ k ≤ isq n := by
  have h := isq_spec n
  constructor
  · intro hk
    rcases Nat.lt_or_ge (isq n) k with c | c
    · have := Nat.mul_self_le_mul_self (show isq n + 1 ≤ k from c)
      omega
    · exact c
  · intro hk
    have := Nat.mul_self_le_mul_self hk
    omega

/-- A root, in units of 2^-1074, as a ratio: between the halves that stand about it. -/
def rootN (A : Nat) : Nat := if isq (4 * A * pw 1074) * isq (4 * A * pw 1074) = 4 * A * pw 1074 then isq (4 * A * pw 1074) else 2 * isq (4 * A * pw 1074) + 1
def rootD (A : Nat) : Nat := if isq (4 * A * pw 1074) * isq (4 * A * pw 1074) = 4 * A * pw 1074 then 2 else 4

theorem rootD_pos (A : Nat) : 0 < rootD A := by unfold rootD; split <;> decide

/-- Halves below it are those whose square is. -/
theorem root_le (A k : Nat) : k * rootD A ≤ 2 * rootN A ↔ k * k ≤ 4 * A * pw 1074 := by
  unfold rootD rootN
  rw [isq_le]
  split <;> omega
theorem root_eq (A k : Nat) : k * rootD A = 2 * rootN A ↔ k * k = 4 * A * pw 1074 := by
  unfold rootD rootN
  generalize 4 * A * pw 1074 = n
  have h := isq_spec n
  split
  · rename_i e
    constructor
    · intro hk
      have : k = isq n := by omega
      rw [this, e]
    · intro hk
      have : k ≤ isq n := isq_le.1 (by omega)
      have h2 : isq n ≤ k := by
        rcases Nat.lt_or_ge k (isq n) with c | c
        · have := Nat.mul_self_lt_mul_self c
          omega
        · exact c
      omega
  · rename_i e
    constructor
    · intro hk; omega
    · intro hk
      exfalso
      have h1 : k ≤ isq n := isq_le.1 (by omega)
      have h3 := Nat.mul_self_le_mul_self h1
      have : isq n * isq n = n := by omega
      exact e this

def rootS (a : Nat) (dir : Int) : Nat :=
  if nan a then QN
  else if rung a = 0 then 0
  else if sgn a then QN
  else if finB a then rnd (rootN (G (rung a))) (rootD (G (rung a))) dir
  else a

/-- V, and what lies behind it, of the root of A. -/
theorem root_amount {A V a : Nat} {more : Bool} (h1 : V * 2 ^ a * (V * 2 ^ a) ≤ A * pw 1074) (h2 : A * pw 1074 < (V + 1) * 2 ^ a * ((V + 1) * 2 ^ a)) (hm : more = true ↔ V * 2 ^ a * (V * 2 ^ a) ≠ A * pw 1074) :
    Amount V more a 0 (rootN A) (rootD A) := by
  have e0 : 4 * A * pw 1074 = 4 * (A * pw 1074) := Nat.mul_assoc _ _ _
  have k1 := root_le A (2 * (V * 2 ^ a))
  have k2 := root_eq A (2 * (V * 2 ^ a))
  have k3 := root_le A (2 * ((V + 1) * 2 ^ a))
  have sq : ∀ x : Nat, 2 * x * (2 * x) = 4 * (x * x) := fun x => by
    rw [Nat.mul_assoc, Nat.mul_left_comm x 2 x, ← Nat.mul_assoc]
  rw [sq, e0] at k1 k2 k3
  unfold Amount
  rw [Nat.pow_zero, Nat.mul_one]
  generalize V * 2 ^ a = X at *
  generalize (V + 1) * 2 ^ a = Y at *
  have l1 := k1.2 (by omega)
  have l3 : 2 * rootN A < 2 * Y * rootD A := by
    rcases Nat.lt_or_ge (2 * rootN A) (2 * Y * rootD A) with c | c
    · exact c
    · have := k3.1 c; omega
  rw [Nat.mul_assoc] at l1 l3 k2
  cases more
  · have : X * X = A * pw 1074 := by
      rcases Nat.eq_or_lt_of_le h1 with h | h
      · exact h
      · have := hm.2 (by omega); cases this
    have := k2.2 (by omega)
    simp only [Bool.false_eq_true, if_false]; omega
  · have hne := hm.1 rfl
    have : ¬ 2 * (X * rootD A) = 2 * rootN A := fun h => hne (by have := k2.1 h; omega)
    simp only [if_true]; omega

def RootInv (T r : Int) (k : Nat) : Prop := 0 ≤ r ∧ (∃ q, r = 2 ^ k * q) ∧ r + 2 ^ k ≤ 18446744073709551616 ∧ r * r ≤ T ∧ T < (r + 2 ^ k) * (r + 2 ^ k)

theorem rootInv_start {T : Int} (h0 : 0 ≤ T) (h1 : T < 18446744073709551616 * 18446744073709551616) : RootInv T 0 64 := by
  refine ⟨Int.le_refl _, ⟨0, by simp⟩, by decide, by simpa using h0, ?_⟩
  rw [Int.zero_add, show (2 : Int) ^ 64 = 18446744073709551616 by decide]
  exact h1

theorem rootInv_step {T r : Int} {k : Nat} (h : RootInv T r (k + 1)) :
    (r + 2 ^ k) * (r + 2 ^ k) ≤ T → RootInv T (r + 2 ^ k) k := by
  intro ht
  obtain ⟨h0, ⟨q, hq⟩, h2, h3, h4⟩ := h
  have p : (0 : Int) < 2 ^ k := by rw [← pow2_cast]; have := Nat.two_pow_pos k; omega
  have e : (2 : Int) ^ (k + 1) = 2 ^ k + 2 ^ k := by rw [Int.pow_succ]; omega
  rw [e] at h2 h4
  refine ⟨by omega, ⟨2 * q + 1, ?_⟩, by omega, ht, ?_⟩
  · rw [hq, e, Int.mul_add, Int.mul_one, Int.add_mul]; 
    have : (2 : Int) ^ k * (2 * q) = 2 ^ k * q + 2 ^ k * q := by rw [Int.mul_left_comm]; omega
    omega
  · rw [show r + 2 ^ k + 2 ^ k = r + (2 ^ k + 2 ^ k) by omega]; exact h4

theorem rootInv_stay {T r : Int} {k : Nat} (h : RootInv T r (k + 1)) :
    T < (r + 2 ^ k) * (r + 2 ^ k) → RootInv T r k := by
  intro ht
  obtain ⟨h0, ⟨q, hq⟩, h2, h3, h4⟩ := h
  have p : (0 : Int) < 2 ^ k := by rw [← pow2_cast]; have := Nat.two_pow_pos k; omega
  have e : (2 : Int) ^ (k + 1) = 2 ^ k + 2 ^ k := by rw [Int.pow_succ]; omega
  rw [e] at h2
  refine ⟨h0, ⟨2 * q, ?_⟩, by omega, h3, ht⟩
  rw [hq, e, Int.add_mul, Int.mul_left_comm]; omega

/-- The root of the machine. -/
def fsq (a : Nat) (w : World) : Nat :=
  match FloatKind.f64.format.sqrt a with
  | some r => r
  | none => (Question.nanBits .f64 a a).cut (w.tape w.drawn (.nanBits .f64 a a))
def nsq (a : Nat) : Nat := if (FloatKind.f64.format.sqrt a).isSome then 0 else 1

theorem fsq_non {a : Nat} (w : World) (ha : a < 18446744073709551616) (h : finB a = false ∨ flt a 0 = true) (dir : Int) : Eqv (fsq a w) (rootS a dir) ∧ fsq a w < 18446744073709551616 := by
  have none_ : FloatKind.f64.format.sqrt a = none → nan (fsq a w) = true ∧ fsq a w < 18446744073709551616 := by
    intro h
    unfold fsq; rw [h]; exact nanCut _ _ _
  unfold rootS
  by_cases hn : nan a = true
  · rw [if_pos hn]
    have : FloatKind.f64.format.sqrt a = none := by
      have hr := nan_true.1 hn
      unfold Ieee.Format.sqrt
      rw [read_eq, if_neg (by omega), if_neg (by omega)]
      rfl
    exact ⟨Or.inr ⟨(none_ this).1, nan_QN⟩, (none_ this).2⟩
  · rw [if_neg hn]
    have hn' : nan a = false := by simpa using hn
    by_cases hf : finB a = true
    · have hl : flt a 0 = true := by
        rcases h with h | h
        · rw [hf] at h; cases h
        · exact h
      have hneg : idx a < 0 := by
        unfold flt at hl
        simp at hl
        have : idx 0 = 0 := by decide
        omega
      have hs : sgn a = true ∧ rung a ≠ 0 := by
        unfold idx at hneg
        cases hh : sgn a
        · rw [hh] at hneg; simp at hneg; omega
        · rw [hh] at hneg; simp at hneg; exact ⟨rfl, by omega⟩
      rw [if_neg hs.2, hs.1, if_pos rfl]
      have : FloatKind.f64.format.sqrt a = none := by
        unfold Ieee.Format.sqrt
        rw [read_fin hf, hs.1]
        unfold Ieee.Datum.root
        simp only []
        rw [if_neg (fun hh => hs.2 (mag_zero.1 hh)), if_pos trivial]
        rfl
      exact ⟨Or.inr ⟨(none_ this).1, nan_QN⟩, (none_ this).2⟩
    · have hf' : finB a = false := by simpa using hf
      obtain ⟨r1, r2⟩ := read_inf hf' hn'
      rw [if_neg (by rw [r2]; decide), if_neg hf]
      cases hs : sgn a
      · have : FloatKind.f64.format.sqrt a = some a := by
          unfold Ieee.Format.sqrt
          rw [r1, hs]
          simp only [Ieee.Datum.root, Bool.false_eq_true, if_false, Option.map_some, Ieee.Format.write, fmt_inf, fword]
          congr 1
          have := infW_of ha r2
          rw [hs] at this; exact this
        have e : fsq a w = a := by unfold fsq; rw [this]
        rw [e]
        simp; exact ⟨Or.inl rfl, ha⟩
      · have : FloatKind.f64.format.sqrt a = none := by
          unfold Ieee.Format.sqrt
          rw [r1, hs]
          rfl
        rw [if_pos rfl]
        exact ⟨Or.inr ⟨(none_ this).1, nan_QN⟩, (none_ this).2⟩
end Go.Proofs.YtpkgpkabmechkaaGreat.Fl

/- Rounded to either side: the order of what comes out; mirrored. (plain; no program) -/
namespace Go.Proofs.YtpkgpkabmechkaaGreat.Fl
set_option linter.unusedSimpArgs false
set_option linter.unusedVariables false

/-- The place of what is rounded. -/
def plc (S : Int) (D : Nat) (dir : Int) : Int := if S < 0 then -(rungOf S.natAbs D (-dir) : Int) else (rungOf S.natAbs D dir : Int)

theorem rnd_eq (S : Int) (D : Nat) (dir : Int) : rnd S D dir = bitsOf (plc S D dir) := by
  unfold rnd plc
  by_cases h : S < 0 <;> simp [h]

theorem plc_le (S : Int) (D : Nat) (dir : Int) : -9218868437227405312 ≤ plc S D dir ∧ plc S D dir ≤ 9218868437227405312 := by
  have h1 := rungOf_le S.natAbs D dir
  have h2 := rungOf_le S.natAbs D (-dir)
  unfold INFR at h1 h2
  unfold plc
  split <;> omega

/-- A place's own float. -/
theorem nan_bits {i : Int} (h1 : -9218868437227405312 ≤ i) (h2 : i ≤ 9218868437227405312) : nan (bitsOf i) = false ∧ idx (bitsOf i) = i ∧ bitsOf i < 18446744073709551616 := by
  have e := idx_bitsOf (i := i) (by unfold INFR; omega) (by unfold INFR; omega)
  exact ⟨e.2.1, e.1, e.2.2⟩

end Go.Proofs.YtpkgpkabmechkaaGreat.Fl

/- The reference's rounding: by the greatest place that is not above an exact amount. (plain; no program) -/
namespace Go.Proofs.YtpkgpkabmechkaaGreat.Fl
set_option linter.unusedSimpArgs false
set_option linter.unusedVariables false

end Go.Proofs.YtpkgpkabmechkaaGreat.Fl

/- Whole numbers of any length, by digits of 32 bits. (plain; no program) -/
namespace Go.Proofs.YtpkgpkabmechkaaGreat.Fl
set_option linter.unusedSimpArgs false
set_option linter.unusedVariables false

/-! ### A round of each -/

end Go.Proofs.YtpkgpkabmechkaaGreat.Fl

/- Numbers M 2^E of the reference: their amounts, compared and added. (plain; no program) -/
namespace Go.Proofs.YtpkgpkabmechkaaGreat.Fl
set_option linter.unusedSimpArgs false
set_option linter.unusedVariables false

/-- The amount in units of 2^-K. -/
def nv (K : Int) (s : Bool) (m : Nat) (e : Int) : Int := if s then -((m * pw (e + K).toNat : Nat) : Int) else ((m * pw (e + K).toNat : Nat) : Int)
end Go.Proofs.YtpkgpkabmechkaaGreat.Fl

/- What the reference asks of an exact quotient, or root, in whole numbers. (plain; no program) -/
namespace Go.Proofs.YtpkgpkabmechkaaGreat.Fl
set_option linter.unusedSimpArgs false
set_option linter.unusedVariables false

end Go.Proofs.YtpkgpkabmechkaaGreat.Fl

/- Amounts far above, and far below, all floats: where exponents are cut. (plain; no program) -/
namespace Go.Proofs.YtpkgpkabmechkaaGreat.Fl
set_option linter.unusedSimpArgs false
set_option linter.unusedVariables false

end Go.Proofs.YtpkgpkabmechkaaGreat.Fl

/- What the reference's rounded numbers are: the operations' own. (plain; no program) -/
namespace Go.Proofs.YtpkgpkabmechkaaGreat.Fl
set_option linter.unusedSimpArgs false
set_option linter.unusedVariables false

theorem val_abs (x : Nat) : (val x).natAbs = G (rung x) := by unfold val; cases sgn x <;> simp
end Go.Proofs.YtpkgpkabmechkaaGreat.Fl

/- Plain: halves, greater and smaller ones, rungs in order. -/
set_option linter.unusedSimpArgs false
set_option linter.unusedVariables false
namespace Go.Proofs.YtpkgpkabmechkaaGreat.Fl
open Go

theorem rungOf_le_of {N D r : Nat} (dir : Int) (hD : 0 < D) (hr : r < INFR) (h : N ≤ G r * D) : rungOf N D dir ≤ r := by
  obtain ⟨f1, f2, f3⟩ := flr_spec N D
  have hk : flr N D ≤ r := by
    apply Nat.le_of_not_lt
    intro hlt
    have := Nat.mul_lt_mul_of_pos_right (G_lt hlt) hD
    omega
  rcases Nat.lt_or_eq_of_le hk with h1 | h1
  · unfold rungOf; repeat' split
    all_goals omega
  · unfold rungOf
    rw [h1] at f2
    rw [if_pos (by rw [h1]; omega)]
    exact hk

theorem mono_same {N M D : Nat} (dir : Int) (hD : 0 < D) (h : N ≤ M) : rungOf N D dir ≤ rungOf M D dir := by
  obtain ⟨f1, f2, f3⟩ := flr_spec N D
  obtain ⟨g1, g2, g3⟩ := flr_spec M D
  have hk : flr N D ≤ flr M D := by
    apply Nat.le_of_not_lt
    intro hlt
    rcases g3 with g3 | g3
    · omega
    · have := Nat.mul_le_mul_right D (G_le (show flr M D + 1 ≤ flr N D from hlt))
      omega
  unfold rungOf
  rcases Nat.lt_or_eq_of_le hk with h1 | h1
  · generalize flr N D = k at *
    generalize flr M D = l at *
    repeat' split
    all_goals omega
  · rw [← h1] at g1 g2 g3 ⊢
    generalize flr N D = k at *
    generalize (G k + G (k + 1)) * D = s at *
    generalize G k * D = t at *
    repeat' split
    all_goals omega

/-! ### Halves -/

theorem G_half : G 4602678819172646912 * 2 = pw 1074 := by
  have h := G_normal' (K := 1021) (m := 0) (by decide)
  rw [show (1021 + 1) * BIN + 0 = 4602678819172646912 by decide] at h
  rw [h, show BIN + 0 = pw 52 from (pw_eq 52).symm, ← pw_add, show (1074 : Nat) = 52 + 1021 + 1 from rfl, pw_add (52 + 1021) 1]
  rw [pw_eq 1]

/-! ### Greater and smaller ones, whatever they are -/

end Go.Proofs.YtpkgpkabmechkaaGreat.Fl

/- Floats, plain: quotients by the machine; the floor; a float's whole number. -/
namespace Go.Proofs.YtpkgpkabmechkaaGreat.Fl
set_option linter.unusedSimpArgs false
set_option linter.unusedVariables false

/-! ### Quotients -/
theorem quot_amount (m n d : Nat) (hm : 0 < m) (hn : 0 < n) (hd : 0 < d) : (2 * (m * 2 ^ (d + n.log2 - m.log2) / n) + (m * 2 ^ (d + n.log2 - m.log2) % n != 0).toNat) * n ≤ 3 * (m * 2 ^ (d + n.log2 - m.log2)) := by
  have big : n ≤ m * 2 ^ (d + n.log2 - m.log2) := by
    have h1 : 2 ^ m.log2 ≤ m := Nat.log2_self_le (by omega)
    have h2 : n < 2 ^ (n.log2 + 1) := Nat.lt_log2_self
    have h3 : 2 ^ m.log2 * 2 ^ (d + n.log2 - m.log2) ≤ m * 2 ^ (d + n.log2 - m.log2) := Nat.mul_le_mul_right _ h1
    rw [← Nat.pow_add] at h3
    have h4 : 2 ^ (n.log2 + 1) ≤ 2 ^ (m.log2 + (d + n.log2 - m.log2)) := Nat.pow_le_pow_right (by decide) (by omega)
    omega
  generalize m * 2 ^ (d + n.log2 - m.log2) = D at *
  have e := Nat.div_add_mod D n
  have l := Nat.mod_lt D hn
  have q1 : 1 ≤ D / n := (Nat.one_le_div_iff hn).2 big
  have hle : (D % n != 0).toNat ≤ 1 := by cases (D % n != 0) <;> decide
  generalize D / n = q at *
  generalize D % n = r at *
  generalize (r != 0).toNat = z at *
  have e1 : (2 * q + z) * n ≤ (2 * q + q) * n := Nat.mul_le_mul_right _ (by omega)
  have e2 : (2 * q + q) * n = 3 * (n * q) := by rw [show 2 * q + q = 3 * q by omega, Nat.mul_assoc, Nat.mul_comm q n]
  omega

theorem fdiv_some {a b : Nat} (ha : rung a < INFR) (hb : rung b < INFR) (hb0 : rung b ≠ 0) :
    ∃ r : Nat, floatBits .quo .f64 a b = some (word (sgn a ^^ sgn b) r) ∧ r ≤ INFR ∧ ∀ B : Nat, B < INFR → 3 * (G (rung a) * pw 1074) ≤ 2 * (G B * G (rung b)) → r ≤ B := by
  have hn : 0 < mag (rung b) := Nat.pos_of_ne_zero fun h => hb0 (mag_zero.1 h)
  show ∃ r : Nat, FloatKind.f64.format.div a b = _ ∧ _
  unfold Ieee.Format.div
  rw [read_eq, read_eq, if_pos ha, if_pos hb, fmt_frac]
  unfold Ieee.Datum.quotient
  simp only []
  rw [if_neg (by omega)]
  simp only [Option.map_some]
  unfold Ieee.Format.write
  simp only [Nat.shiftLeft_eq]
  generalize hM : 2 * (mag (rung a) * 2 ^ (52 + 2 + (mag (rung b)).log2 - (mag (rung a)).log2) / mag (rung b)) + (mag (rung a) * 2 ^ (52 + 2 + (mag (rung b)).log2 - (mag (rung a)).log2) % mag (rung b) != 0).toNat = M
  generalize hk : 52 + 2 + (mag (rung b)).log2 - (mag (rung a)).log2 = k at *
  have ep : (-1074 + ((exn (rung a) : Nat) : Int) - (-1074 + ((exn (rung b) : Nat) : Int)) - (k : Int) - 1) = -1074 + ((exn (rung a) + 1074 : Nat) : Int) - ((exn (rung b) + k + 1 : Nat) : Int) := by omega
  rw [ep]
  generalize h74 : (1074 : Nat) = t
  rw [nearest_all (sgn a ^^ sgn b) M (exn (rung a) + t) (exn (rung b) + k + 1) (M * 2 ^ (exn (rung a) + t)) (2 ^ (exn (rung b) + k + 1)) (Nat.two_pow_pos _) rfl]
  refine ⟨_, rfl, rungOf_le _ _ _, fun B hB h => rungOf_le_of 0 (Nat.two_pow_pos _) hB ?_⟩
  by_cases hm : mag (rung a) = 0
  · have : M = 0 := by rw [← hM, hm]; simp
    rw [this, Nat.zero_mul]; exact Nat.zero_le _
  · have q := quot_amount (mag (rung a)) (mag (rung b)) (52 + 2) (Nat.pos_of_ne_zero hm) hn (by decide)
    rw [hk, hM] at q
    rw [G_eq (rung a), G_eq (rung b), pw_eq] at h
    refine Nat.le_of_mul_le_mul_right ?_ hn
    rw [Nat.pow_add, Nat.pow_add, Nat.pow_add, Nat.pow_one]
    generalize mag (rung a) = m at *
    generalize mag (rung b) = n at *
    generalize 2 ^ exn (rung a) = x at *
    generalize 2 ^ exn (rung b) = y at *
    generalize 2 ^ k = z at *
    generalize 2 ^ t = u at *
    generalize G B = g at *
    have h1 : M * n * (x * u) ≤ 3 * (m * z) * (x * u) := Nat.mul_le_mul_right _ q
    have h2 : 3 * (m * x * u) * z ≤ 2 * (g * (n * y)) * z := Nat.mul_le_mul_right _ h
    have e1 : M * (x * u) * n = M * n * (x * u) := by ac_rfl
    have e2 : 3 * (m * z) * (x * u) = 3 * (m * x * u) * z := by ac_rfl
    have e3 : g * (y * z * 2) * n = 2 * (g * (n * y)) * z := by ac_rfl
    omega

/-! ### Whole parts -/
theorem cut_zero (neg : Bool) (n d : Nat) : Ieee.Toward.zero.cut neg n d = n / 2 ^ d := by
  unfold Ieee.Toward.cut
  simp only [Nat.one_shiftLeft, Bool.toNat_false, Nat.add_zero]
  by_cases h : d ≤ n.log2 + 2
  · rw [Nat.min_eq_left h]
  · rw [Nat.min_eq_right (by omega)]
    have h1 : n < 2 ^ (n.log2 + 1) := Nat.lt_log2_self
    have h2 : 2 ^ (n.log2 + 1) ≤ 2 ^ (n.log2 + 2) := Nat.pow_le_pow_right (by decide) (by omega)
    have h3 : 2 ^ (n.log2 + 1) ≤ 2 ^ d := Nat.pow_le_pow_right (by decide) (by omega)
    rw [Nat.div_eq_of_lt (by omega), Nat.div_eq_of_lt (by omega)]

theorem cut_down (neg : Bool) (n d : Nat) : Ieee.Toward.down.cut neg n d = n / 2 ^ d + (neg && (n % 2 ^ d != 0)).toNat := by
  unfold Ieee.Toward.cut
  simp only [Nat.one_shiftLeft]
  by_cases h : d ≤ n.log2 + 2
  · rw [Nat.min_eq_left h]
  · rw [Nat.min_eq_right (by omega)]
    have h1 : n < 2 ^ (n.log2 + 1) := Nat.lt_log2_self
    have h2 : 2 ^ (n.log2 + 1) ≤ 2 ^ (n.log2 + 2) := Nat.pow_le_pow_right (by decide) (by omega)
    have h3 : 2 ^ (n.log2 + 1) ≤ 2 ^ d := Nat.pow_le_pow_right (by decide) (by omega)
    rw [Nat.div_eq_of_lt (show n < 2 ^ (n.log2 + 2) by omega), Nat.div_eq_of_lt (show n < 2 ^ d by omega), Nat.mod_eq_of_lt (show n < 2 ^ (n.log2 + 2) by omega), Nat.mod_eq_of_lt (show n < 2 ^ d by omega)]

/-- The amount of a rung, cut to whole ones; up, where it is not whole and neg. -/
def wholeUp (neg : Bool) (r : Nat) : Nat := G r / pw 1074 + (neg && (G r % pw 1074 != 0)).toNat

theorem mag_cut (r : Nat) : (mag r <<< (-1074 + ((exn r : Nat) : Int)).toNat) / 2 ^ (-(-1074 + ((exn r : Nat) : Int))).toNat = G r / pw 1074 ∧ ((mag r <<< (-1074 + ((exn r : Nat) : Int)).toNat) % 2 ^ (-(-1074 + ((exn r : Nat) : Int))).toNat != 0) = (G r % pw 1074 != 0) := by
  rw [Nat.shiftLeft_eq, G_eq, pw_eq]
  by_cases h : exn r ≤ 1074
  · obtain ⟨d, hd⟩ : ∃ d, 1074 = exn r + d := ⟨1074 - exn r, by omega⟩
    rw [show (-1074 + ((exn r : Nat) : Int)).toNat = 0 by omega, show (-(-1074 + ((exn r : Nat) : Int))).toNat = d by omega, Nat.pow_zero, Nat.mul_one, hd, Nat.pow_add]
    have p := Nat.two_pow_pos (exn r)
    generalize 2 ^ exn r = x at *
    generalize 2 ^ d = y at *
    rw [Nat.mul_comm x y]
    refine ⟨(Nat.mul_div_mul_right _ _ p).symm, ?_⟩
    rw [Nat.mul_mod_mul_right]
    generalize mag r % y = z
    rw [Bool.eq_iff_iff, bne_iff_ne, bne_iff_ne]
    exact ⟨fun h h2 => h ((Nat.mul_eq_zero.1 h2).resolve_right (by omega)), fun h h2 => h (by rw [h2, Nat.zero_mul])⟩
  · obtain ⟨d, hd⟩ : ∃ d, exn r = d + 1074 := ⟨exn r - 1074, by omega⟩
    rw [show (-1074 + ((exn r : Nat) : Int)).toNat = d by omega, show (-(-1074 + ((exn r : Nat) : Int))).toNat = 0 by omega, Nat.pow_zero, Nat.div_one, Nat.mod_one, hd, Nat.pow_add]
    generalize h74 : (1074 : Nat) = t
    have p := Nat.two_pow_pos t
    generalize 2 ^ t = y at *
    rw [← Nat.mul_assoc, Nat.mul_div_cancel _ p, Nat.mul_mod_left]
    exact ⟨rfl, rfl⟩

/-- The floor. -/
def floorF (x : Nat) : Nat := FloatKind.f64.encode ((FloatKind.f64.decode x).integral .down)
/-- The whole number of a float's floor. -/
def flrI (x : Nat) : Int := if sgn x then -(wholeUp true (rung x) : Int) else (wholeUp false (rung x) : Int)

theorem floor_word {x : Nat} (hx : rung x < INFR) : floorF x = word (sgn x) (rungOf (wholeUp (sgn x) (rung x) * pw 1074) 1 0) := by
  unfold floorF FloatKind.decode FloatKind.encode
  rw [read_eq, if_pos hx]
  unfold Ieee.Datum.integral
  simp only []
  rw [cut_down, (mag_cut (rung x)).1, (mag_cut (rung x)).2]
  unfold Ieee.Format.write
  simp only []
  have h := nearest_all (sgn x) (wholeUp (sgn x) (rung x)) 1074 0 (wholeUp (sgn x) (rung x) * pw 1074) 1 (by decide) (by rw [Nat.pow_zero, pw_eq])
  have e : (-1074 + ((1074 : Nat) : Int) - ((0 : Nat) : Int)) = 0 := by omega
  rw [e] at h
  exact h

theorem wholeUp_le {neg : Bool} {r B : Nat} (h : G r ≤ B * pw 1074) : wholeUp neg r ≤ B := by
  unfold wholeUp
  have p := pw_pos 1074
  have e := Nat.div_add_mod (G r) (pw 1074)
  have l := Nat.mod_lt (G r) p
  have q : G r / pw 1074 ≤ B := Nat.div_le_of_le_mul (by rw [Nat.mul_comm]; exact h)
  by_cases hz : G r % pw 1074 = 0
  · simp [hz]; exact q
  · have : G r / pw 1074 < B := by
      rw [Nat.div_lt_iff_lt_mul p]
      rcases Nat.lt_or_eq_of_le h with h | h
      · exact h
      · exact absurd (by rw [h, Nat.mul_mod_left]) hz
    have : (neg && (G r % pw 1074 != 0)).toNat ≤ 1 := by cases (neg && (G r % pw 1074 != 0)) <;> decide
    omega

theorem whole_rung {q : Nat} (hq : q ≤ 9007199254740992) : ∃ r : Nat, r < INFR ∧ G r = q * pw 1074 := by
  by_cases h0 : q = 0
  · exact ⟨0, by decide, by rw [h0, G_zero]; simp⟩
  · obtain ⟨f, _, _, h4, _, h6⟩ := of_whole (q := q) (by omega) (by omega)
    exact ⟨f, h4, h6⟩

/-- **The floor of what is no greater than B.** -/
theorem floor_any {x B : Nat} (hx : rung x < INFR) (hB : B ≤ 9007199254740992) (h : G (rung x) ≤ B * pw 1074) :
    finB (floorF x) = true ∧ floorF x < 18446744073709551616 ∧ val (floorF x) = flrI x * (pw 1074 : Nat) ∧ -(B : Int) ≤ flrI x ∧ flrI x ≤ B ∧ floatToIntVal .f64 (floorF x) .i64 = some (flrI x) := by
  have hw : wholeUp (sgn x) (rung x) ≤ B := wholeUp_le h
  obtain ⟨r, r1, r2⟩ := whole_rung (Nat.le_trans hw hB)
  have hsw : r < SW := Nat.lt_trans r1 (by decide)
  have e := floor_word hx
  rw [← r2, rungOf_exact1 r1] at e
  have ei : flrI x = if sgn x then -(wholeUp (sgn x) (rung x) : Int) else (wholeUp (sgn x) (rung x) : Int) := by unfold flrI; cases sgn x <;> rfl
  rw [e]
  refine ⟨by rw [finB_rung, rung_word _ hsw]; exact r1, word_lt _ hsw, ?_, by rw [ei]; split <;> omega, by rw [ei]; split <;> omega, ?_⟩
  · rw [ei]
    unfold val
    rw [sgn_word _ hsw, rung_word _ hsw, r2]
    cases sgn x <;> simp [Int.natCast_mul, Int.neg_mul]
  · have hi : (FloatKind.f64.decode (word (sgn x) r)).toInt .zero = some (flrI x) := by
      unfold FloatKind.decode
      rw [read_eq, sgn_word _ hsw, rung_word _ hsw, if_pos r1]
      unfold Ieee.Datum.toInt Ieee.Datum.integral
      simp only []
      rw [cut_zero, (mag_cut r).1, r2, Nat.mul_div_cancel _ (pw_pos _), ei]
      unfold Ieee.signed
      cases sgn x <;> simp
    unfold floatToIntVal
    rw [hi]
    have b1 : -(B : Int) ≤ flrI x := by rw [ei]; split <;> omega
    have b2 : flrI x ≤ B := by rw [ei]; split <;> omega
    generalize flrI x = n at *
    show (if IntKind.i64.min ≤ n ∧ n ≤ IntKind.i64.max then some n else none) = some n
    rw [if_pos]
    constructor
    · show (-9223372036854775808 : Int) ≤ n; omega
    · show n ≤ (9223372036854775807 : Int); omega
/-! ### Whole numbers as floats; what is worked out of finite ones -/
theorem foi' (k : Int) : floatOfInt .f64 k = word (decide (k < 0)) (rungOf (k.natAbs * pw 1074) 1 0) := by
  unfold floatOfInt FloatKind.nearest FloatKind.encode
  unfold Ieee.Format.write
  simp only []
  have hx := nearest_all (decide (k < 0)) k.natAbs 1074 0 (k.natAbs * pw 1074) 1 (by decide) (by rw [pw_eq, Nat.pow_zero])
  have e0 : (-1074 + ((1074 : Nat) : Int) - ((0 : Nat) : Int)) = 0 := by omega
  rw [e0] at hx
  exact hx
theorem ofI_lt (k : Int) : floatOfInt .f64 k < 18446744073709551616 := by
  rw [foi']
  exact word_lt _ (Nat.lt_of_le_of_lt (rungOf_le _ _ _) (by decide))
/-- A sum, a product, a quotient of the machine's. -/
def fa (a b : Nat) : Nat := (floatBits .add .f64 a b).getD 0
def fm (a b : Nat) : Nat := (floatBits .mul .f64 a b).getD 0
def fq (a b : Nat) : Nat := (floatBits .quo .f64 a b).getD 0
theorem opt_get {o : Option Nat} {r : Nat} (h : o = some r) : o = some (o.getD 0) := by rw [h]; rfl
theorem fa_some {a b : Nat} (ha : rung a < INFR) (hb : rung b < INFR) : floatBits .add .f64 a b = some (fa a b) := opt_get (fadd_eq ha hb)
theorem fm_some {a b : Nat} (ha : rung a < INFR) (hb : rung b < INFR) : floatBits .mul .f64 a b = some (fm a b) := opt_get (fmul_eq ha hb)
theorem fq_some {a b : Nat} (ha : rung a < INFR) (hb : rung b < INFR) (h0 : rung b ≠ 0) : floatBits .quo .f64 a b = some (fq a b) := by
  obtain ⟨r, h, _⟩ := fdiv_some ha hb h0
  exact opt_get h
theorem fa_eq {a b : Nat} (ha : rung a < INFR) (hb : rung b < INFR) : fa a b = word (sumNeg a b) (rungOf (val a + val b).natAbs 1 0) := by unfold fa; rw [show floatBits .add .f64 a b = _ from fadd_eq ha hb]; rfl
theorem fm_eq {a b : Nat} (ha : rung a < INFR) (hb : rung b < INFR) : fm a b = word (sgn a ^^ sgn b) (rungOf (G (rung a) * G (rung b)) (pw 1074) 0) := by unfold fm; rw [show floatBits .mul .f64 a b = _ from fmul_eq ha hb]; rfl
theorem fa_lt {a b : Nat} (ha : rung a < INFR) (hb : rung b < INFR) : fa a b < 18446744073709551616 := by
  rw [fa_eq ha hb]; exact word_lt _ (Nat.lt_of_le_of_lt (rungOf_le _ _ _) (by decide))
theorem fm_lt {a b : Nat} (ha : rung a < INFR) (hb : rung b < INFR) : fm a b < 18446744073709551616 := by
  rw [fm_eq ha hb]; exact word_lt _ (Nat.lt_of_le_of_lt (rungOf_le _ _ _) (by decide))
theorem fa_num {a b : Nat} (ha : rung a < INFR) (hb : rung b < INFR) : nan (fa a b) = false := by
  rw [fa_eq ha hb]; exact nan_word _ (rungOf_le _ _ _)
/-- A sum of small ones. -/
theorem fa_small {a b P : Nat} (ha : rung a < INFR) (hb : rung b < INFR) (hP : P < INFR) (h : G (rung a) + G (rung b) ≤ G P) : rung (fa a b) ≤ P := by
  rw [fa_eq ha hb, rung_word _ (Nat.lt_of_le_of_lt (rungOf_le _ _ _) (by decide))]
  refine rungOf_le_of 0 (by decide) hP ?_
  rw [Nat.mul_one]
  refine Nat.le_trans ?_ h
  have h1 := val_abs a
  have h2 := val_abs b
  omega
/-- A quotient of small ones. -/
theorem fq_small {a b P : Nat} (ha : rung a < INFR) (hb : rung b < INFR) (h0 : rung b ≠ 0) (hP : P < INFR) (h : 3 * (G (rung a) * pw 1074) ≤ 2 * (G P * G (rung b))) : rung (fq a b) ≤ P ∧ fq a b < 18446744073709551616 := by
  obtain ⟨r, e, hr, hB⟩ := fdiv_some ha hb h0
  have hsw : r < SW := Nat.lt_of_le_of_lt hr (by decide)
  have : fq a b = word (sgn a ^^ sgn b) r := by unfold fq; rw [e]; rfl
  rw [this, rung_word _ hsw]
  exact ⟨hB P hP h, word_lt _ hsw⟩
theorem G_at_num {x K m : Nat} (h : x = (K + 1) * BIN + m) (hm : m < BIN) : G x = (BIN + m) * pw K := by rw [h]; exact G_normal' hm
theorem pw_split {a b n : Nat} (h : n = a + b) : pw n = pw a * 2 ^ b := by rw [h, pw_add, pw_eq b]
end Go.Proofs.YtpkgpkabmechkaaGreat.Fl
