/- Whole numbers of any length, by digits of 32 bits. (plain; no program) -/
import Derived.Test.YtjdccbigaahkeaaFl12
namespace Go.Proofs.Ytjdccbigaahkeaa.Fl
set_option linter.unusedSimpArgs false
set_option linter.unusedVariables false

def n32 : List Nat → Nat
  | [] => 0
  | d :: l => d + 4294967296 * n32 l
def Dig (l : List Nat) : Prop := ∀ i, l.getD i 0 < 4294967296
def Top (l : List Nat) : Prop := 0 < l.length → l.getD (l.length - 1) 0 ≠ 0
/-- A power of 2^32. -/
def bp (k : Nat) : Nat := 4294967296 ^ k
theorem bp_succ (k : Nat) : bp (k + 1) = 4294967296 * bp k := by unfold bp; rw [Nat.pow_succ, Nat.mul_comm]
theorem bp_zero : bp 0 = 1 := rfl
theorem bp_pos (k : Nat) : 0 < bp k := Nat.pow_pos (by decide)
theorem bp_add (j k : Nat) : bp (j + k) = bp j * bp k := Nat.pow_add _ _ _
theorem bp_pw (k : Nat) : bp k = pw (32 * k) := by
  rw [pw_eq]; unfold bp
  rw [show (4294967296 : Nat) = 2 ^ 32 from rfl, ← Nat.pow_mul]
theorem bp_le {j k : Nat} (h : j ≤ k) : bp j ≤ bp k := Nat.pow_le_pow_right (by decide) h
attribute [irreducible] bp

theorem n32_append (l m : List Nat) : n32 (l ++ m) = n32 l + bp l.length * n32 m := by
  induction l with
  | nil => simp [n32, bp_zero]
  | cons d l ih =>
    simp only [List.cons_append, n32, ih, List.length_cons, bp_succ, Nat.mul_add, Nat.mul_assoc, Nat.add_assoc]
theorem n32_snoc (l : List Nat) (d : Nat) : n32 (l ++ [d]) = n32 l + bp l.length * d := by rw [n32_append]; simp [n32]

theorem dig_cons {d : Nat} {l : List Nat} : Dig (d :: l) ↔ d < 4294967296 ∧ Dig l := by
  constructor
  · intro h; exact ⟨by simpa using h 0, fun i => by simpa using h (i + 1)⟩
  · rintro ⟨h1, h2⟩ i
    cases i with
    | zero => simpa using h1
    | succ i => simpa using h2 i
theorem dig_nil : Dig [] := fun i => by simp
theorem dig_append {l m : List Nat} (h1 : Dig l) (h2 : Dig m) : Dig (l ++ m) := by
  induction l with
  | nil => exact h2
  | cons d l ih =>
    have := dig_cons.1 h1
    exact dig_cons.2 ⟨this.1, ih this.2⟩
theorem dig_snoc {l : List Nat} {d : Nat} (h1 : Dig l) (h2 : d < 4294967296) : Dig (l ++ [d]) := dig_append h1 (dig_cons.2 ⟨h2, dig_nil⟩)
theorem getD_take {l : List Nat} {k i : Nat} (h : i < k) : (l.take k).getD i 0 = l.getD i 0 := by
  simp only [List.getD_eq_getElem?_getD]
  rw [List.getElem?_take_of_lt h]
theorem dig_take {l : List Nat} (h : Dig l) (k : Nat) : Dig (l.take k) := by
  intro i
  by_cases c : i < k
  · rw [getD_take c]; exact h i
  · have : (l.take k).getD i 0 = 0 := by
      simp only [List.getD_eq_getElem?_getD]
      rw [List.getElem?_eq_none (by simp; omega)]; rfl
    rw [this]; decide
theorem dig_set {l : List Nat} (h : Dig l) {d : Nat} (hd : d < 4294967296) (k : Nat) : Dig (l.set k d) := by
  intro i
  simp only [List.getD_eq_getElem?_getD, List.getElem?_set]
  have := h i
  simp only [List.getD_eq_getElem?_getD] at this
  split
  · split
    · simpa using hd
    · simp
  · exact this
theorem dig_zeros (k : Nat) : Dig (List.replicate k 0) := by
  intro i
  simp only [List.getD_eq_getElem?_getD, List.getElem?_replicate]
  split <;> simp
theorem n32_zeros (k : Nat) : n32 (List.replicate k 0) = 0 := by
  induction k with
  | zero => rfl
  | succ k ih => simp [List.replicate_succ, n32, ih]

theorem n32_lt {l : List Nat} (h : Dig l) : n32 l < bp l.length := by
  induction l with
  | nil => rw [List.length_nil, bp_zero]; decide
  | cons d l ih =>
    have := dig_cons.1 h
    have := ih this.2
    rw [List.length_cons, bp_succ]
    simp only [n32]
    omega

/-- One digit more of the lower ones. -/
theorem n32_take (l : List Nat) (k : Nat) : n32 (l.take (k + 1)) = n32 (l.take k) + bp k * l.getD k 0 := by
  by_cases h : k < l.length
  · rw [List.take_succ_eq_append_getElem h, n32_snoc, List.length_take, Nat.min_eq_left (Nat.le_of_lt h)]
    simp [List.getD_eq_getElem?_getD, h]
  · rw [List.take_of_length_le (by omega), List.take_of_length_le (by omega)]
    simp only [List.getD_eq_getElem?_getD]
    rw [List.getElem?_eq_none (by omega)]; simp
theorem n32_parts (l : List Nat) (k : Nat) (h : k ≤ l.length) : n32 l = n32 (l.take k) + bp k * n32 (l.drop k) := by
  have := n32_append (l.take k) (l.drop k)
  rw [List.take_append_drop, List.length_take, Nat.min_eq_left h] at this
  exact this

theorem n32_top {l : List Nat} (h : Top l) (hl : 0 < l.length) : bp (l.length - 1) ≤ n32 l := by
  have h1 := h hl
  have h2 := n32_take l (l.length - 1)
  rw [show l.length - 1 + 1 = l.length by omega, List.take_length] at h2
  rw [h2]
  have : bp (l.length - 1) ≤ bp (l.length - 1) * l.getD (l.length - 1) 0 := Nat.le_mul_of_pos_right _ (Nat.pos_of_ne_zero h1)
  omega
theorem n32_nil {l : List Nat} (h : Top l) : n32 l = 0 ↔ l.length = 0 := by
  constructor
  · intro h0
    refine Nat.eq_zero_of_not_pos fun hl => ?_
    have := n32_top h hl
    have := bp_pos (l.length - 1)
    omega
  · intro hl
    have : l = [] := List.length_eq_zero_iff.1 hl
    rw [this]; rfl
/-- How many digits. -/
theorem len_le {l : List Nat} (h : Top l) {k : Nat} (hn : n32 l < bp k) : l.length ≤ k := by
  refine Nat.le_of_not_lt fun hk => ?_
  have h1 := n32_top h (by omega)
  have h2 := bp_le (show k ≤ l.length - 1 by omega)
  omega
theorem len_mono {l m : List Nat} (h : Top l) (hm : Dig m) (hn : n32 l ≤ n32 m) : l.length ≤ m.length := len_le h (Nat.lt_of_le_of_lt hn (n32_lt hm))

/-- What is above decides. -/
theorem cmp_at {l m : List Nat} {i : Nat} (hl : Dig l) (hm : Dig m) (e : l.length = m.length) (hi : i < l.length) (hd : l.drop (i + 1) = m.drop (i + 1)) (h : l.getD i 0 < m.getD i 0) : n32 l < n32 m := by
  rw [n32_parts l (i + 1) (by omega), n32_parts m (i + 1) (by omega), hd, n32_take, n32_take]
  have h1 := n32_lt (dig_take hl i)
  rw [List.length_take, Nat.min_eq_left (by omega)] at h1
  have h2 : bp i * (l.getD i 0 + 1) ≤ bp i * m.getD i 0 := Nat.mul_le_mul_left _ h
  rw [Nat.mul_add, Nat.mul_one] at h2
  omega

theorem n32_set (l : List Nat) (k d : Nat) (h : k < l.length) : n32 (l.set k d) + bp k * l.getD k 0 = n32 l + bp k * d := by
  have e1 := n32_parts (l.set k d) (k + 1) (by simp; omega)
  have e2 := n32_parts l (k + 1) (by omega)
  rw [n32_take] at e1 e2
  have t : (l.set k d).take k = l.take k := by rw [List.take_set, List.set_eq_of_length_le (by simp; exact Nat.min_le_left _ _)]
  have u : (l.set k d).drop (k + 1) = l.drop (k + 1) := by rw [List.drop_set, if_pos (by omega)]
  have v : (l.set k d).getD k 0 = d := by simp [List.getD_eq_getElem?_getD, h]
  rw [t, u, v] at e1
  rw [e1, e2]; omega

/-! ### A round of each -/

theorem plus_round {L a b : List Nat} {c k s : Nat} (hL : L.length = k) (h : n32 L + bp k * c = n32 (a.take k) + n32 (b.take k)) (hs : s = c + a.getD k 0 + b.getD k 0) :
    n32 (L ++ [s % 4294967296]) + bp (k + 1) * (s / 4294967296) = n32 (a.take (k + 1)) + n32 (b.take (k + 1)) := by
  rw [n32_snoc, hL, n32_take, n32_take, bp_succ]
  have e : bp k * (s % 4294967296) + 4294967296 * bp k * (s / 4294967296) = bp k * s := by
    have e1 : 4294967296 * bp k * (s / 4294967296) = bp k * (4294967296 * (s / 4294967296)) := by simp only [Nat.mul_assoc, Nat.mul_comm, Nat.mul_left_comm]
    rw [e1, ← Nat.mul_add]; congr 1; omega
  have e2 : bp k * s = bp k * c + bp k * a.getD k 0 + bp k * b.getD k 0 := by rw [hs, Nat.mul_add, Nat.mul_add]
  omega


/-- Borrowed: what was taken off is more by B^k c. -/
theorem less_step {L a b : List Nat} {c c' k d : Nat} (hL : L.length = k) (h : n32 L + n32 (b.take k) = n32 (a.take k) + bp k * c) (hd : d + b.getD k 0 + c = a.getD k 0 + 4294967296 * c') :
    n32 (L ++ [d]) + n32 (b.take (k + 1)) = n32 (a.take (k + 1)) + bp (k + 1) * c' := by
  rw [n32_snoc, hL, n32_take, n32_take, bp_succ]
  have e : bp k * d + bp k * b.getD k 0 + bp k * c = bp k * a.getD k 0 + 4294967296 * bp k * c' := by
    rw [← Nat.mul_add, ← Nat.mul_add, hd, Nat.mul_add]
    congr 1
    simp only [Nat.mul_assoc, Nat.mul_comm, Nat.mul_left_comm]
  omega
theorem less_end {L a b : List Nat} {c : Nat} (hL : L.length = a.length) (hd : Dig L) (hb : Top b) (ha : Dig a) (hle : n32 b ≤ n32 a)
    (h : n32 L + n32 (b.take a.length) = n32 (a.take a.length) + bp a.length * c) : n32 L = n32 a - n32 b := by
  have l1 := len_mono hb ha hle
  rw [List.take_of_length_le l1, List.take_length] at h
  have l2 := n32_lt hd
  rw [hL] at l2
  have : c = 0 := by
    refine Nat.eq_zero_of_not_pos fun hc => ?_
    have : bp a.length ≤ bp a.length * c := Nat.le_mul_of_pos_right _ hc
    omega
  subst this
  omega

/-- Products: one digit more. -/
theorem by_round {O a b : List Nat} {i j c n : Nat} (hij : i + j < O.length) (h : n32 O + bp (i + j) * c = n32 (a.take i) * n32 b + bp i * a.getD i 0 * n32 (b.take j)) (hn : n = a.getD i 0 * b.getD j 0 + O.getD (i + j) 0 + c) :
    n32 (O.set (i + j) (n % 4294967296)) + bp (i + (j + 1)) * (n / 4294967296) = n32 (a.take i) * n32 b + bp i * a.getD i 0 * n32 (b.take (j + 1)) := by
  have hs := n32_set O (i + j) (n % 4294967296) hij
  rw [n32_take, ← Nat.add_assoc, bp_succ]
  have e : bp (i + j) * (n % 4294967296) + 4294967296 * bp (i + j) * (n / 4294967296) = bp (i + j) * n := by
    have e1 : 4294967296 * bp (i + j) * (n / 4294967296) = bp (i + j) * (4294967296 * (n / 4294967296)) := by simp only [Nat.mul_assoc, Nat.mul_comm, Nat.mul_left_comm]
    rw [e1, ← Nat.mul_add]; congr 1; omega
  have e2 : bp (i + j) * n = bp (i + j) * (a.getD i 0 * b.getD j 0) + bp (i + j) * O.getD (i + j) 0 + bp (i + j) * c := by rw [hn, Nat.mul_add, Nat.mul_add]
  have e3 : bp i * a.getD i 0 * (n32 (b.take j) + bp j * b.getD j 0) = bp i * a.getD i 0 * n32 (b.take j) + bp (i + j) * (a.getD i 0 * b.getD j 0) := by
    rw [Nat.mul_add, bp_add]; congr 1; simp only [Nat.mul_assoc, Nat.mul_comm, Nat.mul_left_comm]
  omega
theorem by_end {O a b : List Nat} {i c : Nat} (hi : i + b.length < O.length) (hz : O.getD (i + b.length) 0 = 0) (h : n32 O + bp (i + b.length) * c = n32 (a.take i) * n32 b + bp i * a.getD i 0 * n32 (b.take b.length)) :
    n32 (O.set (i + b.length) c) = n32 (a.take (i + 1)) * n32 b := by
  have hs := n32_set O (i + b.length) c hi
  rw [hz, Nat.mul_zero] at hs
  rw [List.take_length] at h
  rw [n32_take, Nat.add_mul]
  omega

/-- To the left: one digit more. -/
theorem left_round {O a : List Nat} {q s k c t : Nat} (hO : O.length = q + k) (h : n32 O + bp (q + k) * c = bp q * 2 ^ s * n32 (a.take k)) (ht : t = c + a.getD k 0 * 2 ^ s) :
    n32 (O ++ [t % 4294967296]) + bp (q + (k + 1)) * (t / 4294967296) = bp q * 2 ^ s * n32 (a.take (k + 1)) := by
  rw [n32_snoc, hO, n32_take, ← Nat.add_assoc, bp_succ]
  have e : bp (q + k) * (t % 4294967296) + 4294967296 * bp (q + k) * (t / 4294967296) = bp (q + k) * t := by
    have e1 : 4294967296 * bp (q + k) * (t / 4294967296) = bp (q + k) * (4294967296 * (t / 4294967296)) := by simp only [Nat.mul_assoc, Nat.mul_comm, Nat.mul_left_comm]
    rw [e1, ← Nat.mul_add]; congr 1; omega
  have e2 : bp (q + k) * t = bp (q + k) * c + bp (q + k) * (a.getD k 0 * 2 ^ s) := by rw [ht, Nat.mul_add]
  have e3 : bp q * 2 ^ s * (n32 (a.take k) + bp k * a.getD k 0) = bp q * 2 ^ s * n32 (a.take k) + bp (q + k) * (a.getD k 0 * 2 ^ s) := by
    rw [Nat.mul_add, bp_add]; congr 1; simp only [Nat.mul_assoc, Nat.mul_comm, Nat.mul_left_comm]
  omega
theorem left_carry {s c d : Nat} (hs : s < 32) (hc : c < 2 ^ s) (hd : d < 4294967296) : c + d * 2 ^ s < 4294967296 * 2 ^ s ∧ (c + d * 2 ^ s) / 4294967296 < 2 ^ s := by
  have h1 : (d + 1) * 2 ^ s ≤ 4294967296 * 2 ^ s := Nat.mul_le_mul_right _ hd
  rw [Nat.add_mul, Nat.one_mul] at h1
  have h2 : c + d * 2 ^ s < 4294967296 * 2 ^ s := by omega
  exact ⟨h2, by rw [Nat.div_lt_iff_lt_mul (by decide), Nat.mul_comm (2 ^ s)]; exact h2⟩

theorem blen_bits {l : List Nat} (hd : Dig l) (h : Top l) (hl : 0 < l.length) : blen (n32 l) = 32 * (l.length - 1) + blen (l.getD (l.length - 1) 0) := by
  have h1 := h hl
  have h2 := n32_take l (l.length - 1)
  rw [show l.length - 1 + 1 = l.length by omega, List.take_length] at h2
  have h3 := n32_lt (dig_take hd (l.length - 1))
  rw [List.length_take, Nat.min_eq_left (by omega)] at h3
  generalize n32 (l.take (l.length - 1)) = x at *
  generalize l.getD (l.length - 1) 0 = d at *
  generalize l.length - 1 = k at *
  rw [h2]
  have p := blen_pos h1
  have a1 := blen_ge h1
  have a2 := blen_lt d
  rw [bp_pw, pw_eq] at *
  have e : 32 * k + blen d = (32 * k + (blen d - 1)) + 1 := by omega
  rw [e]
  apply blen_unique
  · rw [Nat.pow_add]
    have := Nat.mul_le_mul_left (2 ^ (32 * k)) a1
    omega
  · rw [show 32 * k + (blen d - 1) + 1 = 32 * k + blen d by omega, Nat.pow_add]
    have : 2 ^ (32 * k) * (d + 1) ≤ 2 ^ (32 * k) * 2 ^ blen d := Nat.mul_le_mul_left _ a2
    rw [Nat.mul_add, Nat.mul_one] at this
    omega
end Go.Proofs.Ytjdccbigaahkeaa.Fl
