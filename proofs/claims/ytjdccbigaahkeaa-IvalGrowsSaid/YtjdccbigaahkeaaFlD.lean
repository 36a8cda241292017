/- The reference's rounding: by the greatest place that is not above an exact amount. (plain; no program) -/
import Derived.Test.YtjdccbigaahkeaaFlC
namespace Go.Proofs.Ytjdccbigaahkeaa.Fl
set_option linter.unusedSimpArgs false
set_option linter.unusedVariables false

/-- The amount at a place, signed, in units of 2^-1074. -/
def pv (i : Int) : Int := if i < 0 then -(G (-i).toNat : Int) else (G i.toNat : Int)

theorem pv_neg {i : Int} (h : i < 0) : pv i = -(G (-i).toNat : Int) := if_pos h
theorem pv_pos {i : Int} (h : 0 ≤ i) : pv i = (G i.toNat : Int) := if_neg (by omega)
theorem pv_lt {i : Int} (h : i < 0) : pv i < 0 := by
  rw [pv_neg h]
  have := G_pos (r := (-i).toNat) (by omega)
  omega
theorem pv_ge {i : Int} (h : 0 ≤ i) : 0 ≤ pv i := by rw [pv_pos h]; omega

theorem val_bits {i : Int} (h1 : -9218868437227405312 ≤ i) (h2 : i ≤ 9218868437227405312) : val (bitsOf i) = pv i := by
  unfold val pv
  by_cases hi : i < 0
  · have e : bitsOf i = word true (-i).toNat := by unfold bitsOf word; simp [hi]
    rw [e, sgn_word true (by unfold SW; omega), rung_word true (by unfold SW; omega), if_pos hi]; rfl
  · have e : bitsOf i = word false i.toNat := by unfold bitsOf word; simp [hi]
    rw [e, sgn_word false (by unfold SW; omega), rung_word false (by unfold SW; omega), if_neg hi]; rfl

/-- The greatest place that is not above S / D; that of -infinity where none is. -/
def FloorAt (S : Int) (D : Nat) (d : Int) : Prop :=
  -9218868437227405312 ≤ d ∧ d ≤ 9218868437227405311 ∧ (d = -9218868437227405312 ∨ pv d * D ≤ S) ∧ (d = 9218868437227405311 ∨ S < pv (d + 1) * D)

/-- The place that the reference picks. -/
def pick (S : Int) (D : Nat) (d dir : Int) : Int :=
  if (d ≠ -9218868437227405312 ∧ pv d * D = S) ∨ dir < 0 then d
  else if 0 < dir then d + 1
  else if (pv d + pv (d + 1)) * D = 2 * S then (if d % 2 = 0 then d else d + 1)
  else if (pv d + pv (d + 1)) * D ≤ 2 * S then d + 1
  else d

theorem mul_nn {a : Int} {D : Nat} (h : 0 ≤ a) : 0 ≤ a * (D : Int) := Int.mul_nonneg h (by omega)
theorem mul_np {a : Int} {D : Nat} (h : a ≤ 0) : a * (D : Int) ≤ 0 := Int.mul_nonpos_of_nonpos_of_nonneg h (by omega)

theorem pick_pos {S : Int} {D : Nat} {d dir : Int} (h : FloorAt S D d) (hD : 0 < D) (hS : 0 ≤ S) : pick S D d dir = plc S D dir := by
  obtain ⟨h1, h2, h3, h4⟩ := h
  have hd : 0 ≤ d := by
    refine Int.le_of_not_gt fun hn => ?_
    rcases h4 with h4 | h4
    · omega
    · by_cases c : d + 1 < 0
      · have := mul_np (D := D) (Int.le_of_lt (pv_lt c)); omega
      · have : d + 1 = 0 := by omega
        rw [this] at h4
        have : pv 0 = 0 := by decide
        rw [this, Int.zero_mul] at h4; omega
  obtain ⟨r, rfl⟩ := Int.eq_ofNat_of_zero_le hd
  obtain ⟨N, rfl⟩ := Int.eq_ofNat_of_zero_le hS
  have p1 : pv (r : Int) = (G r : Int) := by rw [pv_pos (by omega)]; simp
  have p2 : pv ((r : Int) + 1) = (G (r + 1) : Int) := by
    rw [pv_pos (by omega)]; congr 1
  rw [p1] at h3
  rw [p2] at h4
  have f : flr N D = r := by
    refine flr_eq (by unfold INFR; omega) ?_ ?_
    · rcases h3 with h3 | h3
      · omega
      · exact Int.ofNat_le.1 (by rw [Int.natCast_mul]; exact h3)
    · rcases h4 with h4 | h4
      · left; unfold INFR; omega
      · right; exact Int.ofNat_lt.1 (by rw [Int.natCast_mul]; exact h4)
  unfold pick plc rungOf
  rw [if_neg (show ¬ ((N : Int) < 0) by omega), Int.natAbs_natCast, f, p1, p2]
  have e1 : ((G r : Int) * (D : Int) = (N : Int)) ↔ G r * D = N := by rw [← Int.natCast_mul]; omega
  have e2 : ((G r : Int) + (G (r + 1) : Int)) * (D : Int) = (((G r + G (r + 1)) * D : Nat) : Int) := by simp
  rw [e2]
  simp only [e1]
  generalize (G r + G (r + 1)) * D = X
  generalize G r * D = Y
  clear e1 e2 h3 h4 p1 p2 f
  have : (r : Int) ≠ -9218868437227405312 := by omega
  repeat' split
  all_goals omega

theorem pick_neg {S : Int} {D : Nat} {d dir : Int} (h : FloorAt S D d) (hD : 0 < D) (hS : S < 0) : pick S D d dir = plc S D dir := by
  obtain ⟨h1, h2, h3, h4⟩ := h
  have hd : d < 0 := by
    refine Int.lt_of_not_ge fun hn => ?_
    rcases h3 with h3 | h3
    · omega
    · have := mul_nn (D := D) (pv_ge hn); omega
  obtain ⟨q, hq, rfl⟩ : ∃ q : Nat, 1 ≤ q ∧ d = -(q : Int) := ⟨(-d).toNat, by omega, by omega⟩
  obtain ⟨N, hN, rfl⟩ : ∃ N : Nat, 1 ≤ N ∧ S = -(N : Int) := ⟨(-S).toNat, by omega, by omega⟩
  have p1 : pv (-(q : Int)) = -(G q : Int) := by rw [pv_neg (by omega)]; simp
  have p2 : pv (-(q : Int) + 1) = -(G (q - 1) : Int) := by
    by_cases c : q = 1
    · subst c; decide
    · rw [pv_neg (by omega)]; congr 3; omega
  rw [p1, Int.neg_mul, ← Int.natCast_mul] at h3
  rw [p2, Int.neg_mul, ← Int.natCast_mul] at h4
  have g4 : G (q - 1) * D < N := by rcases h4 with h4 | h4 <;> omega
  have e2 : (-(G q : Int) + -(G (q - 1) : Int)) * (D : Int) = -(((G (q - 1) + G q) * D : Nat) : Int) := by
    rw [← Int.neg_add, Int.neg_mul, Int.add_comm]; simp
  have e1 : -(G q : Int) * (D : Int) = -((G q * D : Nat) : Int) := by rw [Int.neg_mul, ← Int.natCast_mul]
  unfold pick plc rungOf
  rw [if_pos (show (-(N : Int) < 0) by omega), Int.natAbs_neg, Int.natAbs_natCast, p1, p2, e1, e2]
  by_cases c : q ≠ 9218868437227405312 ∧ G q * D = N
  · have f : flr N D = q := by
      refine flr_eq (by unfold INFR; omega) (by omega) (Or.inr ?_)
      rw [← c.2]; exact Nat.mul_lt_mul_of_pos_right (G_succ q) hD
    rw [f, if_pos (by omega), if_pos c.2]
  · have f : flr N D = q - 1 := by
      refine flr_eq (by unfold INFR; omega) (by omega) ?_
      rw [show q - 1 + 1 = q by omega]
      by_cases c2 : q = 9218868437227405312
      · left; exact c2
      · right
        rcases h3 with h3 | h3
        · omega
        · have : G q * D ≠ N := fun hh => c ⟨c2, hh⟩
          omega
    rw [f, show q - 1 + 1 = q by omega]
    generalize (G (q - 1) + G q) * D = X
    generalize G (q - 1) * D = Y at *
    generalize G q * D = Z at *
    clear e1 e2 p1 p2 f h4
    rcases h3 with h3 | h3
    · repeat' split
      all_goals omega
    · repeat' split
      all_goals omega

/-- **The reference's rounding is the exact amount's.** -/
theorem pick_eq {S : Int} {D : Nat} {d dir : Int} (h : FloorAt S D d) (hD : 0 < D) : bitsOf (pick S D d dir) = rnd S D dir := by
  rw [rnd_eq]
  congr 1
  by_cases hS : S < 0
  · exact pick_neg h hD hS
  · exact pick_pos h hD (by omega)

theorem plc_ratio {S T : Int} {D E : Nat} (dir : Int) (hD : 0 < D) (hE : 0 < E) (h : S * E = T * D) : plc S D dir = plc T E dir := by
  have hn : S.natAbs * E = T.natAbs * D := by
    rw [natAbs_scale, natAbs_scale, h]
  have hs : S < 0 ↔ T < 0 := by
    have d0 : (0 : Int) < (D : Int) := by omega
    have e0 : (0 : Int) < (E : Int) := by omega
    constructor
    · intro hh
      have := Int.mul_lt_mul_of_pos_right hh e0
      rw [h, Int.zero_mul] at this
      refine Int.lt_of_not_ge fun h' => ?_
      have := Int.mul_nonneg h' (Int.le_of_lt d0); omega
    · intro hh
      have := Int.mul_lt_mul_of_pos_right hh d0
      rw [← h, Int.zero_mul] at this
      refine Int.lt_of_not_ge fun h' => ?_
      have := Int.mul_nonneg h' (Int.le_of_lt e0); omega
  unfold plc
  rw [rungOf_ratio (-dir) hD hE hn, rungOf_ratio dir hD hE hn]
  by_cases c : S < 0
  · rw [if_pos c, if_pos (hs.1 c)]
  · rw [if_neg c, if_neg (fun hh => c (hs.2 hh))]

theorem rnd_ratio {S T : Int} {D E : Nat} (dir : Int) (hD : 0 < D) (hE : 0 < E) (h : S * E = T * D) : rnd S D dir = rnd T E dir := by
  rw [rnd_eq, rnd_eq, plc_ratio dir hD hE h]
end Go.Proofs.Ytjdccbigaahkeaa.Fl

/- Whole numbers of any length, by digits of 32 bits. (plain; no program) -/
namespace Go.Proofs.Ytjdccbigaahkeaa.Fl
set_option linter.unusedSimpArgs false
set_option linter.unusedVariables false

def n32 : List Nat → Nat
  | [] => 0
  | d :: l => d + 4294967296 * n32 l
def Dig (l : List Nat) : Prop := ∀ i, l.getD i 0 < 4294967296
def Top (l : List Nat) : Prop := 0 < l.length → l.getD (l.length - 1) 0 ≠ 0
/-- A power of 2^32. -/
def bp (k : Nat) : Nat := 4294967296 ^ k
theorem bp_succ (k : Nat) : bp (k + 1) = 4294967296 * bp k := by unfold bp; rw [Nat.pow_succ, Nat.mul_comm]
theorem bp_zero : bp 0 = 1 := rfl
theorem bp_pos (k : Nat) : 0 < bp k := Nat.pow_pos (by decide)
theorem bp_add (j k : Nat) : bp (j + k) = bp j * bp k := Nat.pow_add _ _ _
theorem bp_pw (k : Nat) : bp k = pw (32 * k) := by
  rw [pw_eq]; unfold bp
  rw [show (4294967296 : Nat) = 2 ^ 32 from rfl, ← Nat.pow_mul]
theorem bp_le {j k : Nat} (h : j ≤ k) : bp j ≤ bp k := Nat.pow_le_pow_right (by decide) h
attribute [irreducible] bp

theorem n32_append (l m : List Nat) : n32 (l ++ m) = n32 l + bp l.length * n32 m := by
  induction l with
  | nil => simp [n32, bp_zero]
  | cons d l ih =>
    simp only [List.cons_append, n32, ih, List.length_cons, bp_succ, Nat.mul_add, Nat.mul_assoc, Nat.add_assoc]
theorem n32_snoc (l : List Nat) (d : Nat) : n32 (l ++ [d]) = n32 l + bp l.length * d := by rw [n32_append]; simp [n32]

theorem dig_cons {d : Nat} {l : List Nat} : Dig (d :: l) ↔ d < 4294967296 ∧ Dig l := by
  constructor
  · intro h; exact ⟨by simpa using h 0, fun i => by simpa using h (i + 1)⟩
  · rintro ⟨h1, h2⟩ i
    cases i with
    | zero => simpa using h1
    | succ i => simpa using h2 i
theorem dig_nil : Dig [] := fun i => by simp
theorem dig_append {l m : List Nat} (h1 : Dig l) (h2 : Dig m) : Dig (l ++ m) := by
  induction l with
  | nil => exact h2
  | cons d l ih =>
    have := dig_cons.1 h1
    exact dig_cons.2 ⟨this.1, ih this.2⟩
theorem dig_snoc {l : List Nat} {d : Nat} (h1 : Dig l) (h2 : d < 4294967296) : Dig (l ++ [d]) := dig_append h1 (dig_cons.2 ⟨h2, dig_nil⟩)
theorem getD_take {l : List Nat} {k i : Nat} (h : i < k) : (l.take k).getD i 0 = l.getD i 0 := by
  simp only [List.getD_eq_getElem?_getD]
  rw [List.getElem?_take_of_lt h]
theorem dig_take {l : List Nat} (h : Dig l) (k : Nat) : Dig (l.take k) := by
  intro i
  by_cases c : i < k
  · rw [getD_take c]; exact h i
  · have : (l.take k).getD i 0 = 0 := by
      simp only [List.getD_eq_getElem?_getD]
      rw [List.getElem?_eq_none (by simp; omega)]; rfl
    rw [this]; decide
theorem dig_set {l : List Nat} (h : Dig l) {d : Nat} (hd : d < 4294967296) (k : Nat) : Dig (l.set k d) := by
  intro i
  simp only [List.getD_eq_getElem?_getD, List.getElem?_set]
  have := h i
  simp only [List.getD_eq_getElem?_getD] at this
  split
  · split
    · simpa using hd
    · simp
  · exact this
theorem dig_zeros (k : Nat) : Dig (List.replicate k 0) := by
  intro i
  simp only [List.getD_eq_getElem?_getD, List.getElem?_replicate]
  split <;> simp
theorem n32_zeros (k : Nat) : n32 (List.replicate k 0) = 0 := by
  induction k with
  | zero => rfl
  | succ k ih => simp [List.replicate_succ, n32, ih]

theorem n32_lt {l : List Nat} (h : Dig l) : n32 l < bp l.length := by
  induction l with
  | nil => rw [List.length_nil, bp_zero]; decide
  | cons d l ih =>
    have := dig_cons.1 h
    have := ih this.2
    rw [List.length_cons, bp_succ]
    simp only [n32]
    omega

/-- One digit more of the lower ones. -/
theorem n32_take (l : List Nat) (k : Nat) : n32 (l.take (k + 1)) = n32 (l.take k) + bp k * l.getD k 0 := by
  by_cases h : k < l.length
  · rw [List.take_succ_eq_append_getElem h, n32_snoc, List.length_take, Nat.min_eq_left (Nat.le_of_lt h)]
    simp [List.getD_eq_getElem?_getD, h]
  · rw [List.take_of_length_le (by omega), List.take_of_length_le (by omega)]
    simp only [List.getD_eq_getElem?_getD]
    rw [List.getElem?_eq_none (by omega)]; simp
theorem n32_parts (l : List Nat) (k : Nat) (h : k ≤ l.length) : n32 l = n32 (l.take k) + bp k * n32 (l.drop k) := by
  have := n32_append (l.take k) (l.drop k)
  rw [List.take_append_drop, List.length_take, Nat.min_eq_left h] at this
  exact this

theorem n32_top {l : List Nat} (h : Top l) (hl : 0 < l.length) : bp (l.length - 1) ≤ n32 l := by
  have h1 := h hl
  have h2 := n32_take l (l.length - 1)
  rw [show l.length - 1 + 1 = l.length by omega, List.take_length] at h2
  rw [h2]
  have : bp (l.length - 1) ≤ bp (l.length - 1) * l.getD (l.length - 1) 0 := Nat.le_mul_of_pos_right _ (Nat.pos_of_ne_zero h1)
  omega
theorem n32_nil {l : List Nat} (h : Top l) : n32 l = 0 ↔ l.length = 0 := by
  constructor
  · intro h0
    refine Nat.eq_zero_of_not_pos fun hl => ?_
    have := n32_top h hl
    have := bp_pos (l.length - 1)
    omega
  · intro hl
    have : l = [] := List.length_eq_zero_iff.1 hl
    rw [this]; rfl
/-- How many digits. -/
theorem len_le {l : List Nat} (h : Top l) {k : Nat} (hn : n32 l < bp k) : l.length ≤ k := by
  refine Nat.le_of_not_lt fun hk => ?_
  have h1 := n32_top h (by omega)
  have h2 := bp_le (show k ≤ l.length - 1 by omega)
  omega
theorem len_mono {l m : List Nat} (h : Top l) (hm : Dig m) (hn : n32 l ≤ n32 m) : l.length ≤ m.length := len_le h (Nat.lt_of_le_of_lt hn (n32_lt hm))

/-- What is above decides. -/
theorem cmp_at {l m : List Nat} {i : Nat} (hl : Dig l) (hm : Dig m) (e : l.length = m.length) (hi : i < l.length) (hd : l.drop (i + 1) = m.drop (i + 1)) (h : l.getD i 0 < m.getD i 0) : n32 l < n32 m := by
  rw [n32_parts l (i + 1) (by omega), n32_parts m (i + 1) (by omega), hd, n32_take, n32_take]
  have h1 := n32_lt (dig_take hl i)
  rw [List.length_take, Nat.min_eq_left (by omega)] at h1
  have h2 : bp i * (l.getD i 0 + 1) ≤ bp i * m.getD i 0 := Nat.mul_le_mul_left _ h
  rw [Nat.mul_add, Nat.mul_one] at h2
  omega

theorem n32_set (l : List Nat) (k d : Nat) (h : k < l.length) : n32 (l.set k d) + bp k * l.getD k 0 = n32 l + bp k * d := by
  have e1 := n32_parts (l.set k d) (k + 1) (by simp; omega)
  have e2 := n32_parts l (k + 1) (by omega)
  rw [n32_take] at e1 e2
  have t : (l.set k d).take k = l.take k := by rw [List.take_set, List.set_eq_of_length_le (by simp; exact Nat.min_le_left _ _)]
  have u : (l.set k d).drop (k + 1) = l.drop (k + 1) := by rw [List.drop_set, if_pos (by omega)]
  have v : (l.set k d).getD k 0 = d := by simp [List.getD_eq_getElem?_getD, h]
  rw [t, u, v] at e1
  rw [e1, e2]; omega

/-! ### A round of each -/

theorem plus_round {L a b : List Nat} {c k s : Nat} (hL : L.length = k) (h : n32 L + bp k * c = n32 (a.take k) + n32 (b.take k)) (hs : s = c + a.getD k 0 + b.getD k 0) :
    n32 (L ++ [s % 4294967296]) + bp (k + 1) * (s / 4294967296) = n32 (a.take (k + 1)) + n32 (b.take (k + 1)) := by
  rw [n32_snoc, hL, n32_take, n32_take, bp_succ]
  have e : bp k * (s % 4294967296) + 4294967296 * bp k * (s / 4294967296) = bp k * s := by
    have e1 : 4294967296 * bp k * (s / 4294967296) = bp k * (4294967296 * (s / 4294967296)) := by simp only [Nat.mul_assoc, Nat.mul_comm, Nat.mul_left_comm]
    rw [e1, ← Nat.mul_add]; congr 1; omega
  have e2 : bp k * s = bp k * c + bp k * a.getD k 0 + bp k * b.getD k 0 := by rw [hs, Nat.mul_add, Nat.mul_add]
  omega


/-- Borrowed: what was taken off is more by B^k c. -/
theorem less_step {L a b : List Nat} {c c' k d : Nat} (hL : L.length = k) (h : n32 L + n32 (b.take k) = n32 (a.take k) + bp k * c) (hd : d + b.getD k 0 + c = a.getD k 0 + 4294967296 * c') :
    n32 (L ++ [d]) + n32 (b.take (k + 1)) = n32 (a.take (k + 1)) + bp (k + 1) * c' := by
  rw [n32_snoc, hL, n32_take, n32_take, bp_succ]
  have e : bp k * d + bp k * b.getD k 0 + bp k * c = bp k * a.getD k 0 + 4294967296 * bp k * c' := by
    rw [← Nat.mul_add, ← Nat.mul_add, hd, Nat.mul_add]
    congr 1
    simp only [Nat.mul_assoc, Nat.mul_comm, Nat.mul_left_comm]
  omega
theorem less_end {L a b : List Nat} {c : Nat} (hL : L.length = a.length) (hd : Dig L) (hb : Top b) (ha : Dig a) (hle : n32 b ≤ n32 a)
    (h : n32 L + n32 (b.take a.length) = n32 (a.take a.length) + bp a.length * c) : n32 L = n32 a - n32 b := by
  have l1 := len_mono hb ha hle
  rw [List.take_of_length_le l1, List.take_length] at h
  have l2 := n32_lt hd
  rw [hL] at l2
  have : c = 0 := by
    refine Nat.eq_zero_of_not_pos fun hc => ?_
    have : bp a.length ≤ bp a.length * c := Nat.le_mul_of_pos_right _ hc
    omega
  subst this
  omega

/-- Products: one digit more. -/
theorem by_round {O a b : List Nat} {i j c n : Nat} (hij : i + j < O.length) (h : n32 O + bp (i + j) * c = n32 (a.take i) * n32 b + bp i * a.getD i 0 * n32 (b.take j)) (hn : n = a.getD i 0 * b.getD j 0 + O.getD (i + j) 0 + c) :
    n32 (O.set (i + j) (n % 4294967296)) + bp (i + (j + 1)) * (n / 4294967296) = n32 (a.take i) * n32 b + bp i * a.getD i 0 * n32 (b.take (j + 1)) := by
  have hs := n32_set O (i + j) (n % 4294967296) hij
  rw [n32_take, ← Nat.add_assoc, bp_succ]
  have e : bp (i + j) * (n % 4294967296) + 4294967296 * bp (i + j) * (n / 4294967296) = bp (i + j) * n := by
    have e1 : 4294967296 * bp (i + j) * (n / 4294967296) = bp (i + j) * (4294967296 * (n / 4294967296)) := by simp only [Nat.mul_assoc, Nat.mul_comm, Nat.mul_left_comm]
    rw [e1, ← Nat.mul_add]; congr 1; omega
  have e2 : bp (i + j) * n = bp (i + j) * (a.getD i 0 * b.getD j 0) + bp (i + j) * O.getD (i + j) 0 + bp (i + j) * c := by rw [hn, Nat.mul_add, Nat.mul_add]
  have e3 : bp i * a.getD i 0 * (n32 (b.take j) + bp j * b.getD j 0) = bp i * a.getD i 0 * n32 (b.take j) + bp (i + j) * (a.getD i 0 * b.getD j 0) := by
    rw [Nat.mul_add, bp_add]; congr 1; simp only [Nat.mul_assoc, Nat.mul_comm, Nat.mul_left_comm]
  omega
theorem by_end {O a b : List Nat} {i c : Nat} (hi : i + b.length < O.length) (hz : O.getD (i + b.length) 0 = 0) (h : n32 O + bp (i + b.length) * c = n32 (a.take i) * n32 b + bp i * a.getD i 0 * n32 (b.take b.length)) :
    n32 (O.set (i + b.length) c) = n32 (a.take (i + 1)) * n32 b := by
  have hs := n32_set O (i + b.length) c hi
  rw [hz, Nat.mul_zero] at hs
  rw [List.take_length] at h
  rw [n32_take, Nat.add_mul]
  omega

/-- To the left: one digit more. -/
theorem left_round {O a : List Nat} {q s k c t : Nat} (hO : O.length = q + k) (h : n32 O + bp (q + k) * c = bp q * 2 ^ s * n32 (a.take k)) (ht : t = c + a.getD k 0 * 2 ^ s) :
    n32 (O ++ [t % 4294967296]) + bp (q + (k + 1)) * (t / 4294967296) = bp q * 2 ^ s * n32 (a.take (k + 1)) := by
  rw [n32_snoc, hO, n32_take, ← Nat.add_assoc, bp_succ]
  have e : bp (q + k) * (t % 4294967296) + 4294967296 * bp (q + k) * (t / 4294967296) = bp (q + k) * t := by
    have e1 : 4294967296 * bp (q + k) * (t / 4294967296) = bp (q + k) * (4294967296 * (t / 4294967296)) := by simp only [Nat.mul_assoc, Nat.mul_comm, Nat.mul_left_comm]
    rw [e1, ← Nat.mul_add]; congr 1; omega
  have e2 : bp (q + k) * t = bp (q + k) * c + bp (q + k) * (a.getD k 0 * 2 ^ s) := by rw [ht, Nat.mul_add]
  have e3 : bp q * 2 ^ s * (n32 (a.take k) + bp k * a.getD k 0) = bp q * 2 ^ s * n32 (a.take k) + bp (q + k) * (a.getD k 0 * 2 ^ s) := by
    rw [Nat.mul_add, bp_add]; congr 1; simp only [Nat.mul_assoc, Nat.mul_comm, Nat.mul_left_comm]
  omega
theorem left_carry {s c d : Nat} (hs : s < 32) (hc : c < 2 ^ s) (hd : d < 4294967296) : c + d * 2 ^ s < 4294967296 * 2 ^ s ∧ (c + d * 2 ^ s) / 4294967296 < 2 ^ s := by
  have h1 : (d + 1) * 2 ^ s ≤ 4294967296 * 2 ^ s := Nat.mul_le_mul_right _ hd
  rw [Nat.add_mul, Nat.one_mul] at h1
  have h2 : c + d * 2 ^ s < 4294967296 * 2 ^ s := by omega
  exact ⟨h2, by rw [Nat.div_lt_iff_lt_mul (by decide), Nat.mul_comm (2 ^ s)]; exact h2⟩

theorem blen_bits {l : List Nat} (hd : Dig l) (h : Top l) (hl : 0 < l.length) : blen (n32 l) = 32 * (l.length - 1) + blen (l.getD (l.length - 1) 0) := by
  have h1 := h hl
  have h2 := n32_take l (l.length - 1)
  rw [show l.length - 1 + 1 = l.length by omega, List.take_length] at h2
  have h3 := n32_lt (dig_take hd (l.length - 1))
  rw [List.length_take, Nat.min_eq_left (by omega)] at h3
  generalize n32 (l.take (l.length - 1)) = x at *
  generalize l.getD (l.length - 1) 0 = d at *
  generalize l.length - 1 = k at *
  rw [h2]
  have p := blen_pos h1
  have a1 := blen_ge h1
  have a2 := blen_lt d
  rw [bp_pw, pw_eq] at *
  have e : 32 * k + blen d = (32 * k + (blen d - 1)) + 1 := by omega
  rw [e]
  apply blen_unique
  · rw [Nat.pow_add]
    have := Nat.mul_le_mul_left (2 ^ (32 * k)) a1
    omega
  · rw [show 32 * k + (blen d - 1) + 1 = 32 * k + blen d by omega, Nat.pow_add]
    have : 2 ^ (32 * k) * (d + 1) ≤ 2 ^ (32 * k) * 2 ^ blen d := Nat.mul_le_mul_left _ a2
    rw [Nat.mul_add, Nat.mul_one] at this
    omega
end Go.Proofs.Ytjdccbigaahkeaa.Fl

/- Numbers M 2^E of the reference: their amounts, compared and added. (plain; no program) -/
namespace Go.Proofs.Ytjdccbigaahkeaa.Fl
set_option linter.unusedSimpArgs false
set_option linter.unusedVariables false

/-- The amount in units of 2^-K. -/
def nv (K : Int) (s : Bool) (m : Nat) (e : Int) : Int := if s then -((m * pw (e + K).toNat : Nat) : Int) else ((m * pw (e + K).toNat : Nat) : Int)
def sgnI (s : Bool) (m : Nat) : Int := if m = 0 then 0 else if s then -1 else 1
def ordI (a b : Int) : Int := if a < b then -1 else if b < a then 1 else 0
def cmpI (m n : Nat) : Int := if m < n then -1 else if n < m then 1 else 0

theorem nv_zero (K : Int) (s : Bool) (e : Int) : nv K s 0 e = 0 := by unfold nv; cases s <;> simp

theorem nv_pos (K : Int) {m : Nat} (e : Int) (h : m ≠ 0) : 0 < m * pw (e + K).toNat := Nat.mul_pos (Nat.pos_of_ne_zero h) (pw_pos _)

/-- To another exponent. -/
theorem nv_level {K : Int} (s : Bool) (m : Nat) {e d : Int} (h1 : 0 ≤ d + K) (h2 : d ≤ e) : nv K s (m * 2 ^ (e - d).toNat) d = nv K s m e := by
  unfold nv
  have : m * 2 ^ (e - d).toNat * pw (d + K).toNat = m * pw (e + K).toNat := by
    rw [← pw_eq, Nat.mul_assoc, ← pw_add]; congr 2; omega
  rw [this]

theorem ord_scaled {a b : Nat} {p : Nat} (hp : 0 < p) : cmpI (a * p) (b * p) = cmpI a b := by
  unfold cmpI
  simp only [Nat.mul_lt_mul_right hp]

theorem ordI_nat (a b : Nat) : ordI (a : Int) (b : Int) = cmpI a b := by
  unfold ordI cmpI
  simp only [Int.ofNat_lt]
theorem ordI_neg (a b : Int) : ordI (-a) (-b) = - ordI a b := by
  unfold ordI
  repeat' split
  all_goals omega

/-- Held against each other by their bits. -/
theorem bits_lt {K : Int} {m n : Nat} {e f : Int} (hm : m ≠ 0) (hn : n ≠ 0) (he : 0 ≤ e + K) (hf : 0 ≤ f + K) (h : (blen m : Int) + e < blen n + f) : m * pw (e + K).toNat < n * pw (f + K).toNat := by
  have h1 := blen_lt m
  have h2 := blen_ge hn
  have h3 := blen_pos hn
  rw [← pw_eq] at h1 h2
  have a1 : m * pw (e + K).toNat < pw (blen m) * pw (e + K).toNat := Nat.mul_lt_mul_of_pos_right h1 (pw_pos _)
  have a2 : pw (blen n - 1) * pw (f + K).toNat ≤ n * pw (f + K).toNat := Nat.mul_le_mul_right _ h2
  rw [← pw_add] at a1 a2
  have a3 : pw (blen m + (e + K).toNat) ≤ pw (blen n - 1 + (f + K).toNat) := by
    rw [pw_eq, pw_eq]; exact Nat.pow_le_pow_right (by decide) (by omega)
  omega

/-- What the reference's order does. -/
def ordN (s t : Bool) (m n : Nat) (e f : Int) : Int :=
  if sgnI s m ≠ sgnI t n then (if sgnI s m < sgnI t n then -1 else 1)
  else if sgnI s m = 0 then 0
  else if s then 0 - (if (blen m : Int) + e < blen n + f then -1 else if (blen n : Int) + f < blen m + e then 1 else cmpI (m * 2 ^ (e - min e f).toNat) (n * 2 ^ (f - min e f).toNat))
  else (if (blen m : Int) + e < blen n + f then -1 else if (blen n : Int) + f < blen m + e then 1 else cmpI (m * 2 ^ (e - min e f).toNat) (n * 2 ^ (f - min e f).toNat))

theorem ordN_mag {K : Int} {m n : Nat} {e f : Int} (hm : m ≠ 0) (hn : n ≠ 0) (he : 0 ≤ e + K) (hf : 0 ≤ f + K) :
    (if (blen m : Int) + e < blen n + f then -1 else if (blen n : Int) + f < blen m + e then 1 else cmpI (m * 2 ^ (e - min e f).toNat) (n * 2 ^ (f - min e f).toNat)) = cmpI (m * pw (e + K).toNat) (n * pw (f + K).toNat) := by
  by_cases c1 : (blen m : Int) + e < blen n + f
  · rw [if_pos c1]
    have := bits_lt hm hn he hf c1
    unfold cmpI; rw [if_pos this]
  · rw [if_neg c1]
    by_cases c2 : (blen n : Int) + f < blen m + e
    · rw [if_pos c2]
      have := bits_lt hn hm hf he c2
      unfold cmpI; rw [if_neg (by omega), if_pos this]
    · rw [if_neg c2]
      have e1 : m * pw (e + K).toNat = m * 2 ^ (e - min e f).toNat * pw (min e f + K).toNat := by
        rw [← pw_eq, Nat.mul_assoc, ← pw_add]; congr 2; omega
      have e2 : n * pw (f + K).toNat = n * 2 ^ (f - min e f).toNat * pw (min e f + K).toNat := by
        rw [← pw_eq, Nat.mul_assoc, ← pw_add]; congr 2; omega
      rw [e1, e2, ord_scaled (pw_pos _)]

theorem ordN_eq {K : Int} {s t : Bool} {m n : Nat} {e f : Int} (he : 0 ≤ e + K) (hf : 0 ≤ f + K) : ordN s t m n e f = ordI (nv K s m e) (nv K t n f) := by
  by_cases hm : m = 0
  · subst hm
    rw [nv_zero]
    by_cases hn : n = 0
    · subst hn; rw [nv_zero]; simp [ordN, sgnI, ordI]
    · have p := nv_pos K f hn
      unfold ordN sgnI nv ordI
      cases t <;> simp [hn] <;> omega
  · have p := nv_pos K e hm
    by_cases hn : n = 0
    · subst hn
      rw [nv_zero]
      unfold ordN sgnI nv ordI
      cases s <;> simp [hm] <;> omega
    · have p2 := nv_pos K f hn
      have hmag := ordN_mag hm hn he hf
      unfold ordN
      rw [hmag]
      unfold sgnI nv
      rw [if_neg hm, if_neg hn]
      generalize m * pw (e + K).toNat = x at *
      generalize n * pw (f + K).toNat = y at *
      cases s <;> cases t
      · simp [ordI_nat]
      · simp; unfold ordI; rw [if_neg (by omega), if_pos (by omega)]
      · simp; unfold ordI; rw [if_pos (by omega)]
      · simp; rw [ordI_neg, ordI_nat]

/-- Of the greater one's size. -/
theorem level_size {m n : Nat} {e f : Int} (hm : m ≠ 0) (hn : n ≠ 0) (h : (blen m : Int) + e = blen n + f) : m * 2 ^ (e - min e f).toNat < 2 * m * n + 2 * m + 2 * n := by
  by_cases c : e ≤ f
  · rw [show (e - min e f).toNat = 0 by omega]
    have : m * 1 ≤ m * n := Nat.mul_le_mul_left _ (by omega)
    rw [Nat.mul_assoc]; omega
  · have h1 := blen_lt m
    have h2 := blen_ge hn
    have h3 := blen_pos hn
    have a1 : m * 2 ^ (e - min e f).toNat < 2 ^ blen m * 2 ^ (e - min e f).toNat := Nat.mul_lt_mul_of_pos_right h1 (Nat.two_pow_pos _)
    rw [← Nat.pow_add, show blen m + (e - min e f).toNat = (blen n - 1) + 1 by omega, Nat.pow_succ] at a1
    omega

/-- What the reference's sum is. -/
theorem sum_nv {K : Int} (s t : Bool) (m n : Nat) (e f : Int) (he : 0 ≤ e + K) (hf : 0 ≤ f + K) :
    (s = t → nv K s (m * 2 ^ (e - min e f).toNat + n * 2 ^ (f - min e f).toNat) (min e f) = nv K s m e + nv K t n f) ∧
    (s ≠ t → n * 2 ^ (f - min e f).toNat ≤ m * 2 ^ (e - min e f).toNat → nv K s (m * 2 ^ (e - min e f).toNat - n * 2 ^ (f - min e f).toNat) (min e f) = nv K s m e + nv K t n f) ∧
    (s ≠ t → m * 2 ^ (e - min e f).toNat ≤ n * 2 ^ (f - min e f).toNat → nv K t (n * 2 ^ (f - min e f).toNat - m * 2 ^ (e - min e f).toNat) (min e f) = nv K s m e + nv K t n f) := by
  rw [← nv_level (K := K) s m (e := e) (d := min e f) (by omega) (by omega), ← nv_level (K := K) t n (e := f) (d := min e f) (by omega) (by omega)]
  generalize m * 2 ^ (e - min e f).toNat = x
  generalize n * 2 ^ (f - min e f).toNat = y
  unfold nv
  generalize pw (min e f + K).toNat = p
  refine ⟨?_, ?_, ?_⟩
  · rintro rfl
    rw [Nat.add_mul]
    cases s <;> simp <;> omega
  · intro hst hle
    have := Nat.mul_le_mul_right p hle
    rw [Nat.sub_mul]
    cases s <;> cases t <;> simp at * <;> omega
  · intro hst hle
    have := Nat.mul_le_mul_right p hle
    rw [Nat.sub_mul]
    cases s <;> cases t <;> simp at * <;> omega

theorem prod_nv {K L : Int} (s t : Bool) (m n : Nat) (e f : Int) (he : 0 ≤ e + K) (hf : 0 ≤ f + L) : nv (K + L) (s != t) (m * n) (e + f) = nv K s m e * nv L t n f := by
  have h : m * n * pw (e + f + (K + L)).toNat = m * pw (e + K).toNat * (n * pw (f + L).toNat) := by
    rw [show (e + f + (K + L)).toNat = (e + K).toNat + (f + L).toNat by omega, pw_add]
    simp only [Nat.mul_assoc, Nat.mul_comm, Nat.mul_left_comm]
  unfold nv
  rw [h]
  generalize m * pw (e + K).toNat = x
  generalize n * pw (f + L).toNat = y
  cases s <;> cases t <;> simp [Int.neg_mul, Int.mul_neg]
end Go.Proofs.Ytjdccbigaahkeaa.Fl
