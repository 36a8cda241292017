/- Rounding by what is lost: what the program's own rounding comes to is the exact amount's rung. (plain; no program) -/
import Derived.Test.YtjdccbigaahkeaaFl6
namespace Go.Proofs.Ytjdccbigaahkeaa.Fl
set_option linter.unusedSimpArgs false
set_option linter.unusedVariables false

/-- What is lost of N / D at the scale E behind k: 0 nothing, 1 less than half, 2 half, 3 more. -/
def LostIs (l : Int) (N D E k : Nat) : Prop :=
  (l = 0 ∧ k * 2 ^ E * D = N) ∨ (l = 1 ∧ k * 2 ^ E * D < N ∧ 2 * N < (2 * k + 1) * 2 ^ E * D) ∨ (l = 2 ∧ (2 * k + 1) * 2 ^ E * D = 2 * N) ∨ (l = 3 ∧ (2 * k + 1) * 2 ^ E * D < 2 * N ∧ N < (k + 1) * 2 ^ E * D)

/-- One more, or not. -/
def incI (l : Int) (k : Nat) (dir : Int) : Nat := if (0 < dir ∧ 0 < l) ∨ (dir = 0 ∧ (l = 3 ∨ l = 2 ∧ k % 2 = 1)) then 1 else 0

theorem incI_le (l : Int) (k : Nat) (dir : Int) : incI l k dir ≤ 1 := by unfold incI; split <;> omega

theorem round_pick (I Z k i N U X : Nat) (dir l : Int) (hI : 1 ≤ I)
    (h : (l = 0 ∧ U = N) ∨ (l = 1 ∧ U < N ∧ 2 * N < 2 * U + X) ∨ (l = 2 ∧ 2 * U + X = 2 * N ∧ 0 < X) ∨ (l = 3 ∧ 2 * U + X < 2 * N ∧ N < U + X))
    (hinc : (i = 1 ∧ ((0 < dir ∧ 0 < l) ∨ (dir = 0 ∧ (l = 3 ∨ l = 2 ∧ k % 2 = 1)))) ∨ (i = 0 ∧ ¬ ((0 < dir ∧ 0 < l) ∨ (dir = 0 ∧ (l = 3 ∨ l = 2 ∧ k % 2 = 1))))) :
    (if I ≤ Z + (k + i) then (if 0 ≤ dir then I else I - 1) else Z + (k + i)) =
      if I ≤ Z + k then (if dir < 0 then I - 1 else I) else Z + (if U = N then k else if dir < 0 then k else if 0 < dir then k + 1 else if 2 * N < 2 * U + X then k else if 2 * U + X < 2 * N then k + 1 else if k % 2 = 0 then k else k + 1) := by
  repeat' split
  all_goals omega

theorem round_lost {l : Int} {N D E k : Nat} (dir : Int) (h : LostIs l N D E k) (hD : 0 < D) (hk : k < 2 * BIN) (hE : E = 0 ∨ BIN ≤ k) :
    (if INFR ≤ E * BIN + (k + incI l k dir) then (if 0 ≤ dir then INFR else INFR - 1) else E * BIN + (k + incI l k dir)) = rungOf N D dir := by
  have pE := Nat.two_pow_pos E
  have hX : 0 < 2 ^ E * D := Nat.mul_pos pE hD
  have e1 : k * 2 ^ E * D = k * (2 ^ E * D) := Nat.mul_assoc _ _ _
  have e2 : (2 * k + 1) * 2 ^ E * D = 2 * (k * (2 ^ E * D)) + 2 ^ E * D := by rw [Nat.mul_assoc, Nat.add_mul, Nat.one_mul, Nat.mul_assoc]
  have e3 : (k + 1) * 2 ^ E * D = k * (2 ^ E * D) + 2 ^ E * D := by rw [Nat.mul_assoc, Nat.add_mul, Nat.one_mul]
  unfold LostIs at h
  rw [e1, e2, e3] at h
  rw [rungOf_at dir hD hk hE (by rw [e1]; omega) (by rw [e3]; omega), e1, e2]
  generalize k * (2 ^ E * D) = U at *
  generalize 2 ^ E * D = X at *
  refine round_pick INFR (E * BIN) k (incI l k dir) N U X dir l (by decide) (by omega) ?_
  unfold incI
  by_cases hc : (0 < dir ∧ 0 < l) ∨ (dir = 0 ∧ (l = 3 ∨ l = 2 ∧ k % 2 = 1))
  · rw [if_pos hc]; exact Or.inl ⟨rfl, hc⟩
  · rw [if_neg hc]; exact Or.inr ⟨rfl, hc⟩

/-- What is lost of V by s bits to the right (and a little more). -/
def lostI (V : Int) (more : Bool) (n : Nat) : Int :=
  if (V / 2 ^ (n - 1)) % 2 = 1 then (if more || decide (V % 2 ^ (n - 1) ≠ 0) then 3 else 2) else if more || decide (V % 2 ^ (n - 1) ≠ 0) then 1 else 0

/-- The exact amount is V 2^(a - b), or a little more. -/
def Amount (V : Nat) (more : Bool) (a b N D : Nat) : Prop :=
  if more then V * 2 ^ a * D < N * 2 ^ b ∧ N * 2 ^ b < (V + 1) * 2 ^ a * D else N * 2 ^ b = V * 2 ^ a * D

theorem lost_shift {V a b N D E s : Nat} {more : Bool} (hA : Amount V more a b N D) (hs : 1 ≤ s) (hE : a + s = E + b) (hD : 0 < D) : LostIs (lostI V more s) N D E (V / 2 ^ s) := by
  -- everything in units of 2^a D / 2^b
  have pb := Nat.two_pow_pos b
  have pa := Nat.two_pow_pos a
  have tr : ∀ c m : Nat, (c * 2 ^ E * D ≤ m * N ↔ c * 2 ^ s * (2 ^ a * D) ≤ m * (N * 2 ^ b)) ∧ (m * N ≤ c * 2 ^ E * D ↔ m * (N * 2 ^ b) ≤ c * 2 ^ s * (2 ^ a * D)) := by
    intro c m
    have e1 : c * 2 ^ E * D * 2 ^ b = c * 2 ^ s * (2 ^ a * D) := by
      have : 2 ^ E * 2 ^ b = 2 ^ s * 2 ^ a := by rw [← Nat.pow_add, ← Nat.pow_add]; congr 1; omega
      calc c * 2 ^ E * D * 2 ^ b = c * (2 ^ E * 2 ^ b) * D := by simp only [Nat.mul_assoc, Nat.mul_comm, Nat.mul_left_comm]
        _ = c * 2 ^ s * (2 ^ a * D) := by rw [this]; simp only [Nat.mul_assoc]
    rw [← e1, ← Nat.mul_assoc]
    exact ⟨⟨fun h => Nat.mul_le_mul_right _ h, fun h => Nat.le_of_mul_le_mul_right h pb⟩, ⟨fun h => Nat.mul_le_mul_right _ h, fun h => Nat.le_of_mul_le_mul_right h pb⟩⟩
  have pX : 0 < 2 ^ a * D := Nat.mul_pos pa hD
  unfold Amount at hA
  have a1 : V * 2 ^ a * D = V * (2 ^ a * D) := Nat.mul_assoc _ _ _
  have a2 : (V + 1) * 2 ^ a * D = V * (2 ^ a * D) + 2 ^ a * D := by rw [Nat.mul_assoc, Nat.add_mul, Nat.one_mul]
  rw [a1, a2] at hA
  generalize 2 ^ a * D = X at *
  generalize N * 2 ^ b = Y at *
  -- V by its parts
  obtain ⟨t, rfl⟩ : ∃ t, s = t + 1 := ⟨s - 1, by omega⟩
  have ps := Nat.two_pow_pos t
  have d1 := Nat.div_add_mod V (2 ^ t)
  have d2 := Nat.mod_lt V ps
  have hk : V / 2 ^ (t + 1) = V / 2 ^ t / 2 := by rw [Nat.pow_succ, Nat.div_div_eq_div_mul]
  have hl : lostI V more (t + 1) = if (V / 2 ^ t) % 2 = 1 then (if more || decide (V % 2 ^ t ≠ 0) then 3 else 2) else if more || decide (V % 2 ^ t ≠ 0) then 1 else 0 := by
    unfold lostI
    rw [Nat.add_sub_cancel, ← pow2_cast, ← Int.natCast_ediv, ← Int.natCast_emod]
    have e1 : (((V / 2 ^ t : Nat) : Int) % 2 = 1) ↔ (V / 2 ^ t) % 2 = 1 := by omega
    have e2 : (((V % 2 ^ t : Nat) : Int) ≠ 0) ↔ (V % 2 ^ t) ≠ 0 := by omega
    simp only [e1, e2]
  rw [hl, hk]
  generalize V / 2 ^ t = Q at *
  generalize V % 2 ^ t = R at *
  have h2t : (2 : Nat) ^ (t + 1) = 2 * 2 ^ t := by rw [Nat.pow_succ, Nat.mul_comm]
  rw [h2t] at tr
  generalize 2 ^ t = T at *
  have hq := Nat.div_add_mod Q 2
  have hq2 := Nat.mod_lt Q (show 0 < 2 by decide)
  generalize Q / 2 = k at *
  generalize hbit : Q % 2 = bit at *
  -- products with X
  have m1 : V * X = (2 * k + bit) * T * X + R * X := by rw [← d1, ← hq, Nat.add_mul, Nat.mul_comm T]
  have b0 : bit = 0 ∨ bit = 1 := by omega
  have RX : R * X + X ≤ T * X := by
    have := Nat.mul_le_mul_right X (show R + 1 ≤ T by omega)
    rw [Nat.add_mul, Nat.one_mul] at this; exact this
  have q1 := tr k 1
  have q2 := tr (2 * k + 1) 2
  have q3 := tr (k + 1) 1
  have f1 : k * (2 * T) * X = 2 * (k * T * X) := by simp only [Nat.mul_assoc, Nat.mul_comm, Nat.mul_left_comm]
  have f2 : (2 * k + 1) * (2 * T) * X = 4 * (k * T * X) + 2 * (T * X) := by
    rw [Nat.add_mul, Nat.add_mul, Nat.one_mul, Nat.mul_assoc 2 T X]
    congr 1
    have : 2 * k * (2 * T) * X = 2 * 2 * (k * T * X) := by simp only [Nat.mul_assoc, Nat.mul_comm, Nat.mul_left_comm]
    rw [this]
  have f3 : (k + 1) * (2 * T) * X = 2 * (k * T * X) + 2 * (T * X) := by
    rw [Nat.add_mul, Nat.add_mul, Nat.one_mul, Nat.mul_assoc 2 T X, f1]
  have f4 : (2 * k + bit) * T * X = 2 * (k * T * X) + bit * (T * X) := by
    rw [Nat.add_mul, Nat.add_mul, Nat.mul_assoc bit T X]
    congr 1
    simp only [Nat.mul_assoc]
  rw [f1] at q1
  rw [f2] at q2
  rw [f3] at q3
  rw [f4] at m1
  generalize k * T * X = K at *
  generalize T * X = W at *
  have R0 : R = 0 → R * X = 0 := fun h => by rw [h, Nat.zero_mul]
  have R1 : R ≠ 0 → X ≤ R * X := fun h => Nat.le_mul_of_pos_left X (Nat.pos_of_ne_zero h)
  generalize R * X = RR at *
  unfold LostIs
  generalize (k + 1) * 2 ^ E * D = A3 at *
  generalize (2 * k + 1) * 2 ^ E * D = A2 at *
  generalize hA1 : k * 2 ^ E * D = A1 at *
  clear tr d1 hq hk hl h2t hq2
  cases more
  · simp only [Bool.false_eq_true, if_false, Bool.false_or, decide_eq_true_eq] at *
    by_cases hR : R = 0
    · have := R0 hR
      rcases b0 with rfl | rfl
      · simp [hR]; omega
      · simp [hR]; omega
    · have := R1 hR
      rcases b0 with rfl | rfl
      · simp [hR]; omega
      · simp [hR]; omega
  · simp only [if_true, Bool.true_or] at *
    rcases b0 with rfl | rfl
    · simp; omega
    · simp; omega

theorem lost_none {V a b N D E t : Nat} (hA : Amount V false a b N D) (hE : E + t + b = a) : LostIs 0 N D E (V * 2 ^ t) := by
  left
  refine ⟨rfl, ?_⟩
  have pb := Nat.two_pow_pos b
  have hA' : N * 2 ^ b = V * 2 ^ a * D := hA
  apply Nat.eq_of_mul_eq_mul_right pb
  rw [hA', ← hE, Nat.pow_add, Nat.pow_add]
  simp only [Nat.mul_assoc, Nat.mul_comm, Nat.mul_left_comm]

end Go.Proofs.Ytjdccbigaahkeaa.Fl
