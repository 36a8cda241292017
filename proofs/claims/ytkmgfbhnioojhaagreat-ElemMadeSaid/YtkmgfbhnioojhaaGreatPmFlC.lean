/- One digit of a long division. (plain; no program) -/
import Derived.Test.YtkmgfbhnioojhaaGreatPmFlB
import Derived.Laws.FloatArith
namespace Go.Proofs.YtkmgfbhnioojhaaGreat.Fl
set_option linter.unusedSimpArgs false
set_option linter.unusedVariables false

theorem Int.lt_of_mul_lt {a b c : Int} (hc : 0 ≤ c) (h : a * c < b * c) : a < b := by
  rcases Int.lt_or_le a b with h1 | h1
  · exact h1
  · have := Int.mul_le_mul_of_nonneg_right h1 hc; omega

theorem digit {u d y y1 y0 : Int} (hy : y = y1 * 4294967296 + y0) (hu0 : 0 ≤ u) (hu : u < y) (h1 : 2147483648 ≤ y1) (h1' : y1 ≤ 4294967295) (h0 : 0 ≤ y0) (h0' : y0 ≤ 4294967295) (hd : 0 ≤ d) (hd' : d ≤ 4294967295) :
    ∃ q0 p0 r0 m0 m1 q rem : Int, u.tdiv y1 = q0 ∧ q0 * y1 = p0 ∧ u - p0 = r0 ∧ q0 * y0 = m0 ∧ (q0 - 1) * y0 = m1 ∧ 0 ≤ q0 ∧ q0 ≤ 4294967297 ∧ 0 ≤ p0 ∧ p0 ≤ u ∧ 0 ≤ r0 ∧ r0 < y1 ∧
      u * 4294967296 + d = q * y + rem ∧ 0 ≤ rem ∧ rem < y ∧ 0 ≤ q ∧ q ≤ 4294967295 ∧ 0 ≤ m0 ∧ (q0 ≤ 4294967295 → m0 ≤ 18446744065119617025) ∧ (q0 ≤ 4294967296 → m1 ≤ 18446744065119617025) ∧ (1 ≤ q0 → 0 ≤ m1) ∧
      ((q0 < 4294967296 ∧ m0 ≤ 4294967296 * r0 + d ∧ q = q0) ∨
       ((4294967296 ≤ q0 ∨ (1 ≤ q0 ∧ q0 < 4294967296 ∧ 4294967296 * r0 + d < m0)) ∧ 4294967296 ≤ r0 + y1 ∧ q = q0 - 1) ∨
       ((4294967296 ≤ q0 ∨ (1 ≤ q0 ∧ q0 < 4294967296 ∧ 4294967296 * r0 + d < m0)) ∧ r0 + y1 < 4294967296 ∧ q0 - 1 < 4294967296 ∧ m1 ≤ 4294967296 * (r0 + y1) + d ∧ q = q0 - 1) ∨
       ((4294967296 ≤ q0 ∨ (1 ≤ q0 ∧ q0 < 4294967296 ∧ 4294967296 * r0 + d < m0)) ∧ r0 + y1 < 4294967296 ∧ (4294967296 ≤ q0 - 1 ∨ (2 ≤ q0 ∧ q0 - 1 < 4294967296 ∧ 4294967296 * (r0 + y1) + d < m1)) ∧ 4294967296 ≤ r0 + y1 + y1 ∧ q = q0 - 1 - 1)) := by
  obtain ⟨q0, hq0⟩ : ∃ q0, u.tdiv y1 = q0 := ⟨_, rfl⟩
  have hq0' : u / y1 = q0 := by rw [← hq0, Int.tdiv_eq_ediv_of_nonneg hu0]
  have e1 := Int.mul_ediv_add_emod u y1
  have e2 := Int.emod_nonneg u (show y1 ≠ 0 by omega)
  have e3 := Int.emod_lt_of_pos u (show 0 < y1 by omega)
  rw [hq0', Int.mul_comm] at e1
  have q0n : 0 ≤ q0 := by rw [← hq0']; exact Int.ediv_nonneg hu0 (by omega)
  have q0b : q0 < 4294967298 := by
    apply Int.lt_of_mul_lt (c := y1) (by omega)
    omega
  have p0n : 0 ≤ q0 * y1 := Int.mul_nonneg q0n (by omega)
  have m0n : 0 ≤ q0 * y0 := Int.mul_nonneg q0n h0
  have m0b : q0 * y0 ≤ 4294967297 * y0 := Int.mul_le_mul_of_nonneg_right (by omega) h0
  have m0c : q0 ≤ 4294967295 → q0 * y0 ≤ 18446744065119617025 := by
    intro h
    have : q0 * y0 ≤ 4294967295 * y0 := Int.mul_le_mul_of_nonneg_right (by omega) h0
    omega
  have m1e : (q0 - 1) * y0 = q0 * y0 - y0 := by rw [Int.sub_mul, Int.one_mul]
  have m1c : q0 ≤ 4294967296 → (q0 - 1) * y0 ≤ 18446744065119617025 := by
    intro h
    have : (q0 - 1) * y0 ≤ 4294967295 * y0 := Int.mul_le_mul_of_nonneg_right (by omega) h0
    omega
  have m1n : 1 ≤ q0 → 0 ≤ (q0 - 1) * y0 := fun h => Int.mul_nonneg (by omega) h0
  have ey : ∀ q : Int, q * y = (q * y1) * 4294967296 + q * y0 := by
    intro q; rw [hy, Int.mul_add, Int.mul_assoc]
  have ey0 := ey q0
  have big : 4294967296 ≤ q0 → 4294967296 * y ≤ q0 * y := fun h => Int.mul_le_mul_of_nonneg_right h (by omega)
  have big1 : 4294967296 ≤ q0 - 1 → 4294967296 * y ≤ (q0 - 1) * y := fun h => Int.mul_le_mul_of_nonneg_right h (by omega)
  have ey1 : (q0 - 1) * y = q0 * y - y := by rw [Int.sub_mul, Int.one_mul]
  have ey2 : (q0 - 1 - 1) * y = q0 * y - 2 * y := by rw [Int.sub_mul, Int.sub_mul]; omega
  have fin : ∀ q rem : Int, u * 4294967296 + d = q * y + rem → 0 ≤ rem → rem < y → 0 ≤ q ∧ q ≤ 4294967295 := by
    intro q rem h h2 h3
    constructor
    · have : (-1) * y < q * y := by omega
      have := Int.lt_of_mul_lt (c := y) (by omega) this
      omega
    · have : q * y < 4294967296 * y := by omega
      have := Int.lt_of_mul_lt (c := y) (by omega) this
      omega
  have mz : q0 = 0 → q0 * y0 = 0 := by rintro rfl; exact Int.zero_mul _
  have mz1 : q0 = 1 → (q0 - 1) * y0 = 0 := by rintro rfl; rw [show (1 : Int) - 1 = 0 by rfl]; exact Int.zero_mul _
  have done : ∀ q rem : Int, u * 4294967296 + d = q * y + rem → 0 ≤ rem → rem < y → _ → _ := fun q rem h h2 h3 h4 =>
    (⟨q0, q0 * y1, u % y1, q0 * y0, (q0 - 1) * y0, q, rem, hq0, rfl, by omega, rfl, rfl, q0n, by omega, p0n, by omega, e2, e3, h, h2, h3, (fin q rem h h2 h3).1, (fin q rem h h2 h3).2, m0n, m0c, m1c, m1n, h4⟩ : ∃ q0 p0 r0 m0 m1 q rem : Int, u.tdiv y1 = q0 ∧ q0 * y1 = p0 ∧ u - p0 = r0 ∧ q0 * y0 = m0 ∧ (q0 - 1) * y0 = m1 ∧ 0 ≤ q0 ∧ q0 ≤ 4294967297 ∧ 0 ≤ p0 ∧ p0 ≤ u ∧ 0 ≤ r0 ∧ r0 < y1 ∧
      u * 4294967296 + d = q * y + rem ∧ 0 ≤ rem ∧ rem < y ∧ 0 ≤ q ∧ q ≤ 4294967295 ∧ 0 ≤ m0 ∧ (q0 ≤ 4294967295 → m0 ≤ 18446744065119617025) ∧ (q0 ≤ 4294967296 → m1 ≤ 18446744065119617025) ∧ (1 ≤ q0 → 0 ≤ m1) ∧
      ((q0 < 4294967296 ∧ m0 ≤ 4294967296 * r0 + d ∧ q = q0) ∨
       ((4294967296 ≤ q0 ∨ (1 ≤ q0 ∧ q0 < 4294967296 ∧ 4294967296 * r0 + d < m0)) ∧ 4294967296 ≤ r0 + y1 ∧ q = q0 - 1) ∨
       ((4294967296 ≤ q0 ∨ (1 ≤ q0 ∧ q0 < 4294967296 ∧ 4294967296 * r0 + d < m0)) ∧ r0 + y1 < 4294967296 ∧ q0 - 1 < 4294967296 ∧ m1 ≤ 4294967296 * (r0 + y1) + d ∧ q = q0 - 1) ∨
       ((4294967296 ≤ q0 ∨ (1 ≤ q0 ∧ q0 < 4294967296 ∧ 4294967296 * r0 + d < m0)) ∧ r0 + y1 < 4294967296 ∧ (4294967296 ≤ q0 - 1 ∨ (2 ≤ q0 ∧ q0 - 1 < 4294967296 ∧ 4294967296 * (r0 + y1) + d < m1)) ∧ 4294967296 ≤ r0 + y1 + y1 ∧ q = q0 - 1 - 1)))
  generalize hqy : q0 * y = qy at *
  generalize q0 * y1 = p0 at *
  generalize hm0 : q0 * y0 = m0 at *
  generalize (q0 - 1) * y0 = m1 at *
  generalize u % y1 = r0 at *
  by_cases c0 : q0 < 4294967296 ∧ m0 ≤ 4294967296 * r0 + d
  · exact done q0 (u * 4294967296 + d - qy) (by rw [hqy]; omega) (by omega) (by omega) (Or.inl ⟨c0.1, c0.2, rfl⟩)
  · have k0 : 4294967296 ≤ q0 ∨ (1 ≤ q0 ∧ q0 < 4294967296 ∧ 4294967296 * r0 + d < m0) := by omega
    have n0 : u * 4294967296 + d - qy < 0 := by omega
    by_cases c1 : 4294967296 ≤ r0 + y1
    · exact done (q0 - 1) (u * 4294967296 + d - (qy - y)) (by omega) (by omega) (by omega) (Or.inr (Or.inl ⟨k0, c1, rfl⟩))
    · by_cases c2 : q0 - 1 < 4294967296 ∧ m1 ≤ 4294967296 * (r0 + y1) + d
      · exact done (q0 - 1) (u * 4294967296 + d - (qy - y)) (by omega) (by omega) (by omega) (Or.inr (Or.inr (Or.inl ⟨k0, by omega, c2.1, c2.2, rfl⟩)))
      · exact done (q0 - 1 - 1) (u * 4294967296 + d - (qy - 2 * y)) (by omega) (by omega) (by omega) (Or.inr (Or.inr (Or.inr ⟨k0, by omega, by omega, by omega, rfl⟩)))
end Go.Proofs.YtkmgfbhnioojhaaGreat.Fl

/- Roots: what the rounded one is; bit by bit. (plain; no program) -/
namespace Go.Proofs.YtkmgfbhnioojhaaGreat.Fl
set_option linter.unusedSimpArgs false
set_option linter.unusedVariables false

/-- What is whole of a root. -/
def isq : Nat → Nat
  | 0 => 0
  | n + 1 => if (isq n + 1) * (isq n + 1) ≤ n + 1 then isq n + 1 else isq n

theorem isq_spec (n : Nat) : isq n * isq n ≤ n ∧ n < (isq n + 1) * (isq n + 1) := by
  induction n with
  | zero => exact ⟨Nat.le_refl _, by decide⟩
  | succ n ih =>
    unfold isq
    split
    · rename_i h
      refine ⟨h, ?_⟩
      have e : (isq n + 1 + 1) * (isq n + 1 + 1) = (isq n + 1) * (isq n + 1) + 2 * (isq n + 1) + 1 := by
        rw [Nat.add_mul (isq n + 1) 1, Nat.mul_add (isq n + 1), Nat.mul_one, Nat.one_mul]; omega
      omega
    · rename_i h
      exact ⟨by omega, by omega⟩

theorem isq_le {k n : Nat} : k * k ≤ n ↔ k ≤ isq n := by
  have h := isq_spec n
  constructor
  · intro hk
    rcases Nat.lt_or_ge (isq n) k with c | c
    · have := Nat.mul_self_le_mul_self (show isq n + 1 ≤ k from c)
      omega
    · exact c
  · intro hk
    have := Nat.mul_self_le_mul_self hk
    omega

def RootInv (T r : Int) (k : Nat) : Prop := 0 ≤ r ∧ (∃ q, r = 2 ^ k * q) ∧ r + 2 ^ k ≤ 18446744073709551616 ∧ r * r ≤ T ∧ T < (r + 2 ^ k) * (r + 2 ^ k)

/-- The root of the machine. -/
def fsq (a : Nat) (w : World) : Nat :=
  match FloatKind.f64.format.sqrt a with
  | some r => r
  | none => (Question.nanBits .f64 a a).cut (w.tape w.drawn (.nanBits .f64 a a))
def nsq (a : Nat) : Nat := if (FloatKind.f64.format.sqrt a).isSome then 0 else 1

end Go.Proofs.YtkmgfbhnioojhaaGreat.Fl

/- Rounded to either side: the order of what comes out; mirrored. (plain; no program) -/
namespace Go.Proofs.YtkmgfbhnioojhaaGreat.Fl
set_option linter.unusedSimpArgs false
set_option linter.unusedVariables false

/-- The place of what is rounded. -/
def plc (S : Int) (D : Nat) (dir : Int) : Int := if S < 0 then -(rungOf S.natAbs D (-dir) : Int) else (rungOf S.natAbs D dir : Int)

theorem rnd_eq (S : Int) (D : Nat) (dir : Int) : rnd S D dir = bitsOf (plc S D dir) := by
  unfold rnd plc
  by_cases h : S < 0 <;> simp [h]

theorem plc_le (S : Int) (D : Nat) (dir : Int) : -9218868437227405312 ≤ plc S D dir ∧ plc S D dir ≤ 9218868437227405312 := by
  have h1 := rungOf_le S.natAbs D dir
  have h2 := rungOf_le S.natAbs D (-dir)
  unfold INFR at h1 h2
  unfold plc
  split <;> omega

theorem plc_neg {S : Int} {D : Nat} (hD : 0 < D) (dir : Int) : plc (-S) D dir = - plc S D (-dir) := by
  unfold plc
  rw [Int.natAbs_neg]
  rcases Int.lt_trichotomy S 0 with h | h | h
  · rw [if_neg (by omega), if_pos h]; simp
  · subst h; simp [rungOf_zero D hD]
  · rw [if_pos (by omega), if_neg (by omega)]

/-- A place's own float. -/
theorem nan_bits {i : Int} (h1 : -9218868437227405312 ≤ i) (h2 : i ≤ 9218868437227405312) : nan (bitsOf i) = false ∧ idx (bitsOf i) = i ∧ bitsOf i < 18446744073709551616 := by
  have e := idx_bitsOf (i := i) (by unfold INFR; omega) (by unfold INFR; omega)
  exact ⟨e.2.1, e.1, e.2.2⟩

theorem infW_lt (s : Bool) : infW s < 18446744073709551616 := word_lt _ (by decide)

theorem finB_fneg (x : Nat) : finB (fneg x) = finB x := by unfold finB; rw [rung_fneg]

end Go.Proofs.YtkmgfbhnioojhaaGreat.Fl

/- The reference's rounding: by the greatest place that is not above an exact amount. (plain; no program) -/
namespace Go.Proofs.YtkmgfbhnioojhaaGreat.Fl
set_option linter.unusedSimpArgs false
set_option linter.unusedVariables false

/-- The amount at a place, signed, in units of 2^-1074. -/
def pv (i : Int) : Int := if i < 0 then -(G (-i).toNat : Int) else (G i.toNat : Int)

theorem pv_neg {i : Int} (h : i < 0) : pv i = -(G (-i).toNat : Int) := if_pos h
theorem pv_pos {i : Int} (h : 0 ≤ i) : pv i = (G i.toNat : Int) := if_neg (by omega)
theorem pv_lt {i : Int} (h : i < 0) : pv i < 0 := by
  rw [pv_neg h]
  have := G_pos (r := (-i).toNat) (by omega)
  omega
theorem pv_ge {i : Int} (h : 0 ≤ i) : 0 ≤ pv i := by rw [pv_pos h]; omega

theorem val_bits {i : Int} (h1 : -9218868437227405312 ≤ i) (h2 : i ≤ 9218868437227405312) : val (bitsOf i) = pv i := by
  unfold val pv
  by_cases hi : i < 0
  · have e : bitsOf i = word true (-i).toNat := by unfold bitsOf word; simp [hi]
    rw [e, sgn_word true (by unfold SW; omega), rung_word true (by unfold SW; omega), if_pos hi]; rfl
  · have e : bitsOf i = word false i.toNat := by unfold bitsOf word; simp [hi]
    rw [e, sgn_word false (by unfold SW; omega), rung_word false (by unfold SW; omega), if_neg hi]; rfl

/-- The greatest place that is not above S / D; that of -infinity where none is. -/
def FloorAt (S : Int) (D : Nat) (d : Int) : Prop :=
  -9218868437227405312 ≤ d ∧ d ≤ 9218868437227405311 ∧ (d = -9218868437227405312 ∨ pv d * D ≤ S) ∧ (d = 9218868437227405311 ∨ S < pv (d + 1) * D)

/-- The place that the reference picks. -/
def pick (S : Int) (D : Nat) (d dir : Int) : Int :=
  if (d ≠ -9218868437227405312 ∧ pv d * D = S) ∨ dir < 0 then d
  else if 0 < dir then d + 1
  else if (pv d + pv (d + 1)) * D = 2 * S then (if d % 2 = 0 then d else d + 1)
  else if (pv d + pv (d + 1)) * D ≤ 2 * S then d + 1
  else d

theorem mul_nn {a : Int} {D : Nat} (h : 0 ≤ a) : 0 ≤ a * (D : Int) := Int.mul_nonneg h (by omega)
theorem mul_np {a : Int} {D : Nat} (h : a ≤ 0) : a * (D : Int) ≤ 0 := Int.mul_nonpos_of_nonpos_of_nonneg h (by omega)

theorem pick_pos {S : Int} {D : Nat} {d dir : Int} (h : FloorAt S D d) (hD : 0 < D) (hS : 0 ≤ S) : pick S D d dir = plc S D dir := by
  obtain ⟨h1, h2, h3, h4⟩ := h
  have hd : 0 ≤ d := by
    refine Int.le_of_not_gt fun hn => ?_
    rcases h4 with h4 | h4
    · omega
    · by_cases c : d + 1 < 0
      · have := mul_np (D := D) (Int.le_of_lt (pv_lt c)); omega
      · have : d + 1 = 0 := by omega
        rw [this] at h4
        have : pv 0 = 0 := by decide
        rw [this, Int.zero_mul] at h4; omega
  obtain ⟨r, rfl⟩ := Int.eq_ofNat_of_zero_le hd
  obtain ⟨N, rfl⟩ := Int.eq_ofNat_of_zero_le hS
  have p1 : pv (r : Int) = (G r : Int) := by rw [pv_pos (by omega)]; simp
  have p2 : pv ((r : Int) + 1) = (G (r + 1) : Int) := by
    rw [pv_pos (by omega)]; congr 1
  rw [p1] at h3
  rw [p2] at h4
  have f : flr N D = r := by
    refine flr_eq (by unfold INFR; omega) ?_ ?_
    · rcases h3 with h3 | h3
      · omega
      · exact Int.ofNat_le.1 (by rw [Int.natCast_mul]; exact h3)
    · rcases h4 with h4 | h4
      · left; unfold INFR; omega
      · right; exact Int.ofNat_lt.1 (by rw [Int.natCast_mul]; exact h4)
  unfold pick plc rungOf
  rw [if_neg (show ¬ ((N : Int) < 0) by omega), Int.natAbs_natCast, f, p1, p2]
  have e1 : ((G r : Int) * (D : Int) = (N : Int)) ↔ G r * D = N := by rw [← Int.natCast_mul]; omega
  have e2 : ((G r : Int) + (G (r + 1) : Int)) * (D : Int) = (((G r + G (r + 1)) * D : Nat) : Int) := by simp
  rw [e2]
  simp only [e1]
  generalize (G r + G (r + 1)) * D = X
  generalize G r * D = Y
  clear e1 e2 h3 h4 p1 p2 f
  have : (r : Int) ≠ -9218868437227405312 := by omega
  repeat' split
  all_goals omega

theorem pick_neg {S : Int} {D : Nat} {d dir : Int} (h : FloorAt S D d) (hD : 0 < D) (hS : S < 0) : pick S D d dir = plc S D dir := by
  obtain ⟨h1, h2, h3, h4⟩ := h
  have hd : d < 0 := by
    refine Int.lt_of_not_ge fun hn => ?_
    rcases h3 with h3 | h3
    · omega
    · have := mul_nn (D := D) (pv_ge hn); omega
  obtain ⟨q, hq, rfl⟩ : ∃ q : Nat, 1 ≤ q ∧ d = -(q : Int) := ⟨(-d).toNat, by omega, by omega⟩
  obtain ⟨N, hN, rfl⟩ : ∃ N : Nat, 1 ≤ N ∧ S = -(N : Int) := ⟨(-S).toNat, by omega, by omega⟩
  have p1 : pv (-(q : Int)) = -(G q : Int) := by rw [pv_neg (by omega)]; simp
  have p2 : pv (-(q : Int) + 1) = -(G (q - 1) : Int) := by
    by_cases c : q = 1
    · subst c; decide
    · rw [pv_neg (by omega)]; congr 3; omega
  rw [p1, Int.neg_mul, ← Int.natCast_mul] at h3
  rw [p2, Int.neg_mul, ← Int.natCast_mul] at h4
  have g4 : G (q - 1) * D < N := by rcases h4 with h4 | h4 <;> omega
  have e2 : (-(G q : Int) + -(G (q - 1) : Int)) * (D : Int) = -(((G (q - 1) + G q) * D : Nat) : Int) := by
    rw [← Int.neg_add, Int.neg_mul, Int.add_comm]; simp
  have e1 : -(G q : Int) * (D : Int) = -((G q * D : Nat) : Int) := by rw [Int.neg_mul, ← Int.natCast_mul]
  unfold pick plc rungOf
  rw [if_pos (show (-(N : Int) < 0) by omega), Int.natAbs_neg, Int.natAbs_natCast, p1, p2, e1, e2]
  by_cases c : q ≠ 9218868437227405312 ∧ G q * D = N
  · have f : flr N D = q := by
      refine flr_eq (by unfold INFR; omega) (by omega) (Or.inr ?_)
      rw [← c.2]; exact Nat.mul_lt_mul_of_pos_right (G_succ q) hD
    rw [f, if_pos (by omega), if_pos c.2]
  · have f : flr N D = q - 1 := by
      refine flr_eq (by unfold INFR; omega) (by omega) ?_
      rw [show q - 1 + 1 = q by omega]
      by_cases c2 : q = 9218868437227405312
      · left; exact c2
      · right
        rcases h3 with h3 | h3
        · omega
        · have : G q * D ≠ N := fun hh => c ⟨c2, hh⟩
          omega
    rw [f, show q - 1 + 1 = q by omega]
    generalize (G (q - 1) + G q) * D = X
    generalize G (q - 1) * D = Y at *
    generalize G q * D = Z at *
    clear e1 e2 p1 p2 f h4
    rcases h3 with h3 | h3
    · repeat' split
      all_goals omega
    · repeat' split
      all_goals omega

/-- **The reference's rounding is the exact amount's.** -/
theorem pick_eq {S : Int} {D : Nat} {d dir : Int} (h : FloorAt S D d) (hD : 0 < D) : bitsOf (pick S D d dir) = rnd S D dir := by
  rw [rnd_eq]
  congr 1
  by_cases hS : S < 0
  · exact pick_neg h hD hS
  · exact pick_pos h hD (by omega)

theorem plc_ratio {S T : Int} {D E : Nat} (dir : Int) (hD : 0 < D) (hE : 0 < E) (h : S * E = T * D) : plc S D dir = plc T E dir := by
  have hn : S.natAbs * E = T.natAbs * D := by
    rw [natAbs_scale, natAbs_scale, h]
  have hs : S < 0 ↔ T < 0 := by
    have d0 : (0 : Int) < (D : Int) := by omega
    have e0 : (0 : Int) < (E : Int) := by omega
    constructor
    · intro hh
      have := Int.mul_lt_mul_of_pos_right hh e0
      rw [h, Int.zero_mul] at this
      refine Int.lt_of_not_ge fun h' => ?_
      have := Int.mul_nonneg h' (Int.le_of_lt d0); omega
    · intro hh
      have := Int.mul_lt_mul_of_pos_right hh d0
      rw [← h, Int.zero_mul] at this
      refine Int.lt_of_not_ge fun h' => ?_
      have := Int.mul_nonneg h' (Int.le_of_lt e0); omega
  unfold plc
  rw [rungOf_ratio (-dir) hD hE hn, rungOf_ratio dir hD hE hn]
  by_cases c : S < 0
  · rw [if_pos c, if_pos (hs.1 c)]
  · rw [if_neg c, if_neg (fun hh => c (hs.2 hh))]

theorem rnd_ratio {S T : Int} {D E : Nat} (dir : Int) (hD : 0 < D) (hE : 0 < E) (h : S * E = T * D) : rnd S D dir = rnd T E dir := by
  rw [rnd_eq, rnd_eq, plc_ratio dir hD hE h]
end Go.Proofs.YtkmgfbhnioojhaaGreat.Fl

/- Whole numbers of any length, by digits of 32 bits. (plain; no program) -/
namespace Go.Proofs.YtkmgfbhnioojhaaGreat.Fl
set_option linter.unusedSimpArgs false
set_option linter.unusedVariables false

def n32 : List Nat → Nat
  | [] => 0
  | d :: l => d + 4294967296 * n32 l
def Dig (l : List Nat) : Prop := ∀ i, l.getD i 0 < 4294967296
def Top (l : List Nat) : Prop := 0 < l.length → l.getD (l.length - 1) 0 ≠ 0
/-- A power of 2^32. -/
def bp (k : Nat) : Nat := 4294967296 ^ k
theorem bp_succ (k : Nat) : bp (k + 1) = 4294967296 * bp k := by unfold bp; rw [Nat.pow_succ, Nat.mul_comm]
theorem bp_zero : bp 0 = 1 := rfl
theorem bp_pos (k : Nat) : 0 < bp k := Nat.pow_pos (by decide)
theorem bp_add (j k : Nat) : bp (j + k) = bp j * bp k := Nat.pow_add _ _ _
theorem bp_pw (k : Nat) : bp k = pw (32 * k) := by
  rw [pw_eq]; unfold bp
  rw [show (4294967296 : Nat) = 2 ^ 32 from rfl, ← Nat.pow_mul]
theorem bp_le {j k : Nat} (h : j ≤ k) : bp j ≤ bp k := Nat.pow_le_pow_right (by decide) h
attribute [irreducible] bp

theorem n32_append (l m : List Nat) : n32 (l ++ m) = n32 l + bp l.length * n32 m := by
  induction l with
  | nil => simp [n32, bp_zero]
  | cons d l ih =>
    simp only [List.cons_append, n32, ih, List.length_cons, bp_succ, Nat.mul_add, Nat.mul_assoc, Nat.add_assoc]
theorem n32_snoc (l : List Nat) (d : Nat) : n32 (l ++ [d]) = n32 l + bp l.length * d := by rw [n32_append]; simp [n32]

theorem dig_cons {d : Nat} {l : List Nat} : Dig (d :: l) ↔ d < 4294967296 ∧ Dig l := by
  constructor
  · intro h; exact ⟨by simpa using h 0, fun i => by simpa using h (i + 1)⟩
  · rintro ⟨h1, h2⟩ i
    cases i with
    | zero => simpa using h1
    | succ i => simpa using h2 i
theorem dig_nil : Dig [] := fun i => by simp
theorem dig_append {l m : List Nat} (h1 : Dig l) (h2 : Dig m) : Dig (l ++ m) := by
  induction l with
  | nil => exact h2
  | cons d l ih =>
    have := dig_cons.1 h1
    exact dig_cons.2 ⟨this.1, ih this.2⟩
theorem dig_snoc {l : List Nat} {d : Nat} (h1 : Dig l) (h2 : d < 4294967296) : Dig (l ++ [d]) := dig_append h1 (dig_cons.2 ⟨h2, dig_nil⟩)
theorem getD_take {l : List Nat} {k i : Nat} (h : i < k) : (l.take k).getD i 0 = l.getD i 0 := by
  simp only [List.getD_eq_getElem?_getD]
  rw [List.getElem?_take_of_lt h]
theorem dig_take {l : List Nat} (h : Dig l) (k : Nat) : Dig (l.take k) := by
  intro i
  by_cases c : i < k
  · rw [getD_take c]; exact h i
  · have : (l.take k).getD i 0 = 0 := by
      simp only [List.getD_eq_getElem?_getD]
      rw [List.getElem?_eq_none (by simp; omega)]; rfl
    rw [this]; decide
theorem dig_set {l : List Nat} (h : Dig l) {d : Nat} (hd : d < 4294967296) (k : Nat) : Dig (l.set k d) := by
  intro i
  simp only [List.getD_eq_getElem?_getD, List.getElem?_set]
  have := h i
  simp only [List.getD_eq_getElem?_getD] at this
  split
  · split
    · simpa using hd
    · simp
  · exact this
theorem dig_zeros (k : Nat) : Dig (List.replicate k 0) := by
  intro i
  simp only [List.getD_eq_getElem?_getD, List.getElem?_replicate]
  split <;> simp
theorem n32_zeros (k : Nat) : n32 (List.replicate k 0) = 0 := by
  induction k with
  | zero => rfl
  | succ k ih => simp [List.replicate_succ, n32, ih]

theorem n32_lt {l : List Nat} (h : Dig l) : n32 l < bp l.length := by
  induction l with
  | nil => rw [List.length_nil, bp_zero]; decide
  | cons d l ih =>
    have := dig_cons.1 h
    have := ih this.2
    rw [List.length_cons, bp_succ]
    simp only [n32]
    omega

/-- One digit more of the lower ones. -/
theorem n32_take (l : List Nat) (k : Nat) : n32 (l.take (k + 1)) = n32 (l.take k) + bp k * l.getD k 0 := by
  by_cases h : k < l.length
  · rw [List.take_succ_eq_append_getElem h, n32_snoc, List.length_take, Nat.min_eq_left (Nat.le_of_lt h)]
    simp [List.getD_eq_getElem?_getD, h]
  · rw [List.take_of_length_le (by omega), List.take_of_length_le (by omega)]
    simp only [List.getD_eq_getElem?_getD]
    rw [List.getElem?_eq_none (by omega)]; simp
theorem n32_parts (l : List Nat) (k : Nat) (h : k ≤ l.length) : n32 l = n32 (l.take k) + bp k * n32 (l.drop k) := by
  have := n32_append (l.take k) (l.drop k)
  rw [List.take_append_drop, List.length_take, Nat.min_eq_left h] at this
  exact this

theorem n32_top {l : List Nat} (h : Top l) (hl : 0 < l.length) : bp (l.length - 1) ≤ n32 l := by
  have h1 := h hl
  have h2 := n32_take l (l.length - 1)
  rw [show l.length - 1 + 1 = l.length by omega, List.take_length] at h2
  rw [h2]
  have : bp (l.length - 1) ≤ bp (l.length - 1) * l.getD (l.length - 1) 0 := Nat.le_mul_of_pos_right _ (Nat.pos_of_ne_zero h1)
  omega
theorem n32_nil {l : List Nat} (h : Top l) : n32 l = 0 ↔ l.length = 0 := by
  constructor
  · intro h0
    refine Nat.eq_zero_of_not_pos fun hl => ?_
    have := n32_top h hl
    have := bp_pos (l.length - 1)
    omega
  · intro hl
    have : l = [] := List.length_eq_zero_iff.1 hl
    rw [this]; rfl
/-- How many digits. -/
theorem len_le {l : List Nat} (h : Top l) {k : Nat} (hn : n32 l < bp k) : l.length ≤ k := by
  refine Nat.le_of_not_lt fun hk => ?_
  have h1 := n32_top h (by omega)
  have h2 := bp_le (show k ≤ l.length - 1 by omega)
  omega
theorem len_mono {l m : List Nat} (h : Top l) (hm : Dig m) (hn : n32 l ≤ n32 m) : l.length ≤ m.length := len_le h (Nat.lt_of_le_of_lt hn (n32_lt hm))

/-- What is above decides. -/
theorem cmp_at {l m : List Nat} {i : Nat} (hl : Dig l) (hm : Dig m) (e : l.length = m.length) (hi : i < l.length) (hd : l.drop (i + 1) = m.drop (i + 1)) (h : l.getD i 0 < m.getD i 0) : n32 l < n32 m := by
  rw [n32_parts l (i + 1) (by omega), n32_parts m (i + 1) (by omega), hd, n32_take, n32_take]
  have h1 := n32_lt (dig_take hl i)
  rw [List.length_take, Nat.min_eq_left (by omega)] at h1
  have h2 : bp i * (l.getD i 0 + 1) ≤ bp i * m.getD i 0 := Nat.mul_le_mul_left _ h
  rw [Nat.mul_add, Nat.mul_one] at h2
  omega

theorem n32_set (l : List Nat) (k d : Nat) (h : k < l.length) : n32 (l.set k d) + bp k * l.getD k 0 = n32 l + bp k * d := by
  have e1 := n32_parts (l.set k d) (k + 1) (by simp; omega)
  have e2 := n32_parts l (k + 1) (by omega)
  rw [n32_take] at e1 e2
  have t : (l.set k d).take k = l.take k := by rw [List.take_set, List.set_eq_of_length_le (by simp; exact Nat.min_le_left _ _)]
  have u : (l.set k d).drop (k + 1) = l.drop (k + 1) := by rw [List.drop_set, if_pos (by omega)]
  have v : (l.set k d).getD k 0 = d := by simp [List.getD_eq_getElem?_getD, h]
  rw [t, u, v] at e1
  rw [e1, e2]; omega

/-! ### A round of each -/

theorem plus_round {L a b : List Nat} {c k s : Nat} (hL : L.length = k) (h : n32 L + bp k * c = n32 (a.take k) + n32 (b.take k)) (hs : s = c + a.getD k 0 + b.getD k 0) :
    n32 (L ++ [s % 4294967296]) + bp (k + 1) * (s / 4294967296) = n32 (a.take (k + 1)) + n32 (b.take (k + 1)) := by
  rw [n32_snoc, hL, n32_take, n32_take, bp_succ]
  have e : bp k * (s % 4294967296) + 4294967296 * bp k * (s / 4294967296) = bp k * s := by
    have e1 : 4294967296 * bp k * (s / 4294967296) = bp k * (4294967296 * (s / 4294967296)) := by simp only [Nat.mul_assoc, Nat.mul_comm, Nat.mul_left_comm]
    rw [e1, ← Nat.mul_add]; congr 1; omega
  have e2 : bp k * s = bp k * c + bp k * a.getD k 0 + bp k * b.getD k 0 := by rw [hs, Nat.mul_add, Nat.mul_add]
  omega


/-- Borrowed: what was taken off is more by B^k c. -/
theorem less_step {L a b : List Nat} {c c' k d : Nat} (hL : L.length = k) (h : n32 L + n32 (b.take k) = n32 (a.take k) + bp k * c) (hd : d + b.getD k 0 + c = a.getD k 0 + 4294967296 * c') :
    n32 (L ++ [d]) + n32 (b.take (k + 1)) = n32 (a.take (k + 1)) + bp (k + 1) * c' := by
  rw [n32_snoc, hL, n32_take, n32_take, bp_succ]
  have e : bp k * d + bp k * b.getD k 0 + bp k * c = bp k * a.getD k 0 + 4294967296 * bp k * c' := by
    rw [← Nat.mul_add, ← Nat.mul_add, hd, Nat.mul_add]
    congr 1
    simp only [Nat.mul_assoc, Nat.mul_comm, Nat.mul_left_comm]
  omega
theorem less_end {L a b : List Nat} {c : Nat} (hL : L.length = a.length) (hd : Dig L) (hb : Top b) (ha : Dig a) (hle : n32 b ≤ n32 a)
    (h : n32 L + n32 (b.take a.length) = n32 (a.take a.length) + bp a.length * c) : n32 L = n32 a - n32 b := by
  have l1 := len_mono hb ha hle
  rw [List.take_of_length_le l1, List.take_length] at h
  have l2 := n32_lt hd
  rw [hL] at l2
  have : c = 0 := by
    refine Nat.eq_zero_of_not_pos fun hc => ?_
    have : bp a.length ≤ bp a.length * c := Nat.le_mul_of_pos_right _ hc
    omega
  subst this
  omega

/-- Products: one digit more. -/
theorem by_round {O a b : List Nat} {i j c n : Nat} (hij : i + j < O.length) (h : n32 O + bp (i + j) * c = n32 (a.take i) * n32 b + bp i * a.getD i 0 * n32 (b.take j)) (hn : n = a.getD i 0 * b.getD j 0 + O.getD (i + j) 0 + c) :
    n32 (O.set (i + j) (n % 4294967296)) + bp (i + (j + 1)) * (n / 4294967296) = n32 (a.take i) * n32 b + bp i * a.getD i 0 * n32 (b.take (j + 1)) := by
  have hs := n32_set O (i + j) (n % 4294967296) hij
  rw [n32_take, ← Nat.add_assoc, bp_succ]
  have e : bp (i + j) * (n % 4294967296) + 4294967296 * bp (i + j) * (n / 4294967296) = bp (i + j) * n := by
    have e1 : 4294967296 * bp (i + j) * (n / 4294967296) = bp (i + j) * (4294967296 * (n / 4294967296)) := by simp only [Nat.mul_assoc, Nat.mul_comm, Nat.mul_left_comm]
    rw [e1, ← Nat.mul_add]; congr 1; omega
  have e2 : bp (i + j) * n = bp (i + j) * (a.getD i 0 * b.getD j 0) + bp (i + j) * O.getD (i + j) 0 + bp (i + j) * c := by rw [hn, Nat.mul_add, Nat.mul_add]
  have e3 : bp i * a.getD i 0 * (n32 (b.take j) + bp j * b.getD j 0) = bp i * a.getD i 0 * n32 (b.take j) + bp (i + j) * (a.getD i 0 * b.getD j 0) := by
    rw [Nat.mul_add, bp_add]; congr 1; simp only [Nat.mul_assoc, Nat.mul_comm, Nat.mul_left_comm]
  omega
theorem by_end {O a b : List Nat} {i c : Nat} (hi : i + b.length < O.length) (hz : O.getD (i + b.length) 0 = 0) (h : n32 O + bp (i + b.length) * c = n32 (a.take i) * n32 b + bp i * a.getD i 0 * n32 (b.take b.length)) :
    n32 (O.set (i + b.length) c) = n32 (a.take (i + 1)) * n32 b := by
  have hs := n32_set O (i + b.length) c hi
  rw [hz, Nat.mul_zero] at hs
  rw [List.take_length] at h
  rw [n32_take, Nat.add_mul]
  omega

/-- To the left: one digit more. -/
theorem left_round {O a : List Nat} {q s k c t : Nat} (hO : O.length = q + k) (h : n32 O + bp (q + k) * c = bp q * 2 ^ s * n32 (a.take k)) (ht : t = c + a.getD k 0 * 2 ^ s) :
    n32 (O ++ [t % 4294967296]) + bp (q + (k + 1)) * (t / 4294967296) = bp q * 2 ^ s * n32 (a.take (k + 1)) := by
  rw [n32_snoc, hO, n32_take, ← Nat.add_assoc, bp_succ]
  have e : bp (q + k) * (t % 4294967296) + 4294967296 * bp (q + k) * (t / 4294967296) = bp (q + k) * t := by
    have e1 : 4294967296 * bp (q + k) * (t / 4294967296) = bp (q + k) * (4294967296 * (t / 4294967296)) := by simp only [Nat.mul_assoc, Nat.mul_comm, Nat.mul_left_comm]
    rw [e1, ← Nat.mul_add]; congr 1; omega
  have e2 : bp (q + k) * t = bp (q + k) * c + bp (q + k) * (a.getD k 0 * 2 ^ s) := by rw [ht, Nat.mul_add]
  have e3 : bp q * 2 ^ s * (n32 (a.take k) + bp k * a.getD k 0) = bp q * 2 ^ s * n32 (a.take k) + bp (q + k) * (a.getD k 0 * 2 ^ s) := by
    rw [Nat.mul_add, bp_add]; congr 1; simp only [Nat.mul_assoc, Nat.mul_comm, Nat.mul_left_comm]
  omega
theorem left_carry {s c d : Nat} (hs : s < 32) (hc : c < 2 ^ s) (hd : d < 4294967296) : c + d * 2 ^ s < 4294967296 * 2 ^ s ∧ (c + d * 2 ^ s) / 4294967296 < 2 ^ s := by
  have h1 : (d + 1) * 2 ^ s ≤ 4294967296 * 2 ^ s := Nat.mul_le_mul_right _ hd
  rw [Nat.add_mul, Nat.one_mul] at h1
  have h2 : c + d * 2 ^ s < 4294967296 * 2 ^ s := by omega
  exact ⟨h2, by rw [Nat.div_lt_iff_lt_mul (by decide), Nat.mul_comm (2 ^ s)]; exact h2⟩

theorem blen_bits {l : List Nat} (hd : Dig l) (h : Top l) (hl : 0 < l.length) : blen (n32 l) = 32 * (l.length - 1) + blen (l.getD (l.length - 1) 0) := by
  have h1 := h hl
  have h2 := n32_take l (l.length - 1)
  rw [show l.length - 1 + 1 = l.length by omega, List.take_length] at h2
  have h3 := n32_lt (dig_take hd (l.length - 1))
  rw [List.length_take, Nat.min_eq_left (by omega)] at h3
  generalize n32 (l.take (l.length - 1)) = x at *
  generalize l.getD (l.length - 1) 0 = d at *
  generalize l.length - 1 = k at *
  rw [h2]
  have p := blen_pos h1
  have a1 := blen_ge h1
  have a2 := blen_lt d
  rw [bp_pw, pw_eq] at *
  have e : 32 * k + blen d = (32 * k + (blen d - 1)) + 1 := by omega
  rw [e]
  apply blen_unique
  · rw [Nat.pow_add]
    have := Nat.mul_le_mul_left (2 ^ (32 * k)) a1
    omega
  · rw [show 32 * k + (blen d - 1) + 1 = 32 * k + blen d by omega, Nat.pow_add]
    have : 2 ^ (32 * k) * (d + 1) ≤ 2 ^ (32 * k) * 2 ^ blen d := Nat.mul_le_mul_left _ a2
    rw [Nat.mul_add, Nat.mul_one] at this
    omega
end Go.Proofs.YtkmgfbhnioojhaaGreat.Fl

/- Numbers M 2^E of the reference: their amounts, compared and added. (plain; no program) -/
namespace Go.Proofs.YtkmgfbhnioojhaaGreat.Fl
set_option linter.unusedSimpArgs false
set_option linter.unusedVariables false

/-- The amount in units of 2^-K. -/
def nv (K : Int) (s : Bool) (m : Nat) (e : Int) : Int := if s then -((m * pw (e + K).toNat : Nat) : Int) else ((m * pw (e + K).toNat : Nat) : Int)
def sgnI (s : Bool) (m : Nat) : Int := if m = 0 then 0 else if s then -1 else 1
def ordI (a b : Int) : Int := if a < b then -1 else if b < a then 1 else 0
def cmpI (m n : Nat) : Int := if m < n then -1 else if n < m then 1 else 0

theorem nv_zero (K : Int) (s : Bool) (e : Int) : nv K s 0 e = 0 := by unfold nv; cases s <;> simp

theorem nv_pos (K : Int) {m : Nat} (e : Int) (h : m ≠ 0) : 0 < m * pw (e + K).toNat := Nat.mul_pos (Nat.pos_of_ne_zero h) (pw_pos _)

/-- To another exponent. -/
theorem nv_level {K : Int} (s : Bool) (m : Nat) {e d : Int} (h1 : 0 ≤ d + K) (h2 : d ≤ e) : nv K s (m * 2 ^ (e - d).toNat) d = nv K s m e := by
  unfold nv
  have : m * 2 ^ (e - d).toNat * pw (d + K).toNat = m * pw (e + K).toNat := by
    rw [← pw_eq, Nat.mul_assoc, ← pw_add]; congr 2; omega
  rw [this]

theorem ord_scaled {a b : Nat} {p : Nat} (hp : 0 < p) : cmpI (a * p) (b * p) = cmpI a b := by
  unfold cmpI
  simp only [Nat.mul_lt_mul_right hp]

theorem ordI_nat (a b : Nat) : ordI (a : Int) (b : Int) = cmpI a b := by
  unfold ordI cmpI
  simp only [Int.ofNat_lt]
theorem ordI_neg (a b : Int) : ordI (-a) (-b) = - ordI a b := by
  unfold ordI
  repeat' split
  all_goals omega

/-- Held against each other by their bits. -/
theorem bits_lt {K : Int} {m n : Nat} {e f : Int} (hm : m ≠ 0) (hn : n ≠ 0) (he : 0 ≤ e + K) (hf : 0 ≤ f + K) (h : (blen m : Int) + e < blen n + f) : m * pw (e + K).toNat < n * pw (f + K).toNat := by
  have h1 := blen_lt m
  have h2 := blen_ge hn
  have h3 := blen_pos hn
  rw [← pw_eq] at h1 h2
  have a1 : m * pw (e + K).toNat < pw (blen m) * pw (e + K).toNat := Nat.mul_lt_mul_of_pos_right h1 (pw_pos _)
  have a2 : pw (blen n - 1) * pw (f + K).toNat ≤ n * pw (f + K).toNat := Nat.mul_le_mul_right _ h2
  rw [← pw_add] at a1 a2
  have a3 : pw (blen m + (e + K).toNat) ≤ pw (blen n - 1 + (f + K).toNat) := by
    rw [pw_eq, pw_eq]; exact Nat.pow_le_pow_right (by decide) (by omega)
  omega

/-- What the reference's order does. -/
def ordN (s t : Bool) (m n : Nat) (e f : Int) : Int :=
  if sgnI s m ≠ sgnI t n then (if sgnI s m < sgnI t n then -1 else 1)
  else if sgnI s m = 0 then 0
  else if s then 0 - (if (blen m : Int) + e < blen n + f then -1 else if (blen n : Int) + f < blen m + e then 1 else cmpI (m * 2 ^ (e - min e f).toNat) (n * 2 ^ (f - min e f).toNat))
  else (if (blen m : Int) + e < blen n + f then -1 else if (blen n : Int) + f < blen m + e then 1 else cmpI (m * 2 ^ (e - min e f).toNat) (n * 2 ^ (f - min e f).toNat))

theorem ordN_mag {K : Int} {m n : Nat} {e f : Int} (hm : m ≠ 0) (hn : n ≠ 0) (he : 0 ≤ e + K) (hf : 0 ≤ f + K) :
    (if (blen m : Int) + e < blen n + f then -1 else if (blen n : Int) + f < blen m + e then 1 else cmpI (m * 2 ^ (e - min e f).toNat) (n * 2 ^ (f - min e f).toNat)) = cmpI (m * pw (e + K).toNat) (n * pw (f + K).toNat) := by
  by_cases c1 : (blen m : Int) + e < blen n + f
  · rw [if_pos c1]
    have := bits_lt hm hn he hf c1
    unfold cmpI; rw [if_pos this]
  · rw [if_neg c1]
    by_cases c2 : (blen n : Int) + f < blen m + e
    · rw [if_pos c2]
      have := bits_lt hn hm hf he c2
      unfold cmpI; rw [if_neg (by omega), if_pos this]
    · rw [if_neg c2]
      have e1 : m * pw (e + K).toNat = m * 2 ^ (e - min e f).toNat * pw (min e f + K).toNat := by
        rw [← pw_eq, Nat.mul_assoc, ← pw_add]; congr 2; omega
      have e2 : n * pw (f + K).toNat = n * 2 ^ (f - min e f).toNat * pw (min e f + K).toNat := by
        rw [← pw_eq, Nat.mul_assoc, ← pw_add]; congr 2; omega
      rw [e1, e2, ord_scaled (pw_pos _)]

theorem ordN_eq {K : Int} {s t : Bool} {m n : Nat} {e f : Int} (he : 0 ≤ e + K) (hf : 0 ≤ f + K) : ordN s t m n e f = ordI (nv K s m e) (nv K t n f) := by
  by_cases hm : m = 0
  · subst hm
    rw [nv_zero]
    by_cases hn : n = 0
    · subst hn; rw [nv_zero]; simp [ordN, sgnI, ordI]
    · have p := nv_pos K f hn
      unfold ordN sgnI nv ordI
      cases t <;> simp [hn] <;> omega
  · have p := nv_pos K e hm
    by_cases hn : n = 0
    · subst hn
      rw [nv_zero]
      unfold ordN sgnI nv ordI
      cases s <;> simp [hm] <;> omega
    · have p2 := nv_pos K f hn
      have hmag := ordN_mag hm hn he hf
      unfold ordN
      rw [hmag]
      unfold sgnI nv
      rw [if_neg hm, if_neg hn]
      generalize m * pw (e + K).toNat = x at *
      generalize n * pw (f + K).toNat = y at *
      cases s <;> cases t
      · simp [ordI_nat]
      · simp; unfold ordI; rw [if_neg (by omega), if_pos (by omega)]
      · simp; unfold ordI; rw [if_pos (by omega)]
      · simp; rw [ordI_neg, ordI_nat]

/-- What the reference's sum is. -/
theorem sum_nv {K : Int} (s t : Bool) (m n : Nat) (e f : Int) (he : 0 ≤ e + K) (hf : 0 ≤ f + K) :
    (s = t → nv K s (m * 2 ^ (e - min e f).toNat + n * 2 ^ (f - min e f).toNat) (min e f) = nv K s m e + nv K t n f) ∧
    (s ≠ t → n * 2 ^ (f - min e f).toNat ≤ m * 2 ^ (e - min e f).toNat → nv K s (m * 2 ^ (e - min e f).toNat - n * 2 ^ (f - min e f).toNat) (min e f) = nv K s m e + nv K t n f) ∧
    (s ≠ t → m * 2 ^ (e - min e f).toNat ≤ n * 2 ^ (f - min e f).toNat → nv K t (n * 2 ^ (f - min e f).toNat - m * 2 ^ (e - min e f).toNat) (min e f) = nv K s m e + nv K t n f) := by
  rw [← nv_level (K := K) s m (e := e) (d := min e f) (by omega) (by omega), ← nv_level (K := K) t n (e := f) (d := min e f) (by omega) (by omega)]
  generalize m * 2 ^ (e - min e f).toNat = x
  generalize n * 2 ^ (f - min e f).toNat = y
  unfold nv
  generalize pw (min e f + K).toNat = p
  refine ⟨?_, ?_, ?_⟩
  · rintro rfl
    rw [Nat.add_mul]
    cases s <;> simp <;> omega
  · intro hst hle
    have := Nat.mul_le_mul_right p hle
    rw [Nat.sub_mul]
    cases s <;> cases t <;> simp at * <;> omega
  · intro hst hle
    have := Nat.mul_le_mul_right p hle
    rw [Nat.sub_mul]
    cases s <;> cases t <;> simp at * <;> omega

theorem prod_nv {K L : Int} (s t : Bool) (m n : Nat) (e f : Int) (he : 0 ≤ e + K) (hf : 0 ≤ f + L) : nv (K + L) (s != t) (m * n) (e + f) = nv K s m e * nv L t n f := by
  have h : m * n * pw (e + f + (K + L)).toNat = m * pw (e + K).toNat * (n * pw (f + L).toNat) := by
    rw [show (e + f + (K + L)).toNat = (e + K).toNat + (f + L).toNat by omega, pw_add]
    simp only [Nat.mul_assoc, Nat.mul_comm, Nat.mul_left_comm]
  unfold nv
  rw [h]
  generalize m * pw (e + K).toNat = x
  generalize n * pw (f + L).toNat = y
  cases s <;> cases t <;> simp [Int.neg_mul, Int.mul_neg]
end Go.Proofs.YtkmgfbhnioojhaaGreat.Fl

/- What the reference asks of an exact quotient, or root, in whole numbers. (plain; no program) -/
namespace Go.Proofs.YtkmgfbhnioojhaaGreat.Fl
set_option linter.unusedSimpArgs false
set_option linter.unusedVariables false

def prodS (s t : Bool) (m n : Nat) : Bool := if m * n = 0 then false else s != t
def prodE (m n : Nat) (e f : Int) : Int := if m * n = 0 then 0 else e + f

theorem ord_le (a b : Int) : decide (ordI a b ≤ 0) = decide (a ≤ b) := by
  unfold ordI; rw [Bool.eq_iff_iff]; simp only [decide_eq_true_eq]; split; omega; split <;> omega
theorem ord_ge (a b : Int) : decide (0 ≤ ordI a b) = decide (b ≤ a) := by
  unfold ordI; rw [Bool.eq_iff_iff]; simp only [decide_eq_true_eq]; split; omega; split <;> omega
theorem ord_eq0 (a b : Int) : (ordI a b == 0) = decide (a = b) := by
  unfold ordI; rw [Bool.eq_iff_iff]; simp only [decide_eq_true_eq, beq_iff_eq]; split; omega; split <;> omega

theorem prod_amount {K L : Int} (s t : Bool) (m n : Nat) (e f : Int) (he : 0 ≤ e + K) (hf : 0 ≤ f + L) : nv (K + L) (prodS s t m n) (m * n) (prodE m n e f) = nv K s m e * nv L t n f := by
  by_cases h : m * n = 0
  · rw [h, nv_zero]
    rcases Nat.mul_eq_zero.1 h with h | h
    · rw [h, nv_zero, Int.zero_mul]
    · rw [h, nv_zero, Int.mul_zero]
  · unfold prodS prodE
    rw [if_neg h, if_neg h]
    exact prod_nv s t m n e f he hf

theorem sgn_nv (K : Int) (s : Bool) (m : Nat) (e : Int) : (sgnI s m < 0 ↔ nv K s m e < 0) ∧ (sgnI s m ≤ 0 ↔ nv K s m e ≤ 0) ∧ (0 ≤ sgnI s m ↔ 0 ≤ nv K s m e) := by
  by_cases h : m = 0
  · subst h; rw [nv_zero]; simp [sgnI]
  · have p := nv_pos K e h
    unfold sgnI nv
    rw [if_neg h]
    cases s <;> simp <;> omega

/-- The amount of A, its sign turned if B's is. -/
def qS (a b : Int) : Int := if b < 0 then -a else a
theorem belowQ_eq {t a b : Int} {neg : Prop} [Decidable neg] (hn : neg ↔ b < 0) : (if neg then decide (0 ≤ ordI (t * b) a) else decide (ordI (t * b) a ≤ 0)) = decide (t * ((2 * b.natAbs : Nat) : Int) ≤ 2 * qS a b) := by
  rw [ord_le, ord_ge]
  unfold qS
  by_cases h : b < 0
  · rw [if_pos (hn.2 h), if_pos h]
    obtain ⟨c, rfl⟩ : ∃ c : Nat, b = -(c : Int) := ⟨b.natAbs, by omega⟩
    rw [Int.natAbs_neg, Int.natAbs_natCast]
    have e1 : t * -(c : Int) = -(t * (c : Int)) := Int.mul_neg _ _
    have e2 : t * ((2 * c : Nat) : Int) = 2 * (t * (c : Int)) := by rw [Int.natCast_mul]; simp only [Int.mul_assoc, Int.mul_comm, Int.mul_left_comm]; rfl
    rw [e1, e2, Bool.eq_iff_iff]; simp only [decide_eq_true_eq]; omega
  · rw [if_neg (fun hh => h (hn.1 hh)), if_neg h]
    obtain ⟨c, rfl⟩ : ∃ c : Nat, b = (c : Int) := ⟨b.natAbs, by omega⟩
    rw [Int.natAbs_natCast]
    have e2 : t * ((2 * c : Nat) : Int) = 2 * (t * (c : Int)) := by rw [Int.natCast_mul]; simp only [Int.mul_assoc, Int.mul_comm, Int.mul_left_comm]; rfl
    rw [e2, Bool.eq_iff_iff]; simp only [decide_eq_true_eq]; omega
theorem sameQ_eq {t a b : Int} : (ordI (t * b) a == 0) = decide (t * ((2 * b.natAbs : Nat) : Int) = 2 * qS a b) := by
  rw [ord_eq0]
  unfold qS
  by_cases h : b < 0
  · rw [if_pos h]
    obtain ⟨c, rfl⟩ : ∃ c : Nat, b = -(c : Int) := ⟨b.natAbs, by omega⟩
    rw [Int.natAbs_neg, Int.natAbs_natCast]
    have e1 : t * -(c : Int) = -(t * (c : Int)) := Int.mul_neg _ _
    have e2 : t * ((2 * c : Nat) : Int) = 2 * (t * (c : Int)) := by rw [Int.natCast_mul]; simp only [Int.mul_assoc, Int.mul_comm, Int.mul_left_comm]; rfl
    rw [e1, e2, Bool.eq_iff_iff]; simp only [decide_eq_true_eq]; omega
  · rw [if_neg h]
    obtain ⟨c, rfl⟩ : ∃ c : Nat, b = (c : Int) := ⟨b.natAbs, by omega⟩
    rw [Int.natAbs_natCast]
    have e2 : t * ((2 * c : Nat) : Int) = 2 * (t * (c : Int)) := by rw [Int.natCast_mul]; simp only [Int.mul_assoc, Int.mul_comm, Int.mul_left_comm]; rfl
    rw [e2, Bool.eq_iff_iff]; simp only [decide_eq_true_eq]; omega

/-- The middle of a place and the next one. -/
theorem mid_rng {lo hi mid : Int} (h : lo < hi) (l1 : -9218868437227405312 ≤ lo) (l2 : hi ≤ 9218868437227405311) (hm : mid = lo.tdiv 2 + hi.tdiv 2 + (lo.tmod 2 + hi.tmod 2 + 1).tdiv 2) : lo ≤ mid ∧ mid ≤ hi := by
  have a1 := Int.mul_tdiv_add_tmod lo 2
  have a2 := Int.mul_tdiv_add_tmod hi 2
  have b1 : -1 ≤ lo.tmod 2 ∧ lo.tmod 2 ≤ 1 := by
    have h1 := Int.tmod_lt_of_pos lo (show (0 : Int) < 2 by decide)
    have h2 := Int.lt_tmod_of_pos lo (show (0 : Int) < 2 by decide)
    omega
  have b2 : -1 ≤ hi.tmod 2 ∧ hi.tmod 2 ≤ 1 := by
    have h1 := Int.tmod_lt_of_pos hi (show (0 : Int) < 2 by decide)
    have h2 := Int.lt_tmod_of_pos hi (show (0 : Int) < 2 by decide)
    omega
  generalize lo.tmod 2 = r1 at *
  generalize hi.tmod 2 = r2 at *
  generalize lo.tdiv 2 = q1 at *
  generalize hi.tdiv 2 = q2 at *
  have c : (r1 + r2 + 1).tdiv 2 = if r1 + r2 ≥ 1 then 1 else 0 := by
    have : r1 + r2 = -2 ∨ r1 + r2 = -1 ∨ r1 + r2 = 0 ∨ r1 + r2 = 1 ∨ r1 + r2 = 2 := by omega
    rcases this with h | h | h | h | h <;> rw [h] <;> rfl
  rw [c] at hm
  split at hm <;> omega
end Go.Proofs.YtkmgfbhnioojhaaGreat.Fl

/- Amounts far above, and far below, all floats: where exponents are cut. (plain; no program) -/
namespace Go.Proofs.YtkmgfbhnioojhaaGreat.Fl
set_option linter.unusedSimpArgs false
set_option linter.unusedVariables false

end Go.Proofs.YtkmgfbhnioojhaaGreat.Fl

/- What the reference's rounded numbers are: the operations' own. (plain; no program) -/
namespace Go.Proofs.YtkmgfbhnioojhaaGreat.Fl
set_option linter.unusedSimpArgs false
set_option linter.unusedVariables false

theorem nv_up (K : Int) (j : Nat) (s : Bool) (m : Nat) (e : Int) (he : 0 ≤ e + K) : nv (K + j) s m e = nv K s m e * (pw j : Nat) := by
  unfold nv
  rw [show (e + (K + (j : Int))).toNat = (e + K).toNat + j by omega, pw_add, ← Nat.mul_assoc]
  cases s <;> simp [Int.neg_mul]

theorem rnd_double (S : Int) (D : Nat) (dir : Int) (hD : 0 < D) : rnd (S * 2) (2 * D) dir = rnd S D dir := by
  refine rnd_ratio dir (by omega) hD ?_
  rw [Int.natCast_mul, Int.mul_assoc]; congr 1

/-- A sum. -/
theorem whole_sum (s : Bool) (m : Nat) (e T dir : Int) (he : -1074 ≤ e) (h : nv 1074 s m e = T) : rnd (nv (1075 + 0) s m e) (2 * pw (0 : Int).toNat) dir = rnd T 1 dir := by
  have e1 := nv_up 1074 1 s m e (by omega)
  rw [h] at e1
  rw [show (1075 + 0 : Int) = 1074 + ((1 : Nat) : Int) by rfl, e1, show pw (0 : Int).toNat = 1 by rw [pw_eq]; rfl, show ((pw 1 : Nat) : Int) = 2 by rw [pw_eq]; rfl]
  exact rnd_double T 1 dir (by decide)

/-- A product. -/
theorem whole_prod (s : Bool) (m : Nat) (e T dir : Int) (he : -2148 ≤ e) (h : nv (1074 + 1074) s m e = T) : rnd (nv (1075 + 1074) s m e) (2 * pw (1074 : Int).toNat) dir = rnd T (pw 1074) dir := by
  have e1 := nv_up (1074 + 1074) 1 s m e (by omega)
  rw [h] at e1
  rw [show (1075 + 1074 : Int) = 1074 + 1074 + ((1 : Nat) : Int) by rfl, e1, show ((pw 1 : Nat) : Int) = 2 by rw [pw_eq]; rfl]
  exact rnd_double T _ dir (pw_pos _)

theorem val_abs (x : Nat) : (val x).natAbs = G (rung x) := by unfold val; cases sgn x <;> simp
theorem val_neg (x : Nat) (h : rung x ≠ 0) : val x < 0 ↔ sgn x = true := by
  have := G_pos (Nat.pos_of_ne_zero h)
  unfold val; cases sgn x <;> simp <;> omega

/-- A quotient. -/
theorem quo_eq (s : Bool) (m : Nat) (e : Int) (a b : Nat) (dir : Int) (he : -1074 ≤ e) (ha : nv 1074 s m e = val a) (hb : rung b ≠ 0) :
    rnd (qS (nv (1075 + 1074) s m e) (val b)) (2 * (val b).natAbs) dir = rnd (val a * (if sgn b then -1 else 1) * (pw 1074 : Nat)) (G (rung b)) dir := by
  have e1 := nv_up 1074 1075 s m e (by omega)
  rw [ha] at e1
  have e2 : (1075 + 1074 : Int) = 1074 + ((1075 : Nat) : Int) := by rfl
  rw [e2, e1, val_abs]
  have e3 : ((pw 1075 : Nat) : Int) = (pw 1074 : Nat) * 2 := by rw [show 1075 = 1074 + 1 by rfl, pw_add, pw_eq 1]; simp
  rw [e3]
  unfold qS
  have hs := val_neg b hb
  have e4 : (if val b < 0 then -(val a * (((pw 1074 : Nat) : Int) * 2)) else val a * (((pw 1074 : Nat) : Int) * 2)) = val a * (if sgn b then -1 else 1) * (pw 1074 : Nat) * 2 := by
    by_cases h : sgn b = true
    · rw [if_pos (hs.2 h), h]; simp [Int.mul_assoc, Int.neg_mul]
    · have h' : sgn b = false := by simpa using h
      rw [if_neg (fun hh => h (hs.1 hh)), h']; simp [Int.mul_assoc]
  rw [e4]
  exact rnd_double _ _ dir (G_pos (Nat.pos_of_ne_zero hb))

end Go.Proofs.YtkmgfbhnioojhaaGreat.Fl

/- Plain: halves, greater and smaller ones, rungs in order. -/
set_option linter.unusedSimpArgs false
set_option linter.unusedVariables false
namespace Go.Proofs.YtkmgfbhnioojhaaGreat.Fl
open Go

theorem rungOf_le_of {N D r : Nat} (dir : Int) (hD : 0 < D) (hr : r < INFR) (h : N ≤ G r * D) : rungOf N D dir ≤ r := by
  obtain ⟨f1, f2, f3⟩ := flr_spec N D
  have hk : flr N D ≤ r := by
    apply Nat.le_of_not_lt
    intro hlt
    have := Nat.mul_lt_mul_of_pos_right (G_lt hlt) hD
    omega
  rcases Nat.lt_or_eq_of_le hk with h1 | h1
  · unfold rungOf; repeat' split
    all_goals omega
  · unfold rungOf
    rw [h1] at f2
    rw [if_pos (by rw [h1]; omega)]
    exact hk

theorem mono_same {N M D : Nat} (dir : Int) (hD : 0 < D) (h : N ≤ M) : rungOf N D dir ≤ rungOf M D dir := by
  obtain ⟨f1, f2, f3⟩ := flr_spec N D
  obtain ⟨g1, g2, g3⟩ := flr_spec M D
  have hk : flr N D ≤ flr M D := by
    apply Nat.le_of_not_lt
    intro hlt
    rcases g3 with g3 | g3
    · omega
    · have := Nat.mul_le_mul_right D (G_le (show flr M D + 1 ≤ flr N D from hlt))
      omega
  unfold rungOf
  rcases Nat.lt_or_eq_of_le hk with h1 | h1
  · generalize flr N D = k at *
    generalize flr M D = l at *
    repeat' split
    all_goals omega
  · rw [← h1] at g1 g2 g3 ⊢
    generalize flr N D = k at *
    generalize (G k + G (k + 1)) * D = s at *
    generalize G k * D = t at *
    repeat' split
    all_goals omega

/-- **Rounding keeps the order.** -/
theorem rungOf_mono {N D M E : Nat} (dir : Int) (hD : 0 < D) (hE : 0 < E) (h : N * E ≤ M * D) : rungOf N D dir ≤ rungOf M E dir := by
  rw [← rungOf_scale N D E dir hE, ← rungOf_scale M E D dir hD, Nat.mul_comm E D]
  exact mono_same dir (Nat.mul_pos hD hE) h

theorem plc_mono {S T : Int} {D E : Nat} (dir : Int) (hD : 0 < D) (hE : 0 < E) (h : S * (E : Int) ≤ T * (D : Int)) : plc S D dir ≤ plc T E dir := by
  unfold plc
  by_cases hS : S < 0
  · rw [if_pos hS]
    by_cases hT : T < 0
    · rw [if_pos hT]
      have : rungOf T.natAbs E (-dir) ≤ rungOf S.natAbs D (-dir) := by
        refine rungOf_mono _ hE hD ?_
        have e1 : ((T.natAbs * D : Nat) : Int) = -(T * (D : Int)) := by
          rw [Int.natCast_mul, Int.ofNat_natAbs_of_nonpos (by omega), Int.neg_mul]
        have e2 : ((S.natAbs * E : Nat) : Int) = -(S * (E : Int)) := by
          rw [Int.natCast_mul, Int.ofNat_natAbs_of_nonpos (by omega), Int.neg_mul]
        omega
      omega
    · rw [if_neg hT]; omega
  · have hT : ¬ T < 0 := by
      intro hT
      have h1 : 0 ≤ S * (E : Int) := Int.mul_nonneg (by omega) (by omega)
      have h2 : T * (D : Int) < 0 := Int.mul_neg_of_neg_of_pos hT (by omega)
      omega
    rw [if_neg hS, if_neg hT]
    have : rungOf S.natAbs D dir ≤ rungOf T.natAbs E dir := by
      refine rungOf_mono _ hD hE ?_
      have e1 : ((T.natAbs * D : Nat) : Int) = T * (D : Int) := by
        rw [Int.natCast_mul, Int.natAbs_of_nonneg (by omega)]
      have e2 : ((S.natAbs * E : Nat) : Int) = S * (E : Int) := by
        rw [Int.natCast_mul, Int.natAbs_of_nonneg (by omega)]
      omega
    omega

theorem val_pv (x : Nat) : val x = pv (idx x) := by
  unfold val idx
  cases sgn x
  · simp only [Bool.false_eq_true, if_false]
    rw [pv_pos (by omega)]; simp
  · simp only [if_true]
    by_cases h : rung x = 0
    · rw [h]; rfl
    · rw [pv_neg (by omega)]; simp

theorem pv_le {i j : Int} : pv i ≤ pv j ↔ i ≤ j := by
  by_cases hi : i < 0
  · by_cases hj : j < 0
    · rw [pv_neg hi, pv_neg hj]
      have := @G_le_iff (-j).toNat (-i).toNat
      omega
    · have := pv_lt hi
      have := pv_ge (show 0 ≤ j by omega)
      omega
  · by_cases hj : j < 0
    · have := pv_lt hj
      have := pv_ge (show 0 ≤ i by omega)
      omega
    · rw [pv_pos (by omega), pv_pos (by omega)]
      have := @G_le_iff i.toNat j.toNat
      omega
theorem val_le {a b : Nat} : val a ≤ val b ↔ idx a ≤ idx b := by rw [val_pv, val_pv, pv_le]

/-! ### Halves -/

theorem G_half : G 4602678819172646912 * 2 = pw 1074 := by
  have h := G_normal' (K := 1021) (m := 0) (by decide)
  rw [show (1021 + 1) * BIN + 0 = 4602678819172646912 by decide] at h
  rw [h, show BIN + 0 = pw 52 from (pw_eq 52).symm, ← pw_add, show (1074 : Nat) = 52 + 1021 + 1 from rfl, pw_add (52 + 1021) 1]
  rw [pw_eq 1]

/-! ### Greater and smaller ones, whatever they are -/

end Go.Proofs.YtkmgfbhnioojhaaGreat.Fl

/- Floats, plain: quotients by the machine; the floor; a float's whole number. -/
namespace Go.Proofs.YtkmgfbhnioojhaaGreat.Fl
set_option linter.unusedSimpArgs false
set_option linter.unusedVariables false

/-! ### Quotients -/
theorem quot_amount (m n d : Nat) (hm : 0 < m) (hn : 0 < n) (hd : 0 < d) : (2 * (m * 2 ^ (d + n.log2 - m.log2) / n) + (m * 2 ^ (d + n.log2 - m.log2) % n != 0).toNat) * n ≤ 3 * (m * 2 ^ (d + n.log2 - m.log2)) := by
  have big : n ≤ m * 2 ^ (d + n.log2 - m.log2) := by
    have h1 : 2 ^ m.log2 ≤ m := Nat.log2_self_le (by omega)
    have h2 : n < 2 ^ (n.log2 + 1) := Nat.lt_log2_self
    have h3 : 2 ^ m.log2 * 2 ^ (d + n.log2 - m.log2) ≤ m * 2 ^ (d + n.log2 - m.log2) := Nat.mul_le_mul_right _ h1
    rw [← Nat.pow_add] at h3
    have h4 : 2 ^ (n.log2 + 1) ≤ 2 ^ (m.log2 + (d + n.log2 - m.log2)) := Nat.pow_le_pow_right (by decide) (by omega)
    omega
  generalize m * 2 ^ (d + n.log2 - m.log2) = D at *
  have e := Nat.div_add_mod D n
  have l := Nat.mod_lt D hn
  have q1 : 1 ≤ D / n := (Nat.one_le_div_iff hn).2 big
  have hle : (D % n != 0).toNat ≤ 1 := by cases (D % n != 0) <;> decide
  generalize D / n = q at *
  generalize D % n = r at *
  generalize (r != 0).toNat = z at *
  have e1 : (2 * q + z) * n ≤ (2 * q + q) * n := Nat.mul_le_mul_right _ (by omega)
  have e2 : (2 * q + q) * n = 3 * (n * q) := by rw [show 2 * q + q = 3 * q by omega, Nat.mul_assoc, Nat.mul_comm q n]
  omega

theorem fdiv_some {a b : Nat} (ha : rung a < INFR) (hb : rung b < INFR) (hb0 : rung b ≠ 0) :
    ∃ r : Nat, floatBits .quo .f64 a b = some (word (sgn a ^^ sgn b) r) ∧ r ≤ INFR ∧ ∀ B : Nat, B < INFR → 3 * (G (rung a) * pw 1074) ≤ 2 * (G B * G (rung b)) → r ≤ B := by
  have hn : 0 < mag (rung b) := Nat.pos_of_ne_zero fun h => hb0 (mag_zero.1 h)
  show ∃ r : Nat, FloatKind.f64.format.div a b = _ ∧ _
  unfold Ieee.Format.div
  rw [read_eq, read_eq, if_pos ha, if_pos hb, fmt_frac]
  unfold Ieee.Datum.quotient
  simp only []
  rw [if_neg (by omega)]
  simp only [Option.map_some]
  unfold Ieee.Format.write
  simp only [Nat.shiftLeft_eq]
  generalize hM : 2 * (mag (rung a) * 2 ^ (52 + 2 + (mag (rung b)).log2 - (mag (rung a)).log2) / mag (rung b)) + (mag (rung a) * 2 ^ (52 + 2 + (mag (rung b)).log2 - (mag (rung a)).log2) % mag (rung b) != 0).toNat = M
  generalize hk : 52 + 2 + (mag (rung b)).log2 - (mag (rung a)).log2 = k at *
  have ep : (-1074 + ((exn (rung a) : Nat) : Int) - (-1074 + ((exn (rung b) : Nat) : Int)) - (k : Int) - 1) = -1074 + ((exn (rung a) + 1074 : Nat) : Int) - ((exn (rung b) + k + 1 : Nat) : Int) := by omega
  rw [ep]
  generalize h74 : (1074 : Nat) = t
  rw [nearest_all (sgn a ^^ sgn b) M (exn (rung a) + t) (exn (rung b) + k + 1) (M * 2 ^ (exn (rung a) + t)) (2 ^ (exn (rung b) + k + 1)) (Nat.two_pow_pos _) rfl]
  refine ⟨_, rfl, rungOf_le _ _ _, fun B hB h => rungOf_le_of 0 (Nat.two_pow_pos _) hB ?_⟩
  by_cases hm : mag (rung a) = 0
  · have : M = 0 := by rw [← hM, hm]; simp
    rw [this, Nat.zero_mul]; exact Nat.zero_le _
  · have q := quot_amount (mag (rung a)) (mag (rung b)) (52 + 2) (Nat.pos_of_ne_zero hm) hn (by decide)
    rw [hk, hM] at q
    rw [G_eq (rung a), G_eq (rung b), pw_eq] at h
    refine Nat.le_of_mul_le_mul_right ?_ hn
    rw [Nat.pow_add, Nat.pow_add, Nat.pow_add, Nat.pow_one]
    generalize mag (rung a) = m at *
    generalize mag (rung b) = n at *
    generalize 2 ^ exn (rung a) = x at *
    generalize 2 ^ exn (rung b) = y at *
    generalize 2 ^ k = z at *
    generalize 2 ^ t = u at *
    generalize G B = g at *
    have h1 : M * n * (x * u) ≤ 3 * (m * z) * (x * u) := Nat.mul_le_mul_right _ q
    have h2 : 3 * (m * x * u) * z ≤ 2 * (g * (n * y)) * z := Nat.mul_le_mul_right _ h
    have e1 : M * (x * u) * n = M * n * (x * u) := by ac_rfl
    have e2 : 3 * (m * z) * (x * u) = 3 * (m * x * u) * z := by ac_rfl
    have e3 : g * (y * z * 2) * n = 2 * (g * (n * y)) * z := by ac_rfl
    omega

/-! ### Whole parts -/
theorem cut_zero (neg : Bool) (n d : Nat) : Ieee.Toward.zero.cut neg n d = n / 2 ^ d := by
  unfold Ieee.Toward.cut
  simp only [Nat.one_shiftLeft, Bool.toNat_false, Nat.add_zero]
  by_cases h : d ≤ n.log2 + 2
  · rw [Nat.min_eq_left h]
  · rw [Nat.min_eq_right (by omega)]
    have h1 : n < 2 ^ (n.log2 + 1) := Nat.lt_log2_self
    have h2 : 2 ^ (n.log2 + 1) ≤ 2 ^ (n.log2 + 2) := Nat.pow_le_pow_right (by decide) (by omega)
    have h3 : 2 ^ (n.log2 + 1) ≤ 2 ^ d := Nat.pow_le_pow_right (by decide) (by omega)
    rw [Nat.div_eq_of_lt (by omega), Nat.div_eq_of_lt (by omega)]

theorem cut_down (neg : Bool) (n d : Nat) : Ieee.Toward.down.cut neg n d = n / 2 ^ d + (neg && (n % 2 ^ d != 0)).toNat := by
  unfold Ieee.Toward.cut
  simp only [Nat.one_shiftLeft]
  by_cases h : d ≤ n.log2 + 2
  · rw [Nat.min_eq_left h]
  · rw [Nat.min_eq_right (by omega)]
    have h1 : n < 2 ^ (n.log2 + 1) := Nat.lt_log2_self
    have h2 : 2 ^ (n.log2 + 1) ≤ 2 ^ (n.log2 + 2) := Nat.pow_le_pow_right (by decide) (by omega)
    have h3 : 2 ^ (n.log2 + 1) ≤ 2 ^ d := Nat.pow_le_pow_right (by decide) (by omega)
    rw [Nat.div_eq_of_lt (show n < 2 ^ (n.log2 + 2) by omega), Nat.div_eq_of_lt (show n < 2 ^ d by omega), Nat.mod_eq_of_lt (show n < 2 ^ (n.log2 + 2) by omega), Nat.mod_eq_of_lt (show n < 2 ^ d by omega)]

/-- The amount of a rung, cut to whole ones; up, where it is not whole and neg. -/
def wholeUp (neg : Bool) (r : Nat) : Nat := G r / pw 1074 + (neg && (G r % pw 1074 != 0)).toNat

theorem mag_cut (r : Nat) : (mag r <<< (-1074 + ((exn r : Nat) : Int)).toNat) / 2 ^ (-(-1074 + ((exn r : Nat) : Int))).toNat = G r / pw 1074 ∧ ((mag r <<< (-1074 + ((exn r : Nat) : Int)).toNat) % 2 ^ (-(-1074 + ((exn r : Nat) : Int))).toNat != 0) = (G r % pw 1074 != 0) := by
  rw [Nat.shiftLeft_eq, G_eq, pw_eq]
  by_cases h : exn r ≤ 1074
  · obtain ⟨d, hd⟩ : ∃ d, 1074 = exn r + d := ⟨1074 - exn r, by omega⟩
    rw [show (-1074 + ((exn r : Nat) : Int)).toNat = 0 by omega, show (-(-1074 + ((exn r : Nat) : Int))).toNat = d by omega, Nat.pow_zero, Nat.mul_one, hd, Nat.pow_add]
    have p := Nat.two_pow_pos (exn r)
    generalize 2 ^ exn r = x at *
    generalize 2 ^ d = y at *
    rw [Nat.mul_comm x y]
    refine ⟨(Nat.mul_div_mul_right _ _ p).symm, ?_⟩
    rw [Nat.mul_mod_mul_right]
    generalize mag r % y = z
    rw [Bool.eq_iff_iff, bne_iff_ne, bne_iff_ne]
    exact ⟨fun h h2 => h ((Nat.mul_eq_zero.1 h2).resolve_right (by omega)), fun h h2 => h (by rw [h2, Nat.zero_mul])⟩
  · obtain ⟨d, hd⟩ : ∃ d, exn r = d + 1074 := ⟨exn r - 1074, by omega⟩
    rw [show (-1074 + ((exn r : Nat) : Int)).toNat = d by omega, show (-(-1074 + ((exn r : Nat) : Int))).toNat = 0 by omega, Nat.pow_zero, Nat.div_one, Nat.mod_one, hd, Nat.pow_add]
    generalize h74 : (1074 : Nat) = t
    have p := Nat.two_pow_pos t
    generalize 2 ^ t = y at *
    rw [← Nat.mul_assoc, Nat.mul_div_cancel _ p, Nat.mul_mod_left]
    exact ⟨rfl, rfl⟩

/-- The floor. -/
def floorF (x : Nat) : Nat := FloatKind.f64.encode ((FloatKind.f64.decode x).integral .down)
/-- The whole number of a float's floor. -/
def flrI (x : Nat) : Int := if sgn x then -(wholeUp true (rung x) : Int) else (wholeUp false (rung x) : Int)

theorem floor_word {x : Nat} (hx : rung x < INFR) : floorF x = word (sgn x) (rungOf (wholeUp (sgn x) (rung x) * pw 1074) 1 0) := by
  unfold floorF FloatKind.decode FloatKind.encode
  rw [read_eq, if_pos hx]
  unfold Ieee.Datum.integral
  simp only []
  rw [cut_down, (mag_cut (rung x)).1, (mag_cut (rung x)).2]
  unfold Ieee.Format.write
  simp only []
  have h := nearest_all (sgn x) (wholeUp (sgn x) (rung x)) 1074 0 (wholeUp (sgn x) (rung x) * pw 1074) 1 (by decide) (by rw [Nat.pow_zero, pw_eq])
  have e : (-1074 + ((1074 : Nat) : Int) - ((0 : Nat) : Int)) = 0 := by omega
  rw [e] at h
  exact h

theorem wholeUp_le {neg : Bool} {r B : Nat} (h : G r ≤ B * pw 1074) : wholeUp neg r ≤ B := by
  unfold wholeUp
  have p := pw_pos 1074
  have e := Nat.div_add_mod (G r) (pw 1074)
  have l := Nat.mod_lt (G r) p
  have q : G r / pw 1074 ≤ B := Nat.div_le_of_le_mul (by rw [Nat.mul_comm]; exact h)
  by_cases hz : G r % pw 1074 = 0
  · simp [hz]; exact q
  · have : G r / pw 1074 < B := by
      rw [Nat.div_lt_iff_lt_mul p]
      rcases Nat.lt_or_eq_of_le h with h | h
      · exact h
      · exact absurd (by rw [h, Nat.mul_mod_left]) hz
    have : (neg && (G r % pw 1074 != 0)).toNat ≤ 1 := by cases (neg && (G r % pw 1074 != 0)) <;> decide
    omega

theorem whole_rung {q : Nat} (hq : q ≤ 9007199254740992) : ∃ r : Nat, r < INFR ∧ G r = q * pw 1074 := by
  by_cases h0 : q = 0
  · exact ⟨0, by decide, by rw [h0, G_zero]; simp⟩
  · obtain ⟨f, _, _, h4, _, h6⟩ := of_whole (q := q) (by omega) (by omega)
    exact ⟨f, h4, h6⟩

/-- **The floor of what is no greater than B.** -/
theorem floor_any {x B : Nat} (hx : rung x < INFR) (hB : B ≤ 9007199254740992) (h : G (rung x) ≤ B * pw 1074) :
    finB (floorF x) = true ∧ floorF x < 18446744073709551616 ∧ val (floorF x) = flrI x * (pw 1074 : Nat) ∧ -(B : Int) ≤ flrI x ∧ flrI x ≤ B ∧ floatToIntVal .f64 (floorF x) .i64 = some (flrI x) := by
  have hw : wholeUp (sgn x) (rung x) ≤ B := wholeUp_le h
  obtain ⟨r, r1, r2⟩ := whole_rung (Nat.le_trans hw hB)
  have hsw : r < SW := Nat.lt_trans r1 (by decide)
  have e := floor_word hx
  rw [← r2, rungOf_exact1 r1] at e
  have ei : flrI x = if sgn x then -(wholeUp (sgn x) (rung x) : Int) else (wholeUp (sgn x) (rung x) : Int) := by unfold flrI; cases sgn x <;> rfl
  rw [e]
  refine ⟨by rw [finB_rung, rung_word _ hsw]; exact r1, word_lt _ hsw, ?_, by rw [ei]; split <;> omega, by rw [ei]; split <;> omega, ?_⟩
  · rw [ei]
    unfold val
    rw [sgn_word _ hsw, rung_word _ hsw, r2]
    cases sgn x <;> simp [Int.natCast_mul, Int.neg_mul]
  · have hi : (FloatKind.f64.decode (word (sgn x) r)).toInt .zero = some (flrI x) := by
      unfold FloatKind.decode
      rw [read_eq, sgn_word _ hsw, rung_word _ hsw, if_pos r1]
      unfold Ieee.Datum.toInt Ieee.Datum.integral
      simp only []
      rw [cut_zero, (mag_cut r).1, r2, Nat.mul_div_cancel _ (pw_pos _), ei]
      unfold Ieee.signed
      cases sgn x <;> simp
    unfold floatToIntVal
    rw [hi]
    have b1 : -(B : Int) ≤ flrI x := by rw [ei]; split <;> omega
    have b2 : flrI x ≤ B := by rw [ei]; split <;> omega
    generalize flrI x = n at *
    show (if IntKind.i64.min ≤ n ∧ n ≤ IntKind.i64.max then some n else none) = some n
    rw [if_pos]
    constructor
    · show (-9223372036854775808 : Int) ≤ n; omega
    · show n ≤ (9223372036854775807 : Int); omega
/-! ### Whole numbers as floats; what is worked out of finite ones -/
theorem foi' (k : Int) : floatOfInt .f64 k = word (decide (k < 0)) (rungOf (k.natAbs * pw 1074) 1 0) := by
  unfold floatOfInt FloatKind.nearest FloatKind.encode
  unfold Ieee.Format.write
  simp only []
  have hx := nearest_all (decide (k < 0)) k.natAbs 1074 0 (k.natAbs * pw 1074) 1 (by decide) (by rw [pw_eq, Nat.pow_zero])
  have e0 : (-1074 + ((1074 : Nat) : Int) - ((0 : Nat) : Int)) = 0 := by omega
  rw [e0] at hx
  exact hx
theorem ofI_lt (k : Int) : floatOfInt .f64 k < 18446744073709551616 := by
  rw [foi']
  exact word_lt _ (Nat.lt_of_le_of_lt (rungOf_le _ _ _) (by decide))
/-- A sum, a product, a quotient of the machine's. -/
def fa (a b : Nat) : Nat := (floatBits .add .f64 a b).getD 0
def fm (a b : Nat) : Nat := (floatBits .mul .f64 a b).getD 0
def fq (a b : Nat) : Nat := (floatBits .quo .f64 a b).getD 0
theorem opt_get {o : Option Nat} {r : Nat} (h : o = some r) : o = some (o.getD 0) := by rw [h]; rfl
theorem fa_some {a b : Nat} (ha : rung a < INFR) (hb : rung b < INFR) : floatBits .add .f64 a b = some (fa a b) := opt_get (fadd_eq ha hb)
theorem fm_some {a b : Nat} (ha : rung a < INFR) (hb : rung b < INFR) : floatBits .mul .f64 a b = some (fm a b) := opt_get (fmul_eq ha hb)
theorem fq_some {a b : Nat} (ha : rung a < INFR) (hb : rung b < INFR) (h0 : rung b ≠ 0) : floatBits .quo .f64 a b = some (fq a b) := by
  obtain ⟨r, h, _⟩ := fdiv_some ha hb h0
  exact opt_get h
theorem fa_eq {a b : Nat} (ha : rung a < INFR) (hb : rung b < INFR) : fa a b = word (sumNeg a b) (rungOf (val a + val b).natAbs 1 0) := by unfold fa; rw [show floatBits .add .f64 a b = _ from fadd_eq ha hb]; rfl
theorem fm_eq {a b : Nat} (ha : rung a < INFR) (hb : rung b < INFR) : fm a b = word (sgn a ^^ sgn b) (rungOf (G (rung a) * G (rung b)) (pw 1074) 0) := by unfold fm; rw [show floatBits .mul .f64 a b = _ from fmul_eq ha hb]; rfl
theorem fa_lt {a b : Nat} (ha : rung a < INFR) (hb : rung b < INFR) : fa a b < 18446744073709551616 := by
  rw [fa_eq ha hb]; exact word_lt _ (Nat.lt_of_le_of_lt (rungOf_le _ _ _) (by decide))
theorem fa_num {a b : Nat} (ha : rung a < INFR) (hb : rung b < INFR) : nan (fa a b) = false := by
  rw [fa_eq ha hb]; exact nan_word _ (rungOf_le _ _ _)
/-- A sum of small ones. -/
theorem fa_small {a b P : Nat} (ha : rung a < INFR) (hb : rung b < INFR) (hP : P < INFR) (h : G (rung a) + G (rung b) ≤ G P) : rung (fa a b) ≤ P := by
  rw [fa_eq ha hb, rung_word _ (Nat.lt_of_le_of_lt (rungOf_le _ _ _) (by decide))]
  refine rungOf_le_of 0 (by decide) hP ?_
  rw [Nat.mul_one]
  refine Nat.le_trans ?_ h
  have h1 := val_abs a
  have h2 := val_abs b
  omega
/-- A quotient of small ones. -/
theorem fq_small {a b P : Nat} (ha : rung a < INFR) (hb : rung b < INFR) (h0 : rung b ≠ 0) (hP : P < INFR) (h : 3 * (G (rung a) * pw 1074) ≤ 2 * (G P * G (rung b))) : rung (fq a b) ≤ P ∧ fq a b < 18446744073709551616 := by
  obtain ⟨r, e, hr, hB⟩ := fdiv_some ha hb h0
  have hsw : r < SW := Nat.lt_of_le_of_lt hr (by decide)
  have : fq a b = word (sgn a ^^ sgn b) r := by unfold fq; rw [e]; rfl
  rw [this, rung_word _ hsw]
  exact ⟨hB P hP h, word_lt _ hsw⟩
theorem G_at_num {x K m : Nat} (h : x = (K + 1) * BIN + m) (hm : m < BIN) : G x = (BIN + m) * pw K := by rw [h]; exact G_normal' hm
theorem pw_split {a b n : Nat} (h : n = a + b) : pw n = pw a * 2 ^ b := by rw [h, pw_add, pw_eq b]
end Go.Proofs.YtkmgfbhnioojhaaGreat.Fl
