/- What the reference asks of an exact quotient, or root, in whole numbers. (plain; no program) -/
import Derived.Test.YtjdccbigaahkeaaFl14
namespace Go.Proofs.Ytjdccbigaahkeaa.Fl
set_option linter.unusedSimpArgs false
set_option linter.unusedVariables false

def prodS (s t : Bool) (m n : Nat) : Bool := if m * n = 0 then false else s != t
def prodE (m n : Nat) (e f : Int) : Int := if m * n = 0 then 0 else e + f

theorem ord_le (a b : Int) : decide (ordI a b ≤ 0) = decide (a ≤ b) := by
  unfold ordI; rw [Bool.eq_iff_iff]; simp only [decide_eq_true_eq]; split; omega; split <;> omega
theorem ord_ge (a b : Int) : decide (0 ≤ ordI a b) = decide (b ≤ a) := by
  unfold ordI; rw [Bool.eq_iff_iff]; simp only [decide_eq_true_eq]; split; omega; split <;> omega
theorem ord_eq0 (a b : Int) : (ordI a b == 0) = decide (a = b) := by
  unfold ordI; rw [Bool.eq_iff_iff]; simp only [decide_eq_true_eq, beq_iff_eq]; split; omega; split <;> omega

theorem prod_amount {K L : Int} (s t : Bool) (m n : Nat) (e f : Int) (he : 0 ≤ e + K) (hf : 0 ≤ f + L) : nv (K + L) (prodS s t m n) (m * n) (prodE m n e f) = nv K s m e * nv L t n f := by
  by_cases h : m * n = 0
  · rw [h, nv_zero]
    rcases Nat.mul_eq_zero.1 h with h | h
    · rw [h, nv_zero, Int.zero_mul]
    · rw [h, nv_zero, Int.mul_zero]
  · unfold prodS prodE
    rw [if_neg h, if_neg h]
    exact prod_nv s t m n e f he hf

theorem sgn_nv (K : Int) (s : Bool) (m : Nat) (e : Int) : (sgnI s m < 0 ↔ nv K s m e < 0) ∧ (sgnI s m ≤ 0 ↔ nv K s m e ≤ 0) ∧ (0 ≤ sgnI s m ↔ 0 ≤ nv K s m e) := by
  by_cases h : m = 0
  · subst h; rw [nv_zero]; simp [sgnI]
  · have p := nv_pos K e h
    unfold sgnI nv
    rw [if_neg h]
    cases s <;> simp <;> omega

/-- The amount of A, its sign turned if B's is. -/
def qS (a b : Int) : Int := if b < 0 then -a else a
theorem belowQ_eq {t a b : Int} {neg : Prop} [Decidable neg] (hn : neg ↔ b < 0) : (if neg then decide (0 ≤ ordI (t * b) a) else decide (ordI (t * b) a ≤ 0)) = decide (t * ((2 * b.natAbs : Nat) : Int) ≤ 2 * qS a b) := by
  rw [ord_le, ord_ge]
  unfold qS
  by_cases h : b < 0
  · rw [if_pos (hn.2 h), if_pos h]
    obtain ⟨c, rfl⟩ : ∃ c : Nat, b = -(c : Int) := ⟨b.natAbs, by omega⟩
    rw [Int.natAbs_neg, Int.natAbs_natCast]
    have e1 : t * -(c : Int) = -(t * (c : Int)) := Int.mul_neg _ _
    have e2 : t * ((2 * c : Nat) : Int) = 2 * (t * (c : Int)) := by rw [Int.natCast_mul]; simp only [Int.mul_assoc, Int.mul_comm, Int.mul_left_comm]; rfl
    rw [e1, e2, Bool.eq_iff_iff]; simp only [decide_eq_true_eq]; omega
  · rw [if_neg (fun hh => h (hn.1 hh)), if_neg h]
    obtain ⟨c, rfl⟩ : ∃ c : Nat, b = (c : Int) := ⟨b.natAbs, by omega⟩
    rw [Int.natAbs_natCast]
    have e2 : t * ((2 * c : Nat) : Int) = 2 * (t * (c : Int)) := by rw [Int.natCast_mul]; simp only [Int.mul_assoc, Int.mul_comm, Int.mul_left_comm]; rfl
    rw [e2, Bool.eq_iff_iff]; simp only [decide_eq_true_eq]; omega
theorem sameQ_eq {t a b : Int} : (ordI (t * b) a == 0) = decide (t * ((2 * b.natAbs : Nat) : Int) = 2 * qS a b) := by
  rw [ord_eq0]
  unfold qS
  by_cases h : b < 0
  · rw [if_pos h]
    obtain ⟨c, rfl⟩ : ∃ c : Nat, b = -(c : Int) := ⟨b.natAbs, by omega⟩
    rw [Int.natAbs_neg, Int.natAbs_natCast]
    have e1 : t * -(c : Int) = -(t * (c : Int)) := Int.mul_neg _ _
    have e2 : t * ((2 * c : Nat) : Int) = 2 * (t * (c : Int)) := by rw [Int.natCast_mul]; simp only [Int.mul_assoc, Int.mul_comm, Int.mul_left_comm]; rfl
    rw [e1, e2, Bool.eq_iff_iff]; simp only [decide_eq_true_eq]; omega
  · rw [if_neg h]
    obtain ⟨c, rfl⟩ : ∃ c : Nat, b = (c : Int) := ⟨b.natAbs, by omega⟩
    rw [Int.natAbs_natCast]
    have e2 : t * ((2 * c : Nat) : Int) = 2 * (t * (c : Int)) := by rw [Int.natCast_mul]; simp only [Int.mul_assoc, Int.mul_comm, Int.mul_left_comm]; rfl
    rw [e2, Bool.eq_iff_iff]; simp only [decide_eq_true_eq]; omega

theorem belowR_eq {t X : Int} {A : Nat} {neg : Prop} [Decidable neg] (hn : neg ↔ t ≤ 0) (hX : X = ((4 * A * pw 1074 : Nat) : Int)) : (decide neg || decide (ordI (t * t) X ≤ 0)) = decide (t * (rootD A : Int) ≤ 2 * (rootN A : Int)) := by
  rw [ord_le]
  have hD := rootD_pos A
  by_cases h : t ≤ 0
  · have h1 : t * (rootD A : Int) ≤ 0 := Int.mul_nonpos_of_nonpos_of_nonneg h (by omega)
    have : decide neg = true := by simpa using hn.2 h
    rw [this, Bool.true_or]
    symm
    simp only [decide_eq_true_eq]; omega
  · have : decide neg = false := by simpa using fun hh => h (hn.1 hh)
    rw [this, Bool.false_or]
    obtain ⟨k, rfl⟩ : ∃ k : Nat, t = (k : Int) := ⟨t.toNat, by omega⟩
    have hr := root_le A k
    subst hX
    rw [Bool.eq_iff_iff]
    simp only [decide_eq_true_eq]
    rw [← Int.natCast_mul, ← Int.natCast_mul, show (2 : Int) = ((2 : Nat) : Int) from rfl, ← Int.natCast_mul, Int.ofNat_le, Int.ofNat_le]
    exact hr.symm
theorem sameR_eq {t X : Int} {A : Nat} {pos : Prop} [Decidable pos] (hn : pos ↔ 0 ≤ t) (hX : X = ((4 * A * pw 1074 : Nat) : Int)) : (decide pos && (ordI (t * t) X == 0)) = decide (t * (rootD A : Int) = 2 * (rootN A : Int)) := by
  rw [ord_eq0]
  have hD := rootD_pos A
  by_cases h : 0 ≤ t
  · have : decide pos = true := by simpa using hn.2 h
    rw [this, Bool.true_and]
    obtain ⟨k, rfl⟩ : ∃ k : Nat, t = (k : Int) := ⟨t.toNat, by omega⟩
    have hr := root_eq A k
    subst hX
    rw [Bool.eq_iff_iff]
    simp only [decide_eq_true_eq]
    rw [← Int.natCast_mul, ← Int.natCast_mul, show (2 : Int) = ((2 : Nat) : Int) from rfl, ← Int.natCast_mul, Int.ofNat_inj, Int.ofNat_inj]
    exact hr.symm
  · have : decide pos = false := by simpa using fun hh => h (hn.1 hh)
    rw [this, Bool.false_and]
    have h1 : t * (rootD A : Int) < 0 := Int.mul_neg_of_neg_of_pos (by omega) (by omega)
    symm
    simp only [decide_eq_false_iff_not]; omega

/-- The middle of a place and the next one. -/
theorem mid_rng {lo hi mid : Int} (h : lo < hi) (l1 : -9218868437227405312 ≤ lo) (l2 : hi ≤ 9218868437227405311) (hm : mid = lo.tdiv 2 + hi.tdiv 2 + (lo.tmod 2 + hi.tmod 2 + 1).tdiv 2) : lo ≤ mid ∧ mid ≤ hi := by
  have a1 := Int.mul_tdiv_add_tmod lo 2
  have a2 := Int.mul_tdiv_add_tmod hi 2
  have b1 : -1 ≤ lo.tmod 2 ∧ lo.tmod 2 ≤ 1 := by
    have h1 := Int.tmod_lt_of_pos lo (show (0 : Int) < 2 by decide)
    have h2 := Int.lt_tmod_of_pos lo (show (0 : Int) < 2 by decide)
    omega
  have b2 : -1 ≤ hi.tmod 2 ∧ hi.tmod 2 ≤ 1 := by
    have h1 := Int.tmod_lt_of_pos hi (show (0 : Int) < 2 by decide)
    have h2 := Int.lt_tmod_of_pos hi (show (0 : Int) < 2 by decide)
    omega
  generalize lo.tmod 2 = r1 at *
  generalize hi.tmod 2 = r2 at *
  generalize lo.tdiv 2 = q1 at *
  generalize hi.tdiv 2 = q2 at *
  have c : (r1 + r2 + 1).tdiv 2 = if r1 + r2 ≥ 1 then 1 else 0 := by
    have : r1 + r2 = -2 ∨ r1 + r2 = -1 ∨ r1 + r2 = 0 ∨ r1 + r2 = 1 ∨ r1 + r2 = 2 := by omega
    rcases this with h | h | h | h | h <;> rw [h] <;> rfl
  rw [c] at hm
  split at hm <;> omega
end Go.Proofs.Ytjdccbigaahkeaa.Fl
