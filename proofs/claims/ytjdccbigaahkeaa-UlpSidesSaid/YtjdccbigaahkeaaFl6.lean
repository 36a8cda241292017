/- Whole numbers of 53 bits as floats; which rung q 2^e has. (plain; no program) -/
import Derived.Test.YtjdccbigaahkeaaFl5
namespace Go.Proofs.Ytjdccbigaahkeaa.Fl
set_option linter.unusedSimpArgs false
set_option linter.unusedVariables false

/-- How many bits. -/
def blen (n : Nat) : Nat := if n = 0 then 0 else n.log2 + 1

theorem blen_zero : blen 0 = 0 := rfl
theorem blen_lt (n : Nat) : n < 2 ^ blen n := by
  unfold blen
  split
  · rename_i h; subst h; decide
  · exact Nat.lt_log2_self
theorem blen_ge {n : Nat} (h : n ≠ 0) : 2 ^ (blen n - 1) ≤ n := by
  unfold blen
  rw [if_neg h]
  exact Nat.log2_self_le h
theorem blen_le {n k : Nat} (h : n < 2 ^ k) : blen n ≤ k := by
  by_cases h0 : n = 0
  · subst h0; simp [blen]
  · have h1 := blen_ge h0
    have h2 : 2 ^ (blen n - 1) < 2 ^ k := by omega
    have := (Nat.pow_lt_pow_iff_right (by decide : 1 < 2)).1 h2
    omega
theorem blen_pos {n : Nat} (h : n ≠ 0) : 0 < blen n := by unfold blen; rw [if_neg h]; omega
theorem blen_unique {n k : Nat} (h1 : 2 ^ k ≤ n) (h2 : n < 2 ^ (k + 1)) : blen n = k + 1 := by
  have p := Nat.two_pow_pos k
  have h0 : n ≠ 0 := by omega
  have a := blen_le h2
  have b := blen_lt n
  have h3 : 2 ^ k < 2 ^ blen n := by omega
  have := (Nat.pow_lt_pow_iff_right (by decide : 1 < 2)).1 h3
  omega
attribute [irreducible] blen

/-- float64(q), q a whole number from 1 to 2^53. -/
theorem of_whole {q : Nat} (h1 : 1 ≤ q) (h2 : q ≤ 9007199254740992) :
    ∃ f : Nat, floatOfInt .f64 (q : Int) = f ∧ BIN ≤ f ∧ f < INFR ∧ (f : Int) / 4503599627370496 = 1022 + blen q ∧ G f = q * pw 1074 := by
  have hl := blen_lt q
  have hg := blen_ge (n := q) (by omega)
  have hp := blen_pos (n := q) (by omega)
  generalize hL : blen q = L at *
  have hL54 : L ≤ 54 := by rw [← hL]; exact blen_le (by omega)
  -- q 2^(54 - L), half of it, is the significand
  obtain ⟨k, E, hk1, hk2, hE, hkE, hEB⟩ : ∃ k E : Nat, BIN ≤ k ∧ k < 2 * BIN ∧ E = 1021 + L ∧ k * 2 ^ L = q * 2 ^ 53 ∧ 0 < E := by
    by_cases c : L ≤ 53
    · refine ⟨q * 2 ^ (53 - L), 1021 + L, ?_, ?_, rfl, ?_, by omega⟩
      · have : 2 ^ (L - 1) * 2 ^ (53 - L) ≤ q * 2 ^ (53 - L) := Nat.mul_le_mul_right _ hg
        rw [← Nat.pow_add, show L - 1 + (53 - L) = 52 by omega] at this
        exact this
      · have : q * 2 ^ (53 - L) < 2 ^ L * 2 ^ (53 - L) := Nat.mul_lt_mul_of_pos_right hl (Nat.two_pow_pos _)
        rw [← Nat.pow_add, show L + (53 - L) = 53 by omega] at this
        exact this
      · rw [Nat.mul_assoc, ← Nat.pow_add, show 53 - L + L = 53 by omega]
    · have hL' : L = 54 := by omega
      subst hL'
      have : q = 9007199254740992 := by
        have : 2 ^ (54 - 1) ≤ q := hg
        omega
      subst this
      exact ⟨BIN, 1021 + 54, Nat.le_refl _, by decide, rfl, by decide, by decide⟩
  refine ⟨E * BIN + k, ?_, by omega, by unfold BIN at *; unfold INFR; omega, by unfold BIN at *; omega, ?_⟩
  · unfold floatOfInt FloatKind.nearest FloatKind.encode
    have hn : ((q : Int) < 0) = False := by simp
    simp only [hn, decide_false, Int.natAbs_natCast]
    unfold Ieee.Format.write
    simp only []
    have hx := nearest_all false q 1074 0 (G (E * BIN + k)) 1 (by decide) (by
      rw [Nat.pow_zero, Nat.mul_one, Nat.mul_one, G_fit (by omega) (Or.inr hk1), hE]
      generalize hz : 1021 = z
      have hz2 : 1074 = z + 53 := by omega
      rw [hz2, Nat.pow_add, Nat.pow_add]
      calc k * (2 ^ z * 2 ^ L) = (k * 2 ^ L) * 2 ^ z := by simp only [Nat.mul_assoc, Nat.mul_comm, Nat.mul_left_comm]
        _ = q * (2 ^ z * 2 ^ 53) := by rw [hkE]; simp only [Nat.mul_assoc, Nat.mul_comm, Nat.mul_left_comm])
    have e0 : (-1074 + ((1074 : Nat) : Int) - ((0 : Nat) : Int)) = 0 := by omega
    rw [e0] at hx
    rw [hx, rungOf_exact1 (by unfold BIN at *; unfold INFR; omega)]
    unfold word; simp
  · rw [G_fit (by omega) (Or.inr hk1), hE]
    have e1 : pw 1074 = pw 1021 * pw 53 := by rw [← pw_add]
    rw [e1]
    have e2 : (2 : Nat) ^ (1021 + L) = pw 1021 * 2 ^ L := by rw [← pw_eq, ← pw_eq, pw_add]
    rw [e2, pw_eq 53]
    generalize pw 1021 = P
    calc k * (P * 2 ^ L) = (k * 2 ^ L) * P := by simp only [Nat.mul_assoc, Nat.mul_comm, Nat.mul_left_comm]
      _ = q * (P * 2 ^ 53) := by rw [hkE]; simp only [Nat.mul_assoc, Nat.mul_comm, Nat.mul_left_comm]

/-- Has q 2^e room? -/
theorem room_iff {q E : Nat} (h1 : 1 ≤ q) (hq : q ≤ 2 * BIN) (hE : E = 0 ∨ BIN ≤ q) : (blen q : Int) + ((E : Int) - 1074) ≤ 1024 ↔ E * BIN + q < INFR := by
  have hl := blen_lt q
  have hg := blen_ge (n := q) (by omega)
  rcases hE with h | h
  · subst h
    have : blen q ≤ 54 := blen_le (by unfold BIN at hq; omega)
    unfold BIN at *; unfold INFR; omega
  · by_cases c : q = 2 * BIN
    · have hb : blen q = 54 := blen_unique (k := 53) (by rw [c]; decide) (by rw [c]; decide)
      rw [hb]; unfold BIN at *; unfold INFR; omega
    · have hb : blen q = 53 := blen_unique (k := 52) h (by unfold BIN at *; omega)
      rw [hb]; unfold BIN at *; unfold INFR; omega

theorem G_at {q E : Nat} (hq : q ≤ 2 * BIN) (hE : E = 0 ∨ BIN ≤ q) {e : Int} (he : e = (E : Int) - 1074) (hr : E * BIN + q < INFR) :
    rungOf (q * pw 1074 * 2 ^ e.toNat) (2 ^ (-e).toNat) 0 = E * BIN + q := by
  have : q * pw 1074 * 2 ^ e.toNat = G (E * BIN + q) * 2 ^ (-e).toNat := by
    rw [G_fit hq hE, Nat.mul_assoc, Nat.mul_assoc, ← pw_eq, ← pw_eq, ← pw_eq, ← pw_add, ← pw_add]
    congr 2; omega
  rw [this]
  exact rungOf_exact (Nat.two_pow_pos _) hr 0

end Go.Proofs.Ytjdccbigaahkeaa.Fl
