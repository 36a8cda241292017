/- One digit of a long division. (plain; no program) -/
import Derived.Test.YtjdccbigaahkeaaFl8
namespace Go.Proofs.Ytjdccbigaahkeaa.Fl
set_option linter.unusedSimpArgs false
set_option linter.unusedVariables false

theorem Int.lt_of_mul_lt {a b c : Int} (hc : 0 ≤ c) (h : a * c < b * c) : a < b := by
  rcases Int.lt_or_le a b with h1 | h1
  · exact h1
  · have := Int.mul_le_mul_of_nonneg_right h1 hc; omega

theorem digit {u d y y1 y0 : Int} (hy : y = y1 * 4294967296 + y0) (hu0 : 0 ≤ u) (hu : u < y) (h1 : 2147483648 ≤ y1) (h1' : y1 ≤ 4294967295) (h0 : 0 ≤ y0) (h0' : y0 ≤ 4294967295) (hd : 0 ≤ d) (hd' : d ≤ 4294967295) :
    ∃ q0 p0 r0 m0 m1 q rem : Int, u.tdiv y1 = q0 ∧ q0 * y1 = p0 ∧ u - p0 = r0 ∧ q0 * y0 = m0 ∧ (q0 - 1) * y0 = m1 ∧ 0 ≤ q0 ∧ q0 ≤ 4294967297 ∧ 0 ≤ p0 ∧ p0 ≤ u ∧ 0 ≤ r0 ∧ r0 < y1 ∧
      u * 4294967296 + d = q * y + rem ∧ 0 ≤ rem ∧ rem < y ∧ 0 ≤ q ∧ q ≤ 4294967295 ∧ 0 ≤ m0 ∧ (q0 ≤ 4294967295 → m0 ≤ 18446744065119617025) ∧ (q0 ≤ 4294967296 → m1 ≤ 18446744065119617025) ∧ (1 ≤ q0 → 0 ≤ m1) ∧
      ((q0 < 4294967296 ∧ m0 ≤ 4294967296 * r0 + d ∧ q = q0) ∨
       ((4294967296 ≤ q0 ∨ (1 ≤ q0 ∧ q0 < 4294967296 ∧ 4294967296 * r0 + d < m0)) ∧ 4294967296 ≤ r0 + y1 ∧ q = q0 - 1) ∨
       ((4294967296 ≤ q0 ∨ (1 ≤ q0 ∧ q0 < 4294967296 ∧ 4294967296 * r0 + d < m0)) ∧ r0 + y1 < 4294967296 ∧ q0 - 1 < 4294967296 ∧ m1 ≤ 4294967296 * (r0 + y1) + d ∧ q = q0 - 1) ∨
       ((4294967296 ≤ q0 ∨ (1 ≤ q0 ∧ q0 < 4294967296 ∧ 4294967296 * r0 + d < m0)) ∧ r0 + y1 < 4294967296 ∧ (4294967296 ≤ q0 - 1 ∨ (2 ≤ q0 ∧ q0 - 1 < 4294967296 ∧ 4294967296 * (r0 + y1) + d < m1)) ∧ 4294967296 ≤ r0 + y1 + y1 ∧ q = q0 - 1 - 1)) := by
  obtain ⟨q0, hq0⟩ : ∃ q0, u.tdiv y1 = q0 := ⟨_, rfl⟩
  have hq0' : u / y1 = q0 := by rw [← hq0, Int.tdiv_eq_ediv_of_nonneg hu0]
  have e1 := Int.mul_ediv_add_emod u y1
  have e2 := Int.emod_nonneg u (show y1 ≠ 0 by omega)
  have e3 := Int.emod_lt_of_pos u (show 0 < y1 by omega)
  rw [hq0', Int.mul_comm] at e1
  have q0n : 0 ≤ q0 := by rw [← hq0']; exact Int.ediv_nonneg hu0 (by omega)
  have q0b : q0 < 4294967298 := by
    apply Int.lt_of_mul_lt (c := y1) (by omega)
    omega
  have p0n : 0 ≤ q0 * y1 := Int.mul_nonneg q0n (by omega)
  have m0n : 0 ≤ q0 * y0 := Int.mul_nonneg q0n h0
  have m0b : q0 * y0 ≤ 4294967297 * y0 := Int.mul_le_mul_of_nonneg_right (by omega) h0
  have m0c : q0 ≤ 4294967295 → q0 * y0 ≤ 18446744065119617025 := by
    intro h
    have : q0 * y0 ≤ 4294967295 * y0 := Int.mul_le_mul_of_nonneg_right (by omega) h0
    omega
  have m1e : (q0 - 1) * y0 = q0 * y0 - y0 := by rw [Int.sub_mul, Int.one_mul]
  have m1c : q0 ≤ 4294967296 → (q0 - 1) * y0 ≤ 18446744065119617025 := by
    intro h
    have : (q0 - 1) * y0 ≤ 4294967295 * y0 := Int.mul_le_mul_of_nonneg_right (by omega) h0
    omega
  have m1n : 1 ≤ q0 → 0 ≤ (q0 - 1) * y0 := fun h => Int.mul_nonneg (by omega) h0
  have ey : ∀ q : Int, q * y = (q * y1) * 4294967296 + q * y0 := by
    intro q; rw [hy, Int.mul_add, Int.mul_assoc]
  have ey0 := ey q0
  have big : 4294967296 ≤ q0 → 4294967296 * y ≤ q0 * y := fun h => Int.mul_le_mul_of_nonneg_right h (by omega)
  have big1 : 4294967296 ≤ q0 - 1 → 4294967296 * y ≤ (q0 - 1) * y := fun h => Int.mul_le_mul_of_nonneg_right h (by omega)
  have ey1 : (q0 - 1) * y = q0 * y - y := by rw [Int.sub_mul, Int.one_mul]
  have ey2 : (q0 - 1 - 1) * y = q0 * y - 2 * y := by rw [Int.sub_mul, Int.sub_mul]; omega
  have fin : ∀ q rem : Int, u * 4294967296 + d = q * y + rem → 0 ≤ rem → rem < y → 0 ≤ q ∧ q ≤ 4294967295 := by
    intro q rem h h2 h3
    constructor
    · have : (-1) * y < q * y := by omega
      have := Int.lt_of_mul_lt (c := y) (by omega) this
      omega
    · have : q * y < 4294967296 * y := by omega
      have := Int.lt_of_mul_lt (c := y) (by omega) this
      omega
  have mz : q0 = 0 → q0 * y0 = 0 := by rintro rfl; exact Int.zero_mul _
  have mz1 : q0 = 1 → (q0 - 1) * y0 = 0 := by rintro rfl; rw [show (1 : Int) - 1 = 0 by rfl]; exact Int.zero_mul _
  have done : ∀ q rem : Int, u * 4294967296 + d = q * y + rem → 0 ≤ rem → rem < y → _ → _ := fun q rem h h2 h3 h4 =>
    (⟨q0, q0 * y1, u % y1, q0 * y0, (q0 - 1) * y0, q, rem, hq0, rfl, by omega, rfl, rfl, q0n, by omega, p0n, by omega, e2, e3, h, h2, h3, (fin q rem h h2 h3).1, (fin q rem h h2 h3).2, m0n, m0c, m1c, m1n, h4⟩ : ∃ q0 p0 r0 m0 m1 q rem : Int, u.tdiv y1 = q0 ∧ q0 * y1 = p0 ∧ u - p0 = r0 ∧ q0 * y0 = m0 ∧ (q0 - 1) * y0 = m1 ∧ 0 ≤ q0 ∧ q0 ≤ 4294967297 ∧ 0 ≤ p0 ∧ p0 ≤ u ∧ 0 ≤ r0 ∧ r0 < y1 ∧
      u * 4294967296 + d = q * y + rem ∧ 0 ≤ rem ∧ rem < y ∧ 0 ≤ q ∧ q ≤ 4294967295 ∧ 0 ≤ m0 ∧ (q0 ≤ 4294967295 → m0 ≤ 18446744065119617025) ∧ (q0 ≤ 4294967296 → m1 ≤ 18446744065119617025) ∧ (1 ≤ q0 → 0 ≤ m1) ∧
      ((q0 < 4294967296 ∧ m0 ≤ 4294967296 * r0 + d ∧ q = q0) ∨
       ((4294967296 ≤ q0 ∨ (1 ≤ q0 ∧ q0 < 4294967296 ∧ 4294967296 * r0 + d < m0)) ∧ 4294967296 ≤ r0 + y1 ∧ q = q0 - 1) ∨
       ((4294967296 ≤ q0 ∨ (1 ≤ q0 ∧ q0 < 4294967296 ∧ 4294967296 * r0 + d < m0)) ∧ r0 + y1 < 4294967296 ∧ q0 - 1 < 4294967296 ∧ m1 ≤ 4294967296 * (r0 + y1) + d ∧ q = q0 - 1) ∨
       ((4294967296 ≤ q0 ∨ (1 ≤ q0 ∧ q0 < 4294967296 ∧ 4294967296 * r0 + d < m0)) ∧ r0 + y1 < 4294967296 ∧ (4294967296 ≤ q0 - 1 ∨ (2 ≤ q0 ∧ q0 - 1 < 4294967296 ∧ 4294967296 * (r0 + y1) + d < m1)) ∧ 4294967296 ≤ r0 + y1 + y1 ∧ q = q0 - 1 - 1)))
  generalize hqy : q0 * y = qy at *
  generalize q0 * y1 = p0 at *
  generalize hm0 : q0 * y0 = m0 at *
  generalize (q0 - 1) * y0 = m1 at *
  generalize u % y1 = r0 at *
  by_cases c0 : q0 < 4294967296 ∧ m0 ≤ 4294967296 * r0 + d
  · exact done q0 (u * 4294967296 + d - qy) (by rw [hqy]; omega) (by omega) (by omega) (Or.inl ⟨c0.1, c0.2, rfl⟩)
  · have k0 : 4294967296 ≤ q0 ∨ (1 ≤ q0 ∧ q0 < 4294967296 ∧ 4294967296 * r0 + d < m0) := by omega
    have n0 : u * 4294967296 + d - qy < 0 := by omega
    by_cases c1 : 4294967296 ≤ r0 + y1
    · exact done (q0 - 1) (u * 4294967296 + d - (qy - y)) (by omega) (by omega) (by omega) (Or.inr (Or.inl ⟨k0, c1, rfl⟩))
    · by_cases c2 : q0 - 1 < 4294967296 ∧ m1 ≤ 4294967296 * (r0 + y1) + d
      · exact done (q0 - 1) (u * 4294967296 + d - (qy - y)) (by omega) (by omega) (by omega) (Or.inr (Or.inr (Or.inl ⟨k0, by omega, c2.1, c2.2, rfl⟩)))
      · exact done (q0 - 1 - 1) (u * 4294967296 + d - (qy - 2 * y)) (by omega) (by omega) (by omega) (Or.inr (Or.inr (Or.inr ⟨k0, by omega, by omega, by omega, rfl⟩)))
end Go.Proofs.Ytjdccbigaahkeaa.Fl
