/- Numbers M 2^E of the reference: their amounts, compared and added. (plain; no program) -/
import Derived.Test.YtjdccbigaahkeaaFl13
namespace Go.Proofs.Ytjdccbigaahkeaa.Fl
set_option linter.unusedSimpArgs false
set_option linter.unusedVariables false

/-- The amount in units of 2^-K. -/
def nv (K : Int) (s : Bool) (m : Nat) (e : Int) : Int := if s then -((m * pw (e + K).toNat : Nat) : Int) else ((m * pw (e + K).toNat : Nat) : Int)
def sgnI (s : Bool) (m : Nat) : Int := if m = 0 then 0 else if s then -1 else 1
def ordI (a b : Int) : Int := if a < b then -1 else if b < a then 1 else 0
def cmpI (m n : Nat) : Int := if m < n then -1 else if n < m then 1 else 0

theorem nv_zero (K : Int) (s : Bool) (e : Int) : nv K s 0 e = 0 := by unfold nv; cases s <;> simp

theorem nv_pos (K : Int) {m : Nat} (e : Int) (h : m ≠ 0) : 0 < m * pw (e + K).toNat := Nat.mul_pos (Nat.pos_of_ne_zero h) (pw_pos _)

/-- To another exponent. -/
theorem nv_level {K : Int} (s : Bool) (m : Nat) {e d : Int} (h1 : 0 ≤ d + K) (h2 : d ≤ e) : nv K s (m * 2 ^ (e - d).toNat) d = nv K s m e := by
  unfold nv
  have : m * 2 ^ (e - d).toNat * pw (d + K).toNat = m * pw (e + K).toNat := by
    rw [← pw_eq, Nat.mul_assoc, ← pw_add]; congr 2; omega
  rw [this]

theorem ord_scaled {a b : Nat} {p : Nat} (hp : 0 < p) : cmpI (a * p) (b * p) = cmpI a b := by
  unfold cmpI
  simp only [Nat.mul_lt_mul_right hp]

theorem ordI_nat (a b : Nat) : ordI (a : Int) (b : Int) = cmpI a b := by
  unfold ordI cmpI
  simp only [Int.ofNat_lt]
theorem ordI_neg (a b : Int) : ordI (-a) (-b) = - ordI a b := by
  unfold ordI
  repeat' split
  all_goals omega

/-- Held against each other by their bits. -/
theorem bits_lt {K : Int} {m n : Nat} {e f : Int} (hm : m ≠ 0) (hn : n ≠ 0) (he : 0 ≤ e + K) (hf : 0 ≤ f + K) (h : (blen m : Int) + e < blen n + f) : m * pw (e + K).toNat < n * pw (f + K).toNat := by
  have h1 := blen_lt m
  have h2 := blen_ge hn
  have h3 := blen_pos hn
  rw [← pw_eq] at h1 h2
  have a1 : m * pw (e + K).toNat < pw (blen m) * pw (e + K).toNat := Nat.mul_lt_mul_of_pos_right h1 (pw_pos _)
  have a2 : pw (blen n - 1) * pw (f + K).toNat ≤ n * pw (f + K).toNat := Nat.mul_le_mul_right _ h2
  rw [← pw_add] at a1 a2
  have a3 : pw (blen m + (e + K).toNat) ≤ pw (blen n - 1 + (f + K).toNat) := by
    rw [pw_eq, pw_eq]; exact Nat.pow_le_pow_right (by decide) (by omega)
  omega

/-- What the reference's order does. -/
def ordN (s t : Bool) (m n : Nat) (e f : Int) : Int :=
  if sgnI s m ≠ sgnI t n then (if sgnI s m < sgnI t n then -1 else 1)
  else if sgnI s m = 0 then 0
  else if s then 0 - (if (blen m : Int) + e < blen n + f then -1 else if (blen n : Int) + f < blen m + e then 1 else cmpI (m * 2 ^ (e - min e f).toNat) (n * 2 ^ (f - min e f).toNat))
  else (if (blen m : Int) + e < blen n + f then -1 else if (blen n : Int) + f < blen m + e then 1 else cmpI (m * 2 ^ (e - min e f).toNat) (n * 2 ^ (f - min e f).toNat))

theorem ordN_mag {K : Int} {m n : Nat} {e f : Int} (hm : m ≠ 0) (hn : n ≠ 0) (he : 0 ≤ e + K) (hf : 0 ≤ f + K) :
    (if (blen m : Int) + e < blen n + f then -1 else if (blen n : Int) + f < blen m + e then 1 else cmpI (m * 2 ^ (e - min e f).toNat) (n * 2 ^ (f - min e f).toNat)) = cmpI (m * pw (e + K).toNat) (n * pw (f + K).toNat) := by
  by_cases c1 : (blen m : Int) + e < blen n + f
  · rw [if_pos c1]
    have := bits_lt hm hn he hf c1
    unfold cmpI; rw [if_pos this]
  · rw [if_neg c1]
    by_cases c2 : (blen n : Int) + f < blen m + e
    · rw [if_pos c2]
      have := bits_lt hn hm hf he c2
      unfold cmpI; rw [if_neg (by omega), if_pos this]
    · rw [if_neg c2]
      have e1 : m * pw (e + K).toNat = m * 2 ^ (e - min e f).toNat * pw (min e f + K).toNat := by
        rw [← pw_eq, Nat.mul_assoc, ← pw_add]; congr 2; omega
      have e2 : n * pw (f + K).toNat = n * 2 ^ (f - min e f).toNat * pw (min e f + K).toNat := by
        rw [← pw_eq, Nat.mul_assoc, ← pw_add]; congr 2; omega
      rw [e1, e2, ord_scaled (pw_pos _)]

theorem ordN_eq {K : Int} {s t : Bool} {m n : Nat} {e f : Int} (he : 0 ≤ e + K) (hf : 0 ≤ f + K) : ordN s t m n e f = ordI (nv K s m e) (nv K t n f) := by
  by_cases hm : m = 0
  · subst hm
    rw [nv_zero]
    by_cases hn : n = 0
    · subst hn; rw [nv_zero]; simp [ordN, sgnI, ordI]
    · have p := nv_pos K f hn
      unfold ordN sgnI nv ordI
      cases t <;> simp [hn] <;> omega
  · have p := nv_pos K e hm
    by_cases hn : n = 0
    · subst hn
      rw [nv_zero]
      unfold ordN sgnI nv ordI
      cases s <;> simp [hm] <;> omega
    · have p2 := nv_pos K f hn
      have hmag := ordN_mag hm hn he hf
      unfold ordN
      rw [hmag]
      unfold sgnI nv
      rw [if_neg hm, if_neg hn]
      generalize m * pw (e + K).toNat = x at *
      generalize n * pw (f + K).toNat = y at *
      cases s <;> cases t
      · simp [ordI_nat]
      · simp; unfold ordI; rw [if_neg (by omega), if_pos (by omega)]
      · simp; unfold ordI; rw [if_pos (by omega)]
      · simp; rw [ordI_neg, ordI_nat]

/-- Of the greater one's size. -/
theorem level_size {m n : Nat} {e f : Int} (hm : m ≠ 0) (hn : n ≠ 0) (h : (blen m : Int) + e = blen n + f) : m * 2 ^ (e - min e f).toNat < 2 * m * n + 2 * m + 2 * n := by
  by_cases c : e ≤ f
  · rw [show (e - min e f).toNat = 0 by omega]
    have : m * 1 ≤ m * n := Nat.mul_le_mul_left _ (by omega)
    rw [Nat.mul_assoc]; omega
  · have h1 := blen_lt m
    have h2 := blen_ge hn
    have h3 := blen_pos hn
    have a1 : m * 2 ^ (e - min e f).toNat < 2 ^ blen m * 2 ^ (e - min e f).toNat := Nat.mul_lt_mul_of_pos_right h1 (Nat.two_pow_pos _)
    rw [← Nat.pow_add, show blen m + (e - min e f).toNat = (blen n - 1) + 1 by omega, Nat.pow_succ] at a1
    omega

/-- What the reference's sum is. -/
theorem sum_nv {K : Int} (s t : Bool) (m n : Nat) (e f : Int) (he : 0 ≤ e + K) (hf : 0 ≤ f + K) :
    (s = t → nv K s (m * 2 ^ (e - min e f).toNat + n * 2 ^ (f - min e f).toNat) (min e f) = nv K s m e + nv K t n f) ∧
    (s ≠ t → n * 2 ^ (f - min e f).toNat ≤ m * 2 ^ (e - min e f).toNat → nv K s (m * 2 ^ (e - min e f).toNat - n * 2 ^ (f - min e f).toNat) (min e f) = nv K s m e + nv K t n f) ∧
    (s ≠ t → m * 2 ^ (e - min e f).toNat ≤ n * 2 ^ (f - min e f).toNat → nv K t (n * 2 ^ (f - min e f).toNat - m * 2 ^ (e - min e f).toNat) (min e f) = nv K s m e + nv K t n f) := by
  rw [← nv_level (K := K) s m (e := e) (d := min e f) (by omega) (by omega), ← nv_level (K := K) t n (e := f) (d := min e f) (by omega) (by omega)]
  generalize m * 2 ^ (e - min e f).toNat = x
  generalize n * 2 ^ (f - min e f).toNat = y
  unfold nv
  generalize pw (min e f + K).toNat = p
  refine ⟨?_, ?_, ?_⟩
  · rintro rfl
    rw [Nat.add_mul]
    cases s <;> simp <;> omega
  · intro hst hle
    have := Nat.mul_le_mul_right p hle
    rw [Nat.sub_mul]
    cases s <;> cases t <;> simp at * <;> omega
  · intro hst hle
    have := Nat.mul_le_mul_right p hle
    rw [Nat.sub_mul]
    cases s <;> cases t <;> simp at * <;> omega

theorem prod_nv {K L : Int} (s t : Bool) (m n : Nat) (e f : Int) (he : 0 ≤ e + K) (hf : 0 ≤ f + L) : nv (K + L) (s != t) (m * n) (e + f) = nv K s m e * nv L t n f := by
  have h : m * n * pw (e + f + (K + L)).toNat = m * pw (e + K).toNat * (n * pw (f + L).toNat) := by
    rw [show (e + f + (K + L)).toNat = (e + K).toNat + (f + L).toNat by omega, pw_add]
    simp only [Nat.mul_assoc, Nat.mul_comm, Nat.mul_left_comm]
  unfold nv
  rw [h]
  generalize m * pw (e + K).toNat = x
  generalize n * pw (f + L).toNat = y
  cases s <;> cases t <;> simp [Int.neg_mul, Int.mul_neg]
end Go.Proofs.Ytjdccbigaahkeaa.Fl
