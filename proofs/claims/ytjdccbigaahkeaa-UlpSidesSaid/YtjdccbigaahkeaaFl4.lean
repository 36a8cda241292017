/- Numbers of 128 bits: shifted right, whether their last bits are 0; as the walk writes them. (plain; no program) -/
import Derived.Test.YtjdccbigaahkeaaFl3
namespace Go.Proofs.Ytjdccbigaahkeaa.Fl
set_option linter.unusedSimpArgs false
set_option linter.unusedVariables false

theorem toNat_pow2 (n : Nat) : ((2 : Int) ^ n).toNat = 2 ^ n := by
  have : ((2 : Int) ^ n) = ((2 ^ n : Nat) : Int) := by simp
  rw [this, Int.toNat_natCast]

theorem pow2_cast (n : Nat) : ((2 ^ n : Nat) : Int) = (2 : Int) ^ n := by simp

theorem wrap64u (x : Int) : IntKind.u64.wrap x = x % 18446744073709551616 := by
  simp [IntKind.wrap, IntKind.signed, IntKind.bits]

/-- hi 2^64 + lo, n bits to the right, in 64 bits. -/
def rightI (hi lo : Int) (n : Nat) : Int := (hi * 18446744073709551616 + lo) / 2 ^ n % 18446744073709551616
/-- Are its last n bits 0? -/
def evenI (hi lo : Int) (n : Nat) : Bool := decide ((hi * 18446744073709551616 + lo) % 2 ^ n = 0)

theorem wrap_shl_zero {x : Int} (hx : 0 ≤ x) {n : Nat} (hn : n ≤ 64) : (IntKind.u64.wrap (x * 2 ^ (64 - n)) == 0) = decide (x % 2 ^ n = 0) := by
  rw [wrap64u]
  obtain ⟨X, rfl⟩ := Int.eq_ofNat_of_zero_le hx
  have ep : (18446744073709551616 : Nat) = 2 ^ n * 2 ^ (64 - n) := by
    rw [show (18446744073709551616 : Nat) = 2 ^ 64 from rfl, ← Nat.pow_add]; congr 1; omega
  have e64 : (18446744073709551616 : Int) = ((18446744073709551616 : Nat) : Int) := rfl
  rw [← pow2_cast, ← pow2_cast, e64, ← Int.natCast_mul, ← Int.natCast_emod, ← Int.natCast_emod, ep, Nat.mul_mod_mul_right]
  have pm := Nat.two_pow_pos (64 - n)
  rw [Bool.eq_iff_iff]
  simp only [beq_iff_eq, decide_eq_true_eq]
  constructor
  · intro h
    have h' : X % 2 ^ n * 2 ^ (64 - n) = 0 := by omega
    rcases Nat.mul_eq_zero.1 h' with h' | h' <;> omega
  · intro h
    have h' : X % 2 ^ n = 0 := by omega
    rw [h']; simp

theorem right_none {hi lo : Int} (h2 : 0 ≤ lo) (h3 : lo ≤ 18446744073709551615) : rightI hi lo 0 = lo := by
  unfold rightI; simp; omega

theorem even_near {hi lo : Int} (h2 : 0 ≤ lo) {n : Nat} (hn : n < 64) : (IntKind.u64.wrap (lo * 2 ^ (64 - n)) == 0) = evenI hi lo n := by
  rw [wrap_shl_zero h2 (by omega)]
  unfold evenI
  congr 1
  have ep : (18446744073709551616 : Int) = 2 ^ n * 2 ^ (64 - n) := by
    rw [← Int.pow_add, show n + (64 - n) = 64 by omega]; decide
  have : hi * 18446744073709551616 + lo = lo + 2 ^ n * (hi * 2 ^ (64 - n)) := by
    rw [ep, Int.add_comm]; congr 1
    rw [Int.mul_left_comm]
  rw [this, Int.add_mul_emod_self_left]

section
variable {hi lo : Int} (h0 : 0 ≤ hi) (h1 : hi ≤ 18446744073709551615) (h2 : 0 ≤ lo) (h3 : lo ≤ 18446744073709551615)
include h0 h1 h2 h3

theorem right_far {n : Nat} (hn : 128 ≤ n) : rightI hi lo n = 0 := by
  unfold rightI
  have p : (2 : Int) ^ 128 ≤ 2 ^ n := by
    have := Nat.pow_le_pow_right (show 0 < 2 by decide) hn
    rw [← pow2_cast, ← pow2_cast]; omega
  rw [Int.ediv_eq_zero_of_lt (by omega) (by
    have e : (2 : Int) ^ 128 = 340282366920938463463374607431768211456 := by decide
    omega)]
  rfl

theorem right_mid {n : Nat} (hn : 64 ≤ n) : rightI hi lo n = hi / 2 ^ (n - 64) := by
  unfold rightI
  obtain ⟨H, rfl⟩ := Int.eq_ofNat_of_zero_le h0
  obtain ⟨L, rfl⟩ := Int.eq_ofNat_of_zero_le h2
  rw [← pow2_cast, ← pow2_cast]
  have e : (2 : Nat) ^ n = 18446744073709551616 * 2 ^ (n - 64) := by
    rw [show (18446744073709551616 : Nat) = 2 ^ 64 from rfl, ← Nat.pow_add]; congr 1; omega
  have e2 : (H * 18446744073709551616 + L) / 2 ^ n = H / 2 ^ (n - 64) := by
    rw [e, ← Nat.div_div_eq_div_mul]; congr 1; omega
  have e3 : ((H : Int) * 18446744073709551616 + (L : Int)) = ((H * 18446744073709551616 + L : Nat) : Int) := by simp
  rw [e3, ← Int.natCast_ediv, ← Int.natCast_ediv, e2]
  have : H / 2 ^ (n - 64) ≤ H := Nat.div_le_self _ _
  generalize H / 2 ^ (n - 64) = q at *
  omega

theorem right_near {n : Nat} (hn0 : 0 < n) (hn : n < 64) : bits BinOp.or IntKind.u64 (lo / 2 ^ n) (IntKind.u64.wrap (hi * 2 ^ (64 - n))) = rightI hi lo n := by
  unfold rightI
  rw [wrap64u]
  obtain ⟨H, rfl⟩ := Int.eq_ofNat_of_zero_le h0
  obtain ⟨L, rfl⟩ := Int.eq_ofNat_of_zero_le h2
  rw [← pow2_cast, ← pow2_cast]
  have e3 : ((H : Int) * 18446744073709551616 + (L : Int)) = ((H * 18446744073709551616 + L : Nat) : Int) := by simp
  have e64 : (18446744073709551616 : Int) = ((18446744073709551616 : Nat) : Int) := rfl
  rw [e3, e64, ← Int.natCast_mul, ← Int.natCast_ediv, ← Int.natCast_ediv, ← Int.natCast_emod, ← Int.natCast_emod]
  have pn := Nat.two_pow_pos n
  have pm := Nat.two_pow_pos (64 - n)
  have ep : (18446744073709551616 : Nat) = 2 ^ (64 - n) * 2 ^ n := by
    rw [show (18446744073709551616 : Nat) = 2 ^ 64 from rfl, ← Nat.pow_add]; congr 1; omega
  have l1 : L / 2 ^ n < 2 ^ (64 - n) := by rw [Nat.div_lt_iff_lt_mul pn, ← ep]; omega
  have e5 : H * 2 ^ (64 - n) % 18446744073709551616 = (H % 2 ^ n) * 2 ^ (64 - n) := by
    rw [ep, Nat.mul_comm (2 ^ (64 - n)) (2 ^ n), Nat.mul_mod_mul_right]
  have l2 : H * 2 ^ (64 - n) % 18446744073709551616 < 18446744073709551616 := Nat.mod_lt _ (by decide)
  have l3 : L / 2 ^ n < 18446744073709551616 := by have := Nat.div_le_self L (2 ^ n); omega
  rw [u64_or _ _ (Int.natCast_nonneg _) (Int.ofNat_lt.2 l3) (Int.natCast_nonneg _) (Int.ofNat_lt.2 l2), Int.toNat_natCast, Int.toNat_natCast]
  congr 1
  rw [e5, Nat.or_comm, ← Nat.shiftLeft_eq, ← Nat.shiftLeft_add_eq_or_of_lt l1, Nat.shiftLeft_eq, ← e5]
  have e6 : (H * 18446744073709551616 + L) / 2 ^ n = H * 2 ^ (64 - n) + L / 2 ^ n := by
    have : H * 18446744073709551616 + L = L + 2 ^ n * (H * 2 ^ (64 - n)) := by
      rw [ep, Nat.add_comm]; congr 1
      rw [Nat.mul_left_comm (2 ^ n) H, Nat.mul_comm (2 ^ n)]
    rw [this, Nat.add_mul_div_left _ _ pn, Nat.add_comm]
  rw [e6, Nat.add_mod, e5]
  rw [Nat.mod_eq_of_lt l3]
  symm
  apply Nat.mod_eq_of_lt
  have hm : H % 2 ^ n < 2 ^ n := Nat.mod_lt _ pn
  have : (H % 2 ^ n + 1) * 2 ^ (64 - n) ≤ 2 ^ n * 2 ^ (64 - n) := Nat.mul_le_mul_right _ (by omega)
  rw [Nat.add_mul, Nat.mul_comm (2 ^ n)] at this
  omega

theorem even_far {n : Nat} (hn : 64 ≤ n) (hn2 : n ≤ 128) : (lo == 0 && (n == 64 || IntKind.u64.wrap (hi * 2 ^ (128 - n)) == 0)) = evenI hi lo n := by
  obtain ⟨H, rfl⟩ := Int.eq_ofNat_of_zero_le h0
  obtain ⟨L, rfl⟩ := Int.eq_ofNat_of_zero_le h2
  have hz := wrap_shl_zero h0 (n := n - 64) (by omega)
  rw [show 64 - (n - 64) = 128 - n by omega] at hz
  rw [hz]
  unfold evenI
  have e3 : ((H : Int) * 18446744073709551616 + (L : Int)) = ((H * 18446744073709551616 + L : Nat) : Int) := by simp
  rw [e3, ← pow2_cast, ← pow2_cast, ← Int.natCast_emod, ← Int.natCast_emod]
  have e : (2 : Nat) ^ n = 18446744073709551616 * 2 ^ (n - 64) := by
    rw [show (18446744073709551616 : Nat) = 2 ^ 64 from rfl, ← Nat.pow_add]; congr 1; omega
  have e4 : (H * 18446744073709551616 + L) % 2 ^ n = L + 18446744073709551616 * (H % 2 ^ (n - 64)) := by
    rw [e, Nat.mod_mul]
    have a1 : (H * 18446744073709551616 + L) % 18446744073709551616 = L := by omega
    have a2 : (H * 18446744073709551616 + L) / 18446744073709551616 = H := by omega
    rw [a1, a2]
  rw [e4, Bool.eq_iff_iff]
  by_cases c : n = 64
  · subst c
    simp <;> omega
  · have : (n == 64) = false := by simpa using c
    rw [this]
    simp
    omega
end

end Go.Proofs.Ytjdccbigaahkeaa.Fl
