/- Numbers of 128 bits: shifted right, whether their last bits are 0; as the walk writes them. (plain; no program) -/
import Derived.Test.YtkmgfbhnioojhaaGreatPmFlA
namespace Go.Proofs.YtkmgfbhnioojhaaGreat.Fl
set_option linter.unusedSimpArgs false
set_option linter.unusedVariables false

theorem pow2_cast (n : Nat) : ((2 ^ n : Nat) : Int) = (2 : Int) ^ n := by simp

theorem wrap64u (x : Int) : IntKind.u64.wrap x = x % 18446744073709551616 := by
  simp [IntKind.wrap, IntKind.signed, IntKind.bits]

/-- hi 2^64 + lo, n bits to the right, in 64 bits. -/
def rightI (hi lo : Int) (n : Nat) : Int := (hi * 18446744073709551616 + lo) / 2 ^ n % 18446744073709551616
/-- Are its last n bits 0? -/
def evenI (hi lo : Int) (n : Nat) : Bool := decide ((hi * 18446744073709551616 + lo) % 2 ^ n = 0)

theorem wrap_shl_zero {x : Int} (hx : 0 ≤ x) {n : Nat} (hn : n ≤ 64) : (IntKind.u64.wrap (x * 2 ^ (64 - n)) == 0) = decide (x % 2 ^ n = 0) := by
  rw [wrap64u]
  obtain ⟨X, rfl⟩ := Int.eq_ofNat_of_zero_le hx
  have ep : (18446744073709551616 : Nat) = 2 ^ n * 2 ^ (64 - n) := by
    rw [show (18446744073709551616 : Nat) = 2 ^ 64 from rfl, ← Nat.pow_add]; congr 1; omega
  have e64 : (18446744073709551616 : Int) = ((18446744073709551616 : Nat) : Int) := rfl
  rw [← pow2_cast, ← pow2_cast, e64, ← Int.natCast_mul, ← Int.natCast_emod, ← Int.natCast_emod, ep, Nat.mul_mod_mul_right]
  have pm := Nat.two_pow_pos (64 - n)
  rw [Bool.eq_iff_iff]
  simp only [beq_iff_eq, decide_eq_true_eq]
  constructor
  · intro h
    have h' : X % 2 ^ n * 2 ^ (64 - n) = 0 := by omega
    rcases Nat.mul_eq_zero.1 h' with h' | h' <;> omega
  · intro h
    have h' : X % 2 ^ n = 0 := by omega
    rw [h']; simp

theorem right_none {hi lo : Int} (h2 : 0 ≤ lo) (h3 : lo ≤ 18446744073709551615) : rightI hi lo 0 = lo := by
  unfold rightI; simp; omega

theorem even_near {hi lo : Int} (h2 : 0 ≤ lo) {n : Nat} (hn : n < 64) : (IntKind.u64.wrap (lo * 2 ^ (64 - n)) == 0) = evenI hi lo n := by
  rw [wrap_shl_zero h2 (by omega)]
  unfold evenI
  congr 1
  have ep : (18446744073709551616 : Int) = 2 ^ n * 2 ^ (64 - n) := by
    rw [← Int.pow_add, show n + (64 - n) = 64 by omega]; decide
  have : hi * 18446744073709551616 + lo = lo + 2 ^ n * (hi * 2 ^ (64 - n)) := by
    rw [ep, Int.add_comm]; congr 1
    rw [Int.mul_left_comm]
  rw [this, Int.add_mul_emod_self_left]

section
variable {hi lo : Int} (h0 : 0 ≤ hi) (h1 : hi ≤ 18446744073709551615) (h2 : 0 ≤ lo) (h3 : lo ≤ 18446744073709551615)
include h0 h1 h2 h3

theorem right_far {n : Nat} (hn : 128 ≤ n) : rightI hi lo n = 0 := by
  unfold rightI
  have p : (2 : Int) ^ 128 ≤ 2 ^ n := by
    have := Nat.pow_le_pow_right (show 0 < 2 by decide) hn
    rw [← pow2_cast, ← pow2_cast]; omega
  rw [Int.ediv_eq_zero_of_lt (by omega) (by
    have e : (2 : Int) ^ 128 = 340282366920938463463374607431768211456 := by decide
    omega)]
  rfl

theorem right_mid {n : Nat} (hn : 64 ≤ n) : rightI hi lo n = hi / 2 ^ (n - 64) := by
  unfold rightI
  obtain ⟨H, rfl⟩ := Int.eq_ofNat_of_zero_le h0
  obtain ⟨L, rfl⟩ := Int.eq_ofNat_of_zero_le h2
  rw [← pow2_cast, ← pow2_cast]
  have e : (2 : Nat) ^ n = 18446744073709551616 * 2 ^ (n - 64) := by
    rw [show (18446744073709551616 : Nat) = 2 ^ 64 from rfl, ← Nat.pow_add]; congr 1; omega
  have e2 : (H * 18446744073709551616 + L) / 2 ^ n = H / 2 ^ (n - 64) := by
    rw [e, ← Nat.div_div_eq_div_mul]; congr 1; omega
  have e3 : ((H : Int) * 18446744073709551616 + (L : Int)) = ((H * 18446744073709551616 + L : Nat) : Int) := by simp
  rw [e3, ← Int.natCast_ediv, ← Int.natCast_ediv, e2]
  have : H / 2 ^ (n - 64) ≤ H := Nat.div_le_self _ _
  generalize H / 2 ^ (n - 64) = q at *
  omega

theorem right_near {n : Nat} (hn0 : 0 < n) (hn : n < 64) : bits BinOp.or IntKind.u64 (lo / 2 ^ n) (IntKind.u64.wrap (hi * 2 ^ (64 - n))) = rightI hi lo n := by
  unfold rightI
  rw [wrap64u]
  obtain ⟨H, rfl⟩ := Int.eq_ofNat_of_zero_le h0
  obtain ⟨L, rfl⟩ := Int.eq_ofNat_of_zero_le h2
  rw [← pow2_cast, ← pow2_cast]
  have e3 : ((H : Int) * 18446744073709551616 + (L : Int)) = ((H * 18446744073709551616 + L : Nat) : Int) := by simp
  have e64 : (18446744073709551616 : Int) = ((18446744073709551616 : Nat) : Int) := rfl
  rw [e3, e64, ← Int.natCast_mul, ← Int.natCast_ediv, ← Int.natCast_ediv, ← Int.natCast_emod, ← Int.natCast_emod]
  have pn := Nat.two_pow_pos n
  have pm := Nat.two_pow_pos (64 - n)
  have ep : (18446744073709551616 : Nat) = 2 ^ (64 - n) * 2 ^ n := by
    rw [show (18446744073709551616 : Nat) = 2 ^ 64 from rfl, ← Nat.pow_add]; congr 1; omega
  have l1 : L / 2 ^ n < 2 ^ (64 - n) := by rw [Nat.div_lt_iff_lt_mul pn, ← ep]; omega
  have e5 : H * 2 ^ (64 - n) % 18446744073709551616 = (H % 2 ^ n) * 2 ^ (64 - n) := by
    rw [ep, Nat.mul_comm (2 ^ (64 - n)) (2 ^ n), Nat.mul_mod_mul_right]
  have l2 : H * 2 ^ (64 - n) % 18446744073709551616 < 18446744073709551616 := Nat.mod_lt _ (by decide)
  have l3 : L / 2 ^ n < 18446744073709551616 := by have := Nat.div_le_self L (2 ^ n); omega
  rw [u64_or _ _ (Int.natCast_nonneg _) (Int.ofNat_lt.2 l3) (Int.natCast_nonneg _) (Int.ofNat_lt.2 l2), Int.toNat_natCast, Int.toNat_natCast]
  congr 1
  rw [e5, Nat.or_comm, ← Nat.shiftLeft_eq, ← Nat.shiftLeft_add_eq_or_of_lt l1, Nat.shiftLeft_eq, ← e5]
  have e6 : (H * 18446744073709551616 + L) / 2 ^ n = H * 2 ^ (64 - n) + L / 2 ^ n := by
    have : H * 18446744073709551616 + L = L + 2 ^ n * (H * 2 ^ (64 - n)) := by
      rw [ep, Nat.add_comm]; congr 1
      rw [Nat.mul_left_comm (2 ^ n) H, Nat.mul_comm (2 ^ n)]
    rw [this, Nat.add_mul_div_left _ _ pn, Nat.add_comm]
  rw [e6, Nat.add_mod, e5]
  rw [Nat.mod_eq_of_lt l3]
  symm
  apply Nat.mod_eq_of_lt
  have hm : H % 2 ^ n < 2 ^ n := Nat.mod_lt _ pn
  have : (H % 2 ^ n + 1) * 2 ^ (64 - n) ≤ 2 ^ n * 2 ^ (64 - n) := Nat.mul_le_mul_right _ (by omega)
  rw [Nat.add_mul, Nat.mul_comm (2 ^ n)] at this
  omega

theorem even_far {n : Nat} (hn : 64 ≤ n) (hn2 : n ≤ 128) : (lo == 0 && (n == 64 || IntKind.u64.wrap (hi * 2 ^ (128 - n)) == 0)) = evenI hi lo n := by
  obtain ⟨H, rfl⟩ := Int.eq_ofNat_of_zero_le h0
  obtain ⟨L, rfl⟩ := Int.eq_ofNat_of_zero_le h2
  have hz := wrap_shl_zero h0 (n := n - 64) (by omega)
  rw [show 64 - (n - 64) = 128 - n by omega] at hz
  rw [hz]
  unfold evenI
  have e3 : ((H : Int) * 18446744073709551616 + (L : Int)) = ((H * 18446744073709551616 + L : Nat) : Int) := by simp
  rw [e3, ← pow2_cast, ← pow2_cast, ← Int.natCast_emod, ← Int.natCast_emod]
  have e : (2 : Nat) ^ n = 18446744073709551616 * 2 ^ (n - 64) := by
    rw [show (18446744073709551616 : Nat) = 2 ^ 64 from rfl, ← Nat.pow_add]; congr 1; omega
  have e4 : (H * 18446744073709551616 + L) % 2 ^ n = L + 18446744073709551616 * (H % 2 ^ (n - 64)) := by
    rw [e, Nat.mod_mul]
    have a1 : (H * 18446744073709551616 + L) % 18446744073709551616 = L := by omega
    have a2 : (H * 18446744073709551616 + L) / 18446744073709551616 = H := by omega
    rw [a1, a2]
  rw [e4, Bool.eq_iff_iff]
  by_cases c : n = 64
  · subst c
    simp <;> omega
  · have : (n == 64) = false := by simpa using c
    rw [this]
    simp
    omega
end

end Go.Proofs.YtkmgfbhnioojhaaGreat.Fl

/- Products of floats, as the machine makes them; an exact amount by its ratio alone. (plain; no program) -/
namespace Go.Proofs.YtkmgfbhnioojhaaGreat.Fl
set_option linter.unusedSimpArgs false
set_option linter.unusedVariables false

theorem flr_scale (N D c : Nat) (hc : 0 < c) : flr (N * c) (D * c) = flr N D := by
  obtain ⟨h1, h2, h3⟩ := flr_spec N D
  refine flr_eq h1 ?_ ?_
  · rw [← Nat.mul_assoc]; exact Nat.mul_le_mul_right c h2
  · rcases h3 with h3 | h3
    · exact Or.inl h3
    · right; rw [← Nat.mul_assoc]; exact Nat.mul_lt_mul_of_pos_right h3 hc

theorem rungOf_scale (N D c : Nat) (dir : Int) (hc : 0 < c) : rungOf (N * c) (D * c) dir = rungOf N D dir := by
  unfold rungOf
  rw [flr_scale N D c hc]
  have e1 : (G (flr N D) * (D * c) = N * c) ↔ (G (flr N D) * D = N) := by
    rw [← Nat.mul_assoc]
    exact ⟨fun h => Nat.eq_of_mul_eq_mul_right hc h, fun h => by rw [h]⟩
  have e2 : (2 * (N * c) < (G (flr N D) + G (flr N D + 1)) * (D * c)) ↔ (2 * N < (G (flr N D) + G (flr N D + 1)) * D) := by
    rw [← Nat.mul_assoc, ← Nat.mul_assoc]
    exact Nat.mul_lt_mul_right hc
  have e3 : ((G (flr N D) + G (flr N D + 1)) * (D * c) < 2 * (N * c)) ↔ ((G (flr N D) + G (flr N D + 1)) * D < 2 * N) := by
    rw [← Nat.mul_assoc, ← Nat.mul_assoc]
    exact Nat.mul_lt_mul_right hc
  simp only [e1, e2, e3]

theorem rungOf_ratio {N D N' D' : Nat} (dir : Int) (hD : 0 < D) (hD' : 0 < D') (h : N * D' = N' * D) : rungOf N D dir = rungOf N' D' dir := by
  rw [← rungOf_scale N D D' dir hD', ← rungOf_scale N' D' D dir hD, h, Nat.mul_comm D' D]

/-- 2^n for the n of the least place. -/
def pw (n : Nat) : Nat := 2 ^ n
theorem pw_pos (n : Nat) : 0 < pw n := Nat.two_pow_pos n
theorem pw_add (m n : Nat) : pw (m + n) = pw m * pw n := Nat.pow_add 2 m n
theorem pw_eq (n : Nat) : pw n = 2 ^ n := rfl
attribute [irreducible] pw

theorem product_num (s t : Bool) (r q : Nat) :
    (Ieee.Datum.number s (mag r) (-1074 + (exn r : Nat))).product (.number t (mag q) (-1074 + (exn q : Nat))) =
      some (.number (s ^^ t) (mag r * mag q) (-1074 + ((exn r + exn q : Nat) : Int) - ((1074 : Nat) : Int))) := by
  unfold Ieee.Datum.product
  simp only []
  congr 2
  omega

/-- **A product of finite floats.** -/
theorem fmul_eq {a b : Nat} (ha : rung a < INFR) (hb : rung b < INFR) : FloatKind.f64.format.mul a b = some (word (sgn a ^^ sgn b) (rungOf (G (rung a) * G (rung b)) (pw 1074) 0)) := by
  unfold Ieee.Format.mul
  rw [read_eq, read_eq, if_pos ha, if_pos hb, product_num]
  simp only [Option.map_some]
  congr 1
  unfold Ieee.Format.write
  simp only []
  generalize 1074 = t
  refine nearest_all _ _ _ _ _ _ (pw_pos _) ?_
  rw [G_eq, G_eq, Nat.pow_add, pw_eq]
  simp only [Nat.mul_assoc, Nat.mul_comm, Nat.mul_left_comm]

theorem fop_mul {a b : Nat} (w : World) (ha : rung a < INFR) (hb : rung b < INFR) : fop .mul a b w = word (sgn a ^^ sgn b) (rungOf (G (rung a) * G (rung b)) (pw 1074) 0) := fop_some w (fmul_eq ha hb)
/-- A normal float by its parts. -/
theorem G_normal {K m : Nat} (hm : m < BIN) : G ((K + 1) * BIN + m) = (BIN + m) * 2 ^ K := by
  have e : (K + 1) * BIN + m = K * BIN + (BIN + m) := by rw [Nat.add_mul, Nat.one_mul, Nat.add_assoc]
  rw [e]
  exact G_fit (by omega) (Or.inr (Nat.le_add_right _ _))

theorem G_normal' {K m : Nat} (hm : m < BIN) : G ((K + 1) * BIN + m) = (BIN + m) * pw K := by rw [pw_eq]; exact G_normal hm

end Go.Proofs.YtkmgfbhnioojhaaGreat.Fl

/- Whole numbers of 53 bits as floats; which rung q 2^e has. (plain; no program) -/
namespace Go.Proofs.YtkmgfbhnioojhaaGreat.Fl
set_option linter.unusedSimpArgs false
set_option linter.unusedVariables false

/-- How many bits. -/
def blen (n : Nat) : Nat := if n = 0 then 0 else n.log2 + 1

theorem blen_zero : blen 0 = 0 := rfl
theorem blen_lt (n : Nat) : n < 2 ^ blen n := by
  unfold blen
  split
  · rename_i h; subst h; decide
  · exact Nat.lt_log2_self
theorem blen_ge {n : Nat} (h : n ≠ 0) : 2 ^ (blen n - 1) ≤ n := by
  unfold blen
  rw [if_neg h]
  exact Nat.log2_self_le h
theorem blen_le {n k : Nat} (h : n < 2 ^ k) : blen n ≤ k := by
  by_cases h0 : n = 0
  · subst h0; simp [blen]
  · have h1 := blen_ge h0
    have h2 : 2 ^ (blen n - 1) < 2 ^ k := by omega
    have := (Nat.pow_lt_pow_iff_right (by decide : 1 < 2)).1 h2
    omega
theorem blen_pos {n : Nat} (h : n ≠ 0) : 0 < blen n := by unfold blen; rw [if_neg h]; omega
theorem blen_unique {n k : Nat} (h1 : 2 ^ k ≤ n) (h2 : n < 2 ^ (k + 1)) : blen n = k + 1 := by
  have p := Nat.two_pow_pos k
  have h0 : n ≠ 0 := by omega
  have a := blen_le h2
  have b := blen_lt n
  have h3 : 2 ^ k < 2 ^ blen n := by omega
  have := (Nat.pow_lt_pow_iff_right (by decide : 1 < 2)).1 h3
  omega
attribute [irreducible] blen

/-- float64(q), q a whole number from 1 to 2^53. -/
theorem of_whole {q : Nat} (h1 : 1 ≤ q) (h2 : q ≤ 9007199254740992) :
    ∃ f : Nat, floatOfInt .f64 (q : Int) = f ∧ BIN ≤ f ∧ f < INFR ∧ (f : Int) / 4503599627370496 = 1022 + blen q ∧ G f = q * pw 1074 := by
  have hl := blen_lt q
  have hg := blen_ge (n := q) (by omega)
  have hp := blen_pos (n := q) (by omega)
  generalize hL : blen q = L at *
  have hL54 : L ≤ 54 := by rw [← hL]; exact blen_le (by omega)
  -- q 2^(54 - L), half of it, is the significand
  obtain ⟨k, E, hk1, hk2, hE, hkE, hEB⟩ : ∃ k E : Nat, BIN ≤ k ∧ k < 2 * BIN ∧ E = 1021 + L ∧ k * 2 ^ L = q * 2 ^ 53 ∧ 0 < E := by
    by_cases c : L ≤ 53
    · refine ⟨q * 2 ^ (53 - L), 1021 + L, ?_, ?_, rfl, ?_, by omega⟩
      · have : 2 ^ (L - 1) * 2 ^ (53 - L) ≤ q * 2 ^ (53 - L) := Nat.mul_le_mul_right _ hg
        rw [← Nat.pow_add, show L - 1 + (53 - L) = 52 by omega] at this
        exact this
      · have : q * 2 ^ (53 - L) < 2 ^ L * 2 ^ (53 - L) := Nat.mul_lt_mul_of_pos_right hl (Nat.two_pow_pos _)
        rw [← Nat.pow_add, show L + (53 - L) = 53 by omega] at this
        exact this
      · rw [Nat.mul_assoc, ← Nat.pow_add, show 53 - L + L = 53 by omega]
    · have hL' : L = 54 := by omega
      subst hL'
      have : q = 9007199254740992 := by
        have : 2 ^ (54 - 1) ≤ q := hg
        omega
      subst this
      exact ⟨BIN, 1021 + 54, Nat.le_refl _, by decide, rfl, by decide, by decide⟩
  refine ⟨E * BIN + k, ?_, by omega, by unfold BIN at *; unfold INFR; omega, by unfold BIN at *; omega, ?_⟩
  · unfold floatOfInt FloatKind.nearest FloatKind.encode
    have hn : ((q : Int) < 0) = False := by simp
    simp only [hn, decide_false, Int.natAbs_natCast]
    unfold Ieee.Format.write
    simp only []
    have hx := nearest_all false q 1074 0 (G (E * BIN + k)) 1 (by decide) (by
      rw [Nat.pow_zero, Nat.mul_one, Nat.mul_one, G_fit (by omega) (Or.inr hk1), hE]
      generalize hz : 1021 = z
      have hz2 : 1074 = z + 53 := by omega
      rw [hz2, Nat.pow_add, Nat.pow_add]
      calc k * (2 ^ z * 2 ^ L) = (k * 2 ^ L) * 2 ^ z := by simp only [Nat.mul_assoc, Nat.mul_comm, Nat.mul_left_comm]
        _ = q * (2 ^ z * 2 ^ 53) := by rw [hkE]; simp only [Nat.mul_assoc, Nat.mul_comm, Nat.mul_left_comm])
    have e0 : (-1074 + ((1074 : Nat) : Int) - ((0 : Nat) : Int)) = 0 := by omega
    rw [e0] at hx
    rw [hx, rungOf_exact1 (by unfold BIN at *; unfold INFR; omega)]
    unfold word; simp
  · rw [G_fit (by omega) (Or.inr hk1), hE]
    have e1 : pw 1074 = pw 1021 * pw 53 := by rw [← pw_add]
    rw [e1]
    have e2 : (2 : Nat) ^ (1021 + L) = pw 1021 * 2 ^ L := by rw [← pw_eq, ← pw_eq, pw_add]
    rw [e2, pw_eq 53]
    generalize pw 1021 = P
    calc k * (P * 2 ^ L) = (k * 2 ^ L) * P := by simp only [Nat.mul_assoc, Nat.mul_comm, Nat.mul_left_comm]
      _ = q * (P * 2 ^ 53) := by rw [hkE]; simp only [Nat.mul_assoc, Nat.mul_comm, Nat.mul_left_comm]

/-- Has q 2^e room? -/
theorem room_iff {q E : Nat} (h1 : 1 ≤ q) (hq : q ≤ 2 * BIN) (hE : E = 0 ∨ BIN ≤ q) : (blen q : Int) + ((E : Int) - 1074) ≤ 1024 ↔ E * BIN + q < INFR := by
  have hl := blen_lt q
  have hg := blen_ge (n := q) (by omega)
  rcases hE with h | h
  · subst h
    have : blen q ≤ 54 := blen_le (by unfold BIN at hq; omega)
    unfold BIN at *; unfold INFR; omega
  · by_cases c : q = 2 * BIN
    · have hb : blen q = 54 := blen_unique (k := 53) (by rw [c]; decide) (by rw [c]; decide)
      rw [hb]; unfold BIN at *; unfold INFR; omega
    · have hb : blen q = 53 := blen_unique (k := 52) h (by unfold BIN at *; omega)
      rw [hb]; unfold BIN at *; unfold INFR; omega

theorem G_at {q E : Nat} (hq : q ≤ 2 * BIN) (hE : E = 0 ∨ BIN ≤ q) {e : Int} (he : e = (E : Int) - 1074) (hr : E * BIN + q < INFR) :
    rungOf (q * pw 1074 * 2 ^ e.toNat) (2 ^ (-e).toNat) 0 = E * BIN + q := by
  have : q * pw 1074 * 2 ^ e.toNat = G (E * BIN + q) * 2 ^ (-e).toNat := by
    rw [G_fit hq hE, Nat.mul_assoc, Nat.mul_assoc, ← pw_eq, ← pw_eq, ← pw_eq, ← pw_add, ← pw_add]
    congr 2; omega
  rw [this]
  exact rungOf_exact (Nat.two_pow_pos _) hr 0

end Go.Proofs.YtkmgfbhnioojhaaGreat.Fl

/- Rounding by what is lost: what the program's own rounding comes to is the exact amount's rung. (plain; no program) -/
namespace Go.Proofs.YtkmgfbhnioojhaaGreat.Fl
set_option linter.unusedSimpArgs false
set_option linter.unusedVariables false

/-- What is lost of N / D at the scale E behind k: 0 nothing, 1 less than half, 2 half, 3 more. -/
def LostIs (l : Int) (N D E k : Nat) : Prop :=
  (l = 0 ∧ k * 2 ^ E * D = N) ∨ (l = 1 ∧ k * 2 ^ E * D < N ∧ 2 * N < (2 * k + 1) * 2 ^ E * D) ∨ (l = 2 ∧ (2 * k + 1) * 2 ^ E * D = 2 * N) ∨ (l = 3 ∧ (2 * k + 1) * 2 ^ E * D < 2 * N ∧ N < (k + 1) * 2 ^ E * D)

/-- One more, or not. -/
def incI (l : Int) (k : Nat) (dir : Int) : Nat := if (0 < dir ∧ 0 < l) ∨ (dir = 0 ∧ (l = 3 ∨ l = 2 ∧ k % 2 = 1)) then 1 else 0

theorem incI_le (l : Int) (k : Nat) (dir : Int) : incI l k dir ≤ 1 := by unfold incI; split <;> omega

theorem round_pick (I Z k i N U X : Nat) (dir l : Int) (hI : 1 ≤ I)
    (h : (l = 0 ∧ U = N) ∨ (l = 1 ∧ U < N ∧ 2 * N < 2 * U + X) ∨ (l = 2 ∧ 2 * U + X = 2 * N ∧ 0 < X) ∨ (l = 3 ∧ 2 * U + X < 2 * N ∧ N < U + X))
    (hinc : (i = 1 ∧ ((0 < dir ∧ 0 < l) ∨ (dir = 0 ∧ (l = 3 ∨ l = 2 ∧ k % 2 = 1)))) ∨ (i = 0 ∧ ¬ ((0 < dir ∧ 0 < l) ∨ (dir = 0 ∧ (l = 3 ∨ l = 2 ∧ k % 2 = 1))))) :
    (if I ≤ Z + (k + i) then (if 0 ≤ dir then I else I - 1) else Z + (k + i)) =
      if I ≤ Z + k then (if dir < 0 then I - 1 else I) else Z + (if U = N then k else if dir < 0 then k else if 0 < dir then k + 1 else if 2 * N < 2 * U + X then k else if 2 * U + X < 2 * N then k + 1 else if k % 2 = 0 then k else k + 1) := by
  repeat' split
  all_goals omega

theorem round_lost {l : Int} {N D E k : Nat} (dir : Int) (h : LostIs l N D E k) (hD : 0 < D) (hk : k < 2 * BIN) (hE : E = 0 ∨ BIN ≤ k) :
    (if INFR ≤ E * BIN + (k + incI l k dir) then (if 0 ≤ dir then INFR else INFR - 1) else E * BIN + (k + incI l k dir)) = rungOf N D dir := by
  have pE := Nat.two_pow_pos E
  have hX : 0 < 2 ^ E * D := Nat.mul_pos pE hD
  have e1 : k * 2 ^ E * D = k * (2 ^ E * D) := Nat.mul_assoc _ _ _
  have e2 : (2 * k + 1) * 2 ^ E * D = 2 * (k * (2 ^ E * D)) + 2 ^ E * D := by rw [Nat.mul_assoc, Nat.add_mul, Nat.one_mul, Nat.mul_assoc]
  have e3 : (k + 1) * 2 ^ E * D = k * (2 ^ E * D) + 2 ^ E * D := by rw [Nat.mul_assoc, Nat.add_mul, Nat.one_mul]
  unfold LostIs at h
  rw [e1, e2, e3] at h
  rw [rungOf_at dir hD hk hE (by rw [e1]; omega) (by rw [e3]; omega), e1, e2]
  generalize k * (2 ^ E * D) = U at *
  generalize 2 ^ E * D = X at *
  refine round_pick INFR (E * BIN) k (incI l k dir) N U X dir l (by decide) (by omega) ?_
  unfold incI
  by_cases hc : (0 < dir ∧ 0 < l) ∨ (dir = 0 ∧ (l = 3 ∨ l = 2 ∧ k % 2 = 1))
  · rw [if_pos hc]; exact Or.inl ⟨rfl, hc⟩
  · rw [if_neg hc]; exact Or.inr ⟨rfl, hc⟩

/-- What is lost of V by s bits to the right (and a little more). -/
def lostI (V : Int) (more : Bool) (n : Nat) : Int :=
  if (V / 2 ^ (n - 1)) % 2 = 1 then (if more || decide (V % 2 ^ (n - 1) ≠ 0) then 3 else 2) else if more || decide (V % 2 ^ (n - 1) ≠ 0) then 1 else 0

/-- The exact amount is V 2^(a - b), or a little more. -/
def Amount (V : Nat) (more : Bool) (a b N D : Nat) : Prop :=
  if more then V * 2 ^ a * D < N * 2 ^ b ∧ N * 2 ^ b < (V + 1) * 2 ^ a * D else N * 2 ^ b = V * 2 ^ a * D

theorem lost_shift {V a b N D E s : Nat} {more : Bool} (hA : Amount V more a b N D) (hs : 1 ≤ s) (hE : a + s = E + b) (hD : 0 < D) : LostIs (lostI V more s) N D E (V / 2 ^ s) := by
  -- everything in units of 2^a D / 2^b
  have pb := Nat.two_pow_pos b
  have pa := Nat.two_pow_pos a
  have tr : ∀ c m : Nat, (c * 2 ^ E * D ≤ m * N ↔ c * 2 ^ s * (2 ^ a * D) ≤ m * (N * 2 ^ b)) ∧ (m * N ≤ c * 2 ^ E * D ↔ m * (N * 2 ^ b) ≤ c * 2 ^ s * (2 ^ a * D)) := by
    intro c m
    have e1 : c * 2 ^ E * D * 2 ^ b = c * 2 ^ s * (2 ^ a * D) := by
      have : 2 ^ E * 2 ^ b = 2 ^ s * 2 ^ a := by rw [← Nat.pow_add, ← Nat.pow_add]; congr 1; omega
      calc c * 2 ^ E * D * 2 ^ b = c * (2 ^ E * 2 ^ b) * D := by simp only [Nat.mul_assoc, Nat.mul_comm, Nat.mul_left_comm]
        _ = c * 2 ^ s * (2 ^ a * D) := by rw [this]; simp only [Nat.mul_assoc]
    rw [← e1, ← Nat.mul_assoc]
    exact ⟨⟨fun h => Nat.mul_le_mul_right _ h, fun h => Nat.le_of_mul_le_mul_right h pb⟩, ⟨fun h => Nat.mul_le_mul_right _ h, fun h => Nat.le_of_mul_le_mul_right h pb⟩⟩
  have pX : 0 < 2 ^ a * D := Nat.mul_pos pa hD
  unfold Amount at hA
  have a1 : V * 2 ^ a * D = V * (2 ^ a * D) := Nat.mul_assoc _ _ _
  have a2 : (V + 1) * 2 ^ a * D = V * (2 ^ a * D) + 2 ^ a * D := by rw [Nat.mul_assoc, Nat.add_mul, Nat.one_mul]
  rw [a1, a2] at hA
  generalize 2 ^ a * D = X at *
  generalize N * 2 ^ b = Y at *
  -- V by its parts
  obtain ⟨t, rfl⟩ : ∃ t, s = t + 1 := ⟨s - 1, by omega⟩
  have ps := Nat.two_pow_pos t
  have d1 := Nat.div_add_mod V (2 ^ t)
  have d2 := Nat.mod_lt V ps
  have hk : V / 2 ^ (t + 1) = V / 2 ^ t / 2 := by rw [Nat.pow_succ, Nat.div_div_eq_div_mul]
  have hl : lostI V more (t + 1) = if (V / 2 ^ t) % 2 = 1 then (if more || decide (V % 2 ^ t ≠ 0) then 3 else 2) else if more || decide (V % 2 ^ t ≠ 0) then 1 else 0 := by
    unfold lostI
    rw [Nat.add_sub_cancel, ← pow2_cast, ← Int.natCast_ediv, ← Int.natCast_emod]
    have e1 : (((V / 2 ^ t : Nat) : Int) % 2 = 1) ↔ (V / 2 ^ t) % 2 = 1 := by omega
    have e2 : (((V % 2 ^ t : Nat) : Int) ≠ 0) ↔ (V % 2 ^ t) ≠ 0 := by omega
    simp only [e1, e2]
  rw [hl, hk]
  generalize V / 2 ^ t = Q at *
  generalize V % 2 ^ t = R at *
  have h2t : (2 : Nat) ^ (t + 1) = 2 * 2 ^ t := by rw [Nat.pow_succ, Nat.mul_comm]
  rw [h2t] at tr
  generalize 2 ^ t = T at *
  have hq := Nat.div_add_mod Q 2
  have hq2 := Nat.mod_lt Q (show 0 < 2 by decide)
  generalize Q / 2 = k at *
  generalize hbit : Q % 2 = bit at *
  -- products with X
  have m1 : V * X = (2 * k + bit) * T * X + R * X := by rw [← d1, ← hq, Nat.add_mul, Nat.mul_comm T]
  have b0 : bit = 0 ∨ bit = 1 := by omega
  have RX : R * X + X ≤ T * X := by
    have := Nat.mul_le_mul_right X (show R + 1 ≤ T by omega)
    rw [Nat.add_mul, Nat.one_mul] at this; exact this
  have q1 := tr k 1
  have q2 := tr (2 * k + 1) 2
  have q3 := tr (k + 1) 1
  have f1 : k * (2 * T) * X = 2 * (k * T * X) := by simp only [Nat.mul_assoc, Nat.mul_comm, Nat.mul_left_comm]
  have f2 : (2 * k + 1) * (2 * T) * X = 4 * (k * T * X) + 2 * (T * X) := by
    rw [Nat.add_mul, Nat.add_mul, Nat.one_mul, Nat.mul_assoc 2 T X]
    congr 1
    have : 2 * k * (2 * T) * X = 2 * 2 * (k * T * X) := by simp only [Nat.mul_assoc, Nat.mul_comm, Nat.mul_left_comm]
    rw [this]
  have f3 : (k + 1) * (2 * T) * X = 2 * (k * T * X) + 2 * (T * X) := by
    rw [Nat.add_mul, Nat.add_mul, Nat.one_mul, Nat.mul_assoc 2 T X, f1]
  have f4 : (2 * k + bit) * T * X = 2 * (k * T * X) + bit * (T * X) := by
    rw [Nat.add_mul, Nat.add_mul, Nat.mul_assoc bit T X]
    congr 1
    simp only [Nat.mul_assoc]
  rw [f1] at q1
  rw [f2] at q2
  rw [f3] at q3
  rw [f4] at m1
  generalize k * T * X = K at *
  generalize T * X = W at *
  have R0 : R = 0 → R * X = 0 := fun h => by rw [h, Nat.zero_mul]
  have R1 : R ≠ 0 → X ≤ R * X := fun h => Nat.le_mul_of_pos_left X (Nat.pos_of_ne_zero h)
  generalize R * X = RR at *
  unfold LostIs
  generalize (k + 1) * 2 ^ E * D = A3 at *
  generalize (2 * k + 1) * 2 ^ E * D = A2 at *
  generalize hA1 : k * 2 ^ E * D = A1 at *
  clear tr d1 hq hk hl h2t hq2
  cases more
  · simp only [Bool.false_eq_true, if_false, Bool.false_or, decide_eq_true_eq] at *
    by_cases hR : R = 0
    · have := R0 hR
      rcases b0 with rfl | rfl
      · simp [hR]; omega
      · simp [hR]; omega
    · have := R1 hR
      rcases b0 with rfl | rfl
      · simp [hR]; omega
      · simp [hR]; omega
  · simp only [if_true, Bool.true_or] at *
    rcases b0 with rfl | rfl
    · simp; omega
    · simp; omega

theorem lost_none {V a b N D E t : Nat} (hA : Amount V false a b N D) (hE : E + t + b = a) : LostIs 0 N D E (V * 2 ^ t) := by
  left
  refine ⟨rfl, ?_⟩
  have pb := Nat.two_pow_pos b
  have hA' : N * 2 ^ b = V * 2 ^ a * D := hA
  apply Nat.eq_of_mul_eq_mul_right pb
  rw [hA', ← hE, Nat.pow_add, Nat.pow_add]
  simp only [Nat.mul_assoc, Nat.mul_comm, Nat.mul_left_comm]

end Go.Proofs.YtkmgfbhnioojhaaGreat.Fl

/- What the rounded operations are; the machine's own ones where one isn't finite. (plain; no program) -/
namespace Go.Proofs.YtkmgfbhnioojhaaGreat.Fl
set_option linter.unusedSimpArgs false
set_option linter.unusedVariables false

/-- S / D in units of 2^-1074, rounded. -/
def rnd (S : Int) (D : Nat) (dir : Int) : Nat := bitsOf (if decide (S < 0) = true then -(rungOf S.natAbs D (if S < 0 then -dir else dir) : Int) else (rungOf S.natAbs D (if S < 0 then -dir else dir) : Int))

def finB (x : Nat) : Bool := decide (rung x < 9218868437227405312)
theorem finB_rung {x : Nat} : finB x = true ↔ rung x < INFR := by unfold finB INFR; simp
theorem finB_false {x : Nat} : finB x = false ↔ INFR ≤ rung x := by unfold finB INFR; simp

/-- No number. -/
def QN : Nat := 9221120237041090561
theorem nan_QN : nan QN = true := by decide
/-- The same value, or no numbers both. -/
def Eqv (r s : Nat) : Prop := r = s ∨ (nan r = true ∧ nan s = true)
theorem Eqv.num {r s : Nat} (h : Eqv r s) (hs : nan s = false) : r = s := by
  rcases h with h | ⟨_, h⟩
  · exact h
  · rw [hs] at h; cases h
theorem Eqv.nan {r s : Nat} (h : Eqv r s) : nan r = nan s := by
  rcases h with h | ⟨h1, h2⟩
  · rw [h]
  · rw [h1, h2]

def infW (neg : Bool) : Nat := word neg INFR

def addS (a b : Nat) (dir : Int) : Nat :=
  if finB a && finB b then rnd (val a + val b) 1 dir
  else if nan a || nan b then QN
  else if finB a then b
  else if finB b then a
  else if sgn a = sgn b then a
  else QN
def mulS (a b : Nat) (dir : Int) : Nat :=
  if nan a || nan b then QN
  else if rung a = 0 ∨ rung b = 0 then 0
  else if finB a && finB b then rnd (val a * val b) (pw 1074) dir
  else infW (sgn a ^^ sgn b)
def divS (a b : Nat) (dir : Int) : Nat :=
  if nan a || nan b then QN
  else if rung b = 0 then QN
  else if finB a && finB b then rnd (val a * (if sgn b then -1 else 1) * (pw 1074 : Nat)) (G (rung b)) dir
  else if finB a then 0
  else if finB b then infW (sgn a ^^ sgn b)
  else QN

theorem read_fin {x : Nat} (h : finB x = true) : FloatKind.f64.format.read x = .number (sgn x) (mag (rung x)) (-1074 + (exn (rung x) : Nat)) := by
  rw [read_eq, if_pos (finB_rung.1 h)]
theorem read_inf {x : Nat} (h : finB x = false) (hn : nan x = false) : FloatKind.f64.format.read x = .infinity (sgn x) ∧ rung x = INFR := by
  have h1 := finB_false.1 h
  have h2 := nan_false.1 hn
  have : rung x = INFR := by omega
  rw [read_eq, if_neg (by omega), if_pos this]; exact ⟨rfl, this⟩

theorem infW_of {x : Nat} (hx : x < 18446744073709551616) (h : rung x = INFR) : infW (sgn x) = x := by
  unfold infW; rw [← h]; exact word_of hx

theorem fop_none_lt {op : BinOp} {a b : Nat} (w : World) (h : floatBits op .f64 a b = none) : fop op a b w < 18446744073709551616 := by
  unfold fop; rw [h]; exact (nanCut _ _ _).2
theorem fadd_nan {a b : Nat} (h : nan a = true ∨ nan b = true) : floatBits .add .f64 a b = none := by
  have hr : ∀ x, nan x = true → ∃ s t, FloatKind.f64.format.read x = .nan s t := by
    intro x hx
    have := nan_true.1 hx
    rw [read_eq, if_neg (by omega), if_neg (by omega)]; exact ⟨_, _, rfl⟩
  have c1 : ∀ d e : Ieee.Datum, (∃ s t, d = .nan s t) ∨ (∃ s t, e = .nan s t) → d.sum e = none := by
    rintro d e (⟨s, t, rfl⟩ | ⟨s, t, rfl⟩)
    · rfl
    · cases d <;> rfl
  have hor : (∃ s t, FloatKind.f64.format.read a = .nan s t) ∨ (∃ s t, FloatKind.f64.format.read b = .nan s t) := by
    rcases h with h | h
    · exact Or.inl (hr a h)
    · exact Or.inr (hr b h)
  unfold floatBits
  simp only [Ieee.Format.add, c1 _ _ hor, Option.map_none]

theorem fdiv_nan {a b : Nat} (h : nan a = true ∨ nan b = true) : floatBits .quo .f64 a b = none := by
  have hr : ∀ x, nan x = true → ∃ s t, FloatKind.f64.format.read x = .nan s t := by
    intro x hx
    have := nan_true.1 hx
    rw [read_eq, if_neg (by omega), if_neg (by omega)]; exact ⟨_, _, rfl⟩
  have c1 : ∀ (k : Nat) (d e : Ieee.Datum), (∃ s t, d = .nan s t) ∨ (∃ s t, e = .nan s t) → Ieee.Datum.quotient k d e = none := by
    rintro k d e (⟨s, t, rfl⟩ | ⟨s, t, rfl⟩)
    · rfl
    · cases d <;> rfl
  have hor : (∃ s t, FloatKind.f64.format.read a = .nan s t) ∨ (∃ s t, FloatKind.f64.format.read b = .nan s t) := by
    rcases h with h | h
    · exact Or.inl (hr a h)
    · exact Or.inr (hr b h)
  unfold floatBits
  simp only [Ieee.Format.div, c1 _ _ _ hor, Option.map_none]

theorem fop_add_non {a b : Nat} (w : World) (ha : a < 18446744073709551616) (hb : b < 18446744073709551616) (h : (finB a && finB b) = false) (dir : Int) : Eqv (fop .add a b w) (addS a b dir) ∧ fop .add a b w < 18446744073709551616 := by
  unfold addS
  rw [if_neg (by rw [h]; decide)]
  have lt : ∀ s : Bool, infW s < 18446744073709551616 := fun s => word_lt _ (by decide)
  by_cases hn : (nan a || nan b) = true
  · rw [if_pos hn]
    rw [Bool.or_eq_true] at hn
    exact ⟨Or.inr ⟨fop_nan w hn (by simp), nan_QN⟩, fop_none_lt w (fadd_nan hn)⟩
  · rw [if_neg hn]
    simp only [Bool.or_eq_true, not_or, Bool.not_eq_true] at hn
    obtain ⟨na, nb⟩ := hn
    cases fa : finB a <;> cases fb : finB b
    · obtain ⟨ra, ia⟩ := read_inf fa na
      obtain ⟨rb, ib⟩ := read_inf fb nb
      by_cases hs : sgn a = sgn b
      · rw [if_pos hs]
        have : fop .add a b w = a := by
          apply fop_some
          unfold floatBits
          simp only [Ieee.Format.add, ra, rb, Ieee.Datum.sum, if_pos hs, Option.map_some, Ieee.Format.write, fmt_inf, fword]
          congr 1; exact infW_of ha ia
        rw [this]; simp; exact ⟨Or.inl rfl, ha⟩
      · rw [if_neg hs]
        have : floatBits .add .f64 a b = none := by
          unfold floatBits
          simp only [Ieee.Format.add, ra, rb, Ieee.Datum.sum, if_neg hs, Option.map_none]
        simp; exact ⟨Or.inr ⟨fop_none w this, nan_QN⟩, fop_none_lt w this⟩
    · obtain ⟨ra, ia⟩ := read_inf fa na
      have rb := read_fin fb
      have : fop .add a b w = a := by
        apply fop_some
        unfold floatBits
        simp only [Ieee.Format.add, ra, rb, Ieee.Datum.sum, Option.map_some, Ieee.Format.write, fmt_inf, fword]
        congr 1; exact infW_of ha ia
      rw [this]; simp; exact ⟨Or.inl rfl, ha⟩
    · have ra := read_fin fa
      obtain ⟨rb, ib⟩ := read_inf fb nb
      have : fop .add a b w = b := by
        apply fop_some
        unfold floatBits
        simp only [Ieee.Format.add, ra, rb, Ieee.Datum.sum, Option.map_some, Ieee.Format.write, fmt_inf, fword]
        congr 1; exact infW_of hb ib
      rw [this]; simp; exact ⟨Or.inl rfl, hb⟩
    · rw [fa, fb] at h; cases h

theorem mag_zero {r : Nat} : mag r = 0 ↔ r = 0 := by unfold mag BIN; split <;> omega

theorem fop_mul_non {a b : Nat} (w : World) (ha : a < 18446744073709551616) (hb : b < 18446744073709551616) (h : (finB a && finB b) = false) (na : nan a = false) (nb : nan b = false) (za : rung a ≠ 0) (zb : rung b ≠ 0) (dir : Int) :
    fop .mul a b w = mulS a b dir ∧ fop .mul a b w < 18446744073709551616 ∧ nan (mulS a b dir) = false := by
  have hm : mulS a b dir = infW (sgn a ^^ sgn b) := by
    unfold mulS
    rw [na, nb, h, if_neg (by decide), if_neg (by omega), if_neg (by decide)]
  rw [hm]
  have e : fop .mul a b w = infW (sgn a ^^ sgn b) := by
    apply fop_some
    unfold floatBits
    cases fa : finB a <;> cases fb : finB b
    · obtain ⟨ra, ia⟩ := read_inf fa na
      obtain ⟨rb, ib⟩ := read_inf fb nb
      simp only [Ieee.Format.mul, ra, rb, Ieee.Datum.product, Option.map_some, Ieee.Format.write, fmt_inf, fword]
      rfl
    · obtain ⟨ra, ia⟩ := read_inf fa na
      have rb := read_fin fb
      simp only [Ieee.Format.mul, ra, rb, Ieee.Datum.product, if_neg (fun hh => zb (mag_zero.1 hh)), Option.map_some, Ieee.Format.write, fmt_inf, fword]
      rfl
    · have ra := read_fin fa
      obtain ⟨rb, ib⟩ := read_inf fb nb
      simp only [Ieee.Format.mul, ra, rb, Ieee.Datum.product, if_neg (fun hh => za (mag_zero.1 hh)), Option.map_some, Ieee.Format.write, fmt_inf, fword]
      rw [Bool.xor_comm]; rfl
    · rw [fa, fb] at h; cases h
  rw [e]
  refine ⟨rfl, word_lt _ (by decide), ?_⟩
  unfold infW; rw [nan_false, rung_word _ (by decide)]; exact Nat.le_refl _

theorem fop_quo_non {a b : Nat} (w : World) (ha : a < 18446744073709551616) (hb : b < 18446744073709551616) (h : (finB a && finB b) = false) (zb : rung b ≠ 0) (dir : Int) :
    (nan (fop .quo a b w) = true ∧ fop .quo a b w < 18446744073709551616 ∧ nan (divS a b dir) = true) ∨ (nan (fop .quo a b w) = false ∧ cl (fop .quo a b w) = divS a b dir) := by
  unfold divS
  by_cases hn : (nan a || nan b) = true
  · rw [if_pos hn]
    rw [Bool.or_eq_true] at hn
    exact Or.inl ⟨fop_nan w hn (by simp), fop_none_lt w (fdiv_nan hn), nan_QN⟩
  · rw [if_neg hn, if_neg zb, if_neg (by rw [h]; decide)]
    simp only [Bool.or_eq_true, not_or, Bool.not_eq_true] at hn
    obtain ⟨na, nb⟩ := hn
    cases fa : finB a <;> cases fb : finB b
    · left
      obtain ⟨ra, ia⟩ := read_inf fa na
      obtain ⟨rb, ib⟩ := read_inf fb nb
      have : floatBits .quo .f64 a b = none := by
        unfold floatBits
        simp only [Ieee.Format.div, ra, rb, Ieee.Datum.quotient, Option.map_none]
      exact ⟨fop_none w this, fop_none_lt w this, by simp [nan_QN]⟩
    · right
      obtain ⟨ra, ia⟩ := read_inf fa na
      have rb := read_fin fb
      have : fop .quo a b w = infW (sgn a ^^ sgn b) := by
        apply fop_some
        unfold floatBits
        simp only [Ieee.Format.div, ra, rb, Ieee.Datum.quotient, Option.map_some, Ieee.Format.write, fmt_inf, fword]
        rfl
      rw [this]
      have hr : rung (infW (sgn a ^^ sgn b)) = INFR := rung_word _ (by decide)
      refine ⟨by rw [nan_false, hr]; exact Nat.le_refl _, ?_⟩
      unfold cl
      rw [if_neg (fun hh => by have := (idx_zero_iff _).1 hh; rw [hr] at this; exact absurd this (by decide))]
      simp
    · right
      have ra := read_fin fa
      obtain ⟨rb, ib⟩ := read_inf fb nb
      have : fop .quo a b w = word (sgn a ^^ sgn b) 0 := by
        apply fop_some
        unfold floatBits
        simp only [Ieee.Format.div, ra, rb, Ieee.Datum.quotient, Option.map_some, Ieee.Format.write]
        rw [nearest_zero]
      rw [this]
      cases (sgn a ^^ sgn b) <;> exact ⟨by decide, by decide⟩
    · rw [fa, fb] at h; cases h
end Go.Proofs.YtkmgfbhnioojhaaGreat.Fl
