/- What the reference asks of an exact quotient, or root, in whole numbers. (plain; no program) -/
import Derived.Test.YtjdccbigaahkeaaFlD
import Derived.Test.YtjdccbigaahkeaaFlC
namespace Go.Proofs.Ytjdccbigaahkeaa.Fl
set_option linter.unusedSimpArgs false
set_option linter.unusedVariables false

def prodS (s t : Bool) (m n : Nat) : Bool := if m * n = 0 then false else s != t
def prodE (m n : Nat) (e f : Int) : Int := if m * n = 0 then 0 else e + f

theorem ord_le (a b : Int) : decide (ordI a b ≤ 0) = decide (a ≤ b) := by
  unfold ordI; rw [Bool.eq_iff_iff]; simp only [decide_eq_true_eq]; split; omega; split <;> omega
theorem ord_ge (a b : Int) : decide (0 ≤ ordI a b) = decide (b ≤ a) := by
  unfold ordI; rw [Bool.eq_iff_iff]; simp only [decide_eq_true_eq]; split; omega; split <;> omega
theorem ord_eq0 (a b : Int) : (ordI a b == 0) = decide (a = b) := by
  unfold ordI; rw [Bool.eq_iff_iff]; simp only [decide_eq_true_eq, beq_iff_eq]; split; omega; split <;> omega

theorem prod_amount {K L : Int} (s t : Bool) (m n : Nat) (e f : Int) (he : 0 ≤ e + K) (hf : 0 ≤ f + L) : nv (K + L) (prodS s t m n) (m * n) (prodE m n e f) = nv K s m e * nv L t n f := by
  by_cases h : m * n = 0
  · rw [h, nv_zero]
    rcases Nat.mul_eq_zero.1 h with h | h
    · rw [h, nv_zero, Int.zero_mul]
    · rw [h, nv_zero, Int.mul_zero]
  · unfold prodS prodE
    rw [if_neg h, if_neg h]
    exact prod_nv s t m n e f he hf

theorem sgn_nv (K : Int) (s : Bool) (m : Nat) (e : Int) : (sgnI s m < 0 ↔ nv K s m e < 0) ∧ (sgnI s m ≤ 0 ↔ nv K s m e ≤ 0) ∧ (0 ≤ sgnI s m ↔ 0 ≤ nv K s m e) := by
  by_cases h : m = 0
  · subst h; rw [nv_zero]; simp [sgnI]
  · have p := nv_pos K e h
    unfold sgnI nv
    rw [if_neg h]
    cases s <;> simp <;> omega

/-- The amount of A, its sign turned if B's is. -/
def qS (a b : Int) : Int := if b < 0 then -a else a
theorem belowQ_eq {t a b : Int} {neg : Prop} [Decidable neg] (hn : neg ↔ b < 0) : (if neg then decide (0 ≤ ordI (t * b) a) else decide (ordI (t * b) a ≤ 0)) = decide (t * ((2 * b.natAbs : Nat) : Int) ≤ 2 * qS a b) := by
  rw [ord_le, ord_ge]
  unfold qS
  by_cases h : b < 0
  · rw [if_pos (hn.2 h), if_pos h]
    obtain ⟨c, rfl⟩ : ∃ c : Nat, b = -(c : Int) := ⟨b.natAbs, by omega⟩
    rw [Int.natAbs_neg, Int.natAbs_natCast]
    have e1 : t * -(c : Int) = -(t * (c : Int)) := Int.mul_neg _ _
    have e2 : t * ((2 * c : Nat) : Int) = 2 * (t * (c : Int)) := by rw [Int.natCast_mul]; simp only [Int.mul_assoc, Int.mul_comm, Int.mul_left_comm]; rfl
    rw [e1, e2, Bool.eq_iff_iff]; simp only [decide_eq_true_eq]; omega
  · rw [if_neg (fun hh => h (hn.1 hh)), if_neg h]
    obtain ⟨c, rfl⟩ : ∃ c : Nat, b = (c : Int) := ⟨b.natAbs, by omega⟩
    rw [Int.natAbs_natCast]
    have e2 : t * ((2 * c : Nat) : Int) = 2 * (t * (c : Int)) := by rw [Int.natCast_mul]; simp only [Int.mul_assoc, Int.mul_comm, Int.mul_left_comm]; rfl
    rw [e2, Bool.eq_iff_iff]; simp only [decide_eq_true_eq]; omega
theorem sameQ_eq {t a b : Int} : (ordI (t * b) a == 0) = decide (t * ((2 * b.natAbs : Nat) : Int) = 2 * qS a b) := by
  rw [ord_eq0]
  unfold qS
  by_cases h : b < 0
  · rw [if_pos h]
    obtain ⟨c, rfl⟩ : ∃ c : Nat, b = -(c : Int) := ⟨b.natAbs, by omega⟩
    rw [Int.natAbs_neg, Int.natAbs_natCast]
    have e1 : t * -(c : Int) = -(t * (c : Int)) := Int.mul_neg _ _
    have e2 : t * ((2 * c : Nat) : Int) = 2 * (t * (c : Int)) := by rw [Int.natCast_mul]; simp only [Int.mul_assoc, Int.mul_comm, Int.mul_left_comm]; rfl
    rw [e1, e2, Bool.eq_iff_iff]; simp only [decide_eq_true_eq]; omega
  · rw [if_neg h]
    obtain ⟨c, rfl⟩ : ∃ c : Nat, b = (c : Int) := ⟨b.natAbs, by omega⟩
    rw [Int.natAbs_natCast]
    have e2 : t * ((2 * c : Nat) : Int) = 2 * (t * (c : Int)) := by rw [Int.natCast_mul]; simp only [Int.mul_assoc, Int.mul_comm, Int.mul_left_comm]; rfl
    rw [e2, Bool.eq_iff_iff]; simp only [decide_eq_true_eq]; omega

theorem belowR_eq {t X : Int} {A : Nat} {neg : Prop} [Decidable neg] (hn : neg ↔ t ≤ 0) (hX : X = ((4 * A * pw 1074 : Nat) : Int)) : (decide neg || decide (ordI (t * t) X ≤ 0)) = decide (t * (rootD A : Int) ≤ 2 * (rootN A : Int)) := by
  rw [ord_le]
  have hD := rootD_pos A
  by_cases h : t ≤ 0
  · have h1 : t * (rootD A : Int) ≤ 0 := Int.mul_nonpos_of_nonpos_of_nonneg h (by omega)
    have : decide neg = true := by simpa using hn.2 h
    rw [this, Bool.true_or]
    symm
    simp only [decide_eq_true_eq]; omega
  · have : decide neg = false := by simpa using fun hh => h (hn.1 hh)
    rw [this, Bool.false_or]
    obtain ⟨k, rfl⟩ : ∃ k : Nat, t = (k : Int) := ⟨t.toNat, by omega⟩
    have hr := root_le A k
    subst hX
    rw [Bool.eq_iff_iff]
    simp only [decide_eq_true_eq]
    rw [← Int.natCast_mul, ← Int.natCast_mul, show (2 : Int) = ((2 : Nat) : Int) from rfl, ← Int.natCast_mul, Int.ofNat_le, Int.ofNat_le]
    exact hr.symm
theorem sameR_eq {t X : Int} {A : Nat} {pos : Prop} [Decidable pos] (hn : pos ↔ 0 ≤ t) (hX : X = ((4 * A * pw 1074 : Nat) : Int)) : (decide pos && (ordI (t * t) X == 0)) = decide (t * (rootD A : Int) = 2 * (rootN A : Int)) := by
  rw [ord_eq0]
  have hD := rootD_pos A
  by_cases h : 0 ≤ t
  · have : decide pos = true := by simpa using hn.2 h
    rw [this, Bool.true_and]
    obtain ⟨k, rfl⟩ : ∃ k : Nat, t = (k : Int) := ⟨t.toNat, by omega⟩
    have hr := root_eq A k
    subst hX
    rw [Bool.eq_iff_iff]
    simp only [decide_eq_true_eq]
    rw [← Int.natCast_mul, ← Int.natCast_mul, show (2 : Int) = ((2 : Nat) : Int) from rfl, ← Int.natCast_mul, Int.ofNat_inj, Int.ofNat_inj]
    exact hr.symm
  · have : decide pos = false := by simpa using fun hh => h (hn.1 hh)
    rw [this, Bool.false_and]
    have h1 : t * (rootD A : Int) < 0 := Int.mul_neg_of_neg_of_pos (by omega) (by omega)
    symm
    simp only [decide_eq_false_iff_not]; omega

/-- The middle of a place and the next one. -/
theorem mid_rng {lo hi mid : Int} (h : lo < hi) (l1 : -9218868437227405312 ≤ lo) (l2 : hi ≤ 9218868437227405311) (hm : mid = lo.tdiv 2 + hi.tdiv 2 + (lo.tmod 2 + hi.tmod 2 + 1).tdiv 2) : lo ≤ mid ∧ mid ≤ hi := by
  have a1 := Int.mul_tdiv_add_tmod lo 2
  have a2 := Int.mul_tdiv_add_tmod hi 2
  have b1 : -1 ≤ lo.tmod 2 ∧ lo.tmod 2 ≤ 1 := by
    have h1 := Int.tmod_lt_of_pos lo (show (0 : Int) < 2 by decide)
    have h2 := Int.lt_tmod_of_pos lo (show (0 : Int) < 2 by decide)
    omega
  have b2 : -1 ≤ hi.tmod 2 ∧ hi.tmod 2 ≤ 1 := by
    have h1 := Int.tmod_lt_of_pos hi (show (0 : Int) < 2 by decide)
    have h2 := Int.lt_tmod_of_pos hi (show (0 : Int) < 2 by decide)
    omega
  generalize lo.tmod 2 = r1 at *
  generalize hi.tmod 2 = r2 at *
  generalize lo.tdiv 2 = q1 at *
  generalize hi.tdiv 2 = q2 at *
  have c : (r1 + r2 + 1).tdiv 2 = if r1 + r2 ≥ 1 then 1 else 0 := by
    have : r1 + r2 = -2 ∨ r1 + r2 = -1 ∨ r1 + r2 = 0 ∨ r1 + r2 = 1 ∨ r1 + r2 = 2 := by omega
    rcases this with h | h | h | h | h <;> rw [h] <;> rfl
  rw [c] at hm
  split at hm <;> omega
end Go.Proofs.Ytjdccbigaahkeaa.Fl

/- Amounts far above, and far below, all floats: where exponents are cut. (plain; no program) -/
namespace Go.Proofs.Ytjdccbigaahkeaa.Fl
set_option linter.unusedSimpArgs false
set_option linter.unusedVariables false

theorem rung_over {N D : Nat} (dir : Int) (hD : 0 < D) (h : G INFR * D ≤ N) : rungOf N D dir = if dir < 0 then INFR - 1 else INFR := by
  have f := flr_over h
  have e : INFR - 1 + 1 = INFR := by decide
  have g : G (INFR - 1) * D < G INFR * D := Nat.mul_lt_mul_of_pos_right (G_lt (by decide)) hD
  have g2 : (G (INFR - 1) + G INFR) * D = G (INFR - 1) * D + G INFR * D := Nat.add_mul _ _ _
  unfold rungOf
  rw [f, e, g2]
  generalize G (INFR - 1) * D = x at *
  generalize G INFR * D = y at *
  rw [if_neg (by omega)]
  by_cases h1 : dir < 0
  · rw [if_pos h1, if_pos h1]
  · rw [if_neg h1, if_neg h1]
    by_cases h2 : 0 < dir
    · rw [if_pos h2]
    · rw [if_neg h2, if_neg (by omega), if_pos (by omega)]

theorem rung_under {N D : Nat} (dir : Int) (hN : 0 < N) (h : 2 * N < D) : rungOf N D dir = if 0 < dir then 1 else 0 := by
  have g1 : G (0 + 1) = 1 := by decide
  have f : flr N D = 0 := flr_eq (by decide) (by rw [G_zero]; omega) (Or.inr (by rw [g1]; omega))
  unfold rungOf
  rw [f, G_zero, g1]
  rw [if_neg (by omega)]
  by_cases h1 : dir < 0
  · rw [if_pos h1, if_neg (by omega)]
  · rw [if_neg h1]
    by_cases h2 : 0 < dir
    · rw [if_pos h2, if_pos h2]
    · rw [if_neg h2, if_neg h2, if_pos (by omega)]

theorem plc_same {S T : Int} {D E : Nat} (hs : S < 0 ↔ T < 0) (h : ∀ dir, rungOf S.natAbs D dir = rungOf T.natAbs E dir) (dir : Int) : rnd S D dir = rnd T E dir := by
  rw [rnd_eq, rnd_eq]
  unfold plc
  rw [h, h]
  by_cases c : S < 0
  · rw [if_pos c, if_pos (hs.1 c)]
  · rw [if_neg c, if_neg (fun hh => c (hs.2 hh))]

def sgM (neg : Bool) (m : Nat) : Int := if neg then -(m : Int) else (m : Int)

theorem sgM_mul (neg : Bool) (m p : Nat) : sgM neg m * (p : Int) = sgM neg (m * p) := by unfold sgM; cases neg <;> simp [Int.neg_mul]
theorem sgM_abs (neg : Bool) (m : Nat) : (sgM neg m).natAbs = m := by unfold sgM; cases neg <;> simp
theorem sgM_neg (neg : Bool) (m : Nat) : sgM neg m < 0 ↔ neg = true ∧ m ≠ 0 := by unfold sgM; cases neg <;> simp <;> omega

theorem G_INFR : G INFR = pw (1024 + 1074) := by
  have := G_normal' (K := 2046) (m := 0) (by decide)
  rw [show (2046 + 1) * BIN + 0 = INFR by decide, Nat.add_zero] at this
  rw [this, show BIN = pw 52 by rw [pw_eq], ← pw_add]
theorem pw_mono {a b : Nat} (h : a ≤ b) : pw a ≤ pw b := by rw [pw_eq, pw_eq]; exact Nat.pow_le_pow_right (by decide) h

/-- Exponents are cut: to whichever of both bounds. -/
theorem clip_eq (neg : Bool) {m : Nat} (hm : m < pw 64) (e : Int) (dir : Int) :
    rnd (sgM neg m * (pw (min (max e (-4000)) 4000 + 1074).toNat : Nat)) (pw (-(min (max e (-4000)) 4000 + 1074)).toNat) dir = rnd (sgM neg m * (pw (min (max e (-5000)) 5000 + 6075).toNat : Nat)) (2 * pw 5000) dir := by
  have p2 : 2 * pw 5000 = pw 5001 := by rw [show 5001 = 1 + 5000 by rfl, pw_add, pw_eq 1]
  rw [p2, sgM_mul, sgM_mul]
  by_cases h0 : m = 0
  · subst h0
    rw [Nat.zero_mul, Nat.zero_mul]
    refine plc_same Iff.rfl ?_ dir
    intro d
    rw [sgM_abs, rungOf_zero _ (pw_pos _), rungOf_zero _ (pw_pos _)]
  · have hpos : ∀ k, m * pw k ≠ 0 := fun k => by have := Nat.mul_pos (Nat.pos_of_ne_zero h0) (pw_pos k); omega
    refine plc_same ?_ ?_ dir
    · rw [sgM_neg, sgM_neg]; simp [hpos]
    · intro d
      rw [sgM_abs, sgM_abs]
      by_cases c1 : 4000 < e
      · rw [show min (max e (-4000)) 4000 = 4000 by omega]
        have o : ∀ a b : Nat, b + 2098 ≤ a → G INFR * pw b ≤ m * pw a := by
          intro a b h
          rw [G_INFR, ← pw_add]
          have := pw_mono h
          have : pw a ≤ m * pw a := Nat.le_mul_of_pos_left _ (Nat.pos_of_ne_zero h0)
          rw [show 1024 + 1074 + b = b + 2098 by omega]; omega
        rw [rung_over d (pw_pos _) (o _ _ (by omega)), rung_over d (pw_pos _) (o _ _ (by omega))]
      · by_cases c2 : e < -4000
        · rw [show min (max e (-4000)) 4000 = -4000 by omega]
          have u : ∀ a b : Nat, a + 65 ≤ b → 2 * (m * pw a) < pw b := by
            intro a b h
            have h1 := pw_mono h
            have h2 : m * pw a < pw 64 * pw a := Nat.mul_lt_mul_of_pos_right hm (pw_pos _)
            have h3 : pw (a + 65) = 2 * (pw 64 * pw a) := by rw [show a + 65 = 1 + (64 + a) by omega, pw_add, pw_add 64, pw_eq 1]
            omega
          rw [rung_under d (Nat.pos_of_ne_zero (hpos _)) (u _ _ (by omega)), rung_under d (Nat.pos_of_ne_zero (hpos _)) (u _ _ (by omega))]
        · rw [show min (max e (-4000)) 4000 = e by omega, show min (max e (-5000)) 5000 = e by omega]
          refine rungOf_ratio d (pw_pos _) (pw_pos _) ?_
          rw [Nat.mul_assoc, Nat.mul_assoc, ← pw_add, ← pw_add]
          congr 2; omega
end Go.Proofs.Ytjdccbigaahkeaa.Fl

/- What the reference's rounded numbers are: the operations' own. (plain; no program) -/
namespace Go.Proofs.Ytjdccbigaahkeaa.Fl
set_option linter.unusedSimpArgs false
set_option linter.unusedVariables false

theorem nv_up (K : Int) (j : Nat) (s : Bool) (m : Nat) (e : Int) (he : 0 ≤ e + K) : nv (K + j) s m e = nv K s m e * (pw j : Nat) := by
  unfold nv
  rw [show (e + (K + (j : Int))).toNat = (e + K).toNat + j by omega, pw_add, ← Nat.mul_assoc]
  cases s <;> simp [Int.neg_mul]

theorem rnd_double (S : Int) (D : Nat) (dir : Int) (hD : 0 < D) : rnd (S * 2) (2 * D) dir = rnd S D dir := by
  refine rnd_ratio dir (by omega) hD ?_
  rw [Int.natCast_mul, Int.mul_assoc]; congr 1

/-- A sum. -/
theorem whole_sum (s : Bool) (m : Nat) (e T dir : Int) (he : -1074 ≤ e) (h : nv 1074 s m e = T) : rnd (nv (1075 + 0) s m e) (2 * pw (0 : Int).toNat) dir = rnd T 1 dir := by
  have e1 := nv_up 1074 1 s m e (by omega)
  rw [h] at e1
  rw [show (1075 + 0 : Int) = 1074 + ((1 : Nat) : Int) by rfl, e1, show pw (0 : Int).toNat = 1 by rw [pw_eq]; rfl, show ((pw 1 : Nat) : Int) = 2 by rw [pw_eq]; rfl]
  exact rnd_double T 1 dir (by decide)

/-- A product. -/
theorem whole_prod (s : Bool) (m : Nat) (e T dir : Int) (he : -2148 ≤ e) (h : nv (1074 + 1074) s m e = T) : rnd (nv (1075 + 1074) s m e) (2 * pw (1074 : Int).toNat) dir = rnd T (pw 1074) dir := by
  have e1 := nv_up (1074 + 1074) 1 s m e (by omega)
  rw [h] at e1
  rw [show (1075 + 1074 : Int) = 1074 + 1074 + ((1 : Nat) : Int) by rfl, e1, show ((pw 1 : Nat) : Int) = 2 by rw [pw_eq]; rfl]
  exact rnd_double T _ dir (pw_pos _)

theorem val_abs (x : Nat) : (val x).natAbs = G (rung x) := by unfold val; cases sgn x <;> simp
theorem val_neg (x : Nat) (h : rung x ≠ 0) : val x < 0 ↔ sgn x = true := by
  have := G_pos (Nat.pos_of_ne_zero h)
  unfold val; cases sgn x <;> simp <;> omega

/-- A quotient. -/
theorem quo_eq (s : Bool) (m : Nat) (e : Int) (a b : Nat) (dir : Int) (he : -1074 ≤ e) (ha : nv 1074 s m e = val a) (hb : rung b ≠ 0) :
    rnd (qS (nv (1075 + 1074) s m e) (val b)) (2 * (val b).natAbs) dir = rnd (val a * (if sgn b then -1 else 1) * (pw 1074 : Nat)) (G (rung b)) dir := by
  have e1 := nv_up 1074 1075 s m e (by omega)
  rw [ha] at e1
  have e2 : (1075 + 1074 : Int) = 1074 + ((1075 : Nat) : Int) := by rfl
  rw [e2, e1, val_abs]
  have e3 : ((pw 1075 : Nat) : Int) = (pw 1074 : Nat) * 2 := by rw [show 1075 = 1074 + 1 by rfl, pw_add, pw_eq 1]; simp
  rw [e3]
  unfold qS
  have hs := val_neg b hb
  have e4 : (if val b < 0 then -(val a * (((pw 1074 : Nat) : Int) * 2)) else val a * (((pw 1074 : Nat) : Int) * 2)) = val a * (if sgn b then -1 else 1) * (pw 1074 : Nat) * 2 := by
    by_cases h : sgn b = true
    · rw [if_pos (hs.2 h), h]; simp [Int.mul_assoc, Int.neg_mul]
    · have h' : sgn b = false := by simpa using h
      rw [if_neg (fun hh => h (hs.1 hh)), h']; simp [Int.mul_assoc]
  rw [e4]
  exact rnd_double _ _ dir (G_pos (Nat.pos_of_ne_zero hb))

/-- A root's square. -/
theorem root_eq4 (s : Bool) (m : Nat) (e : Int) (a : Nat) (he : -1074 ≤ e) (ha : nv 1074 s m e = val a) (hs : sgn a = false) : nv (1075 + 1075) s m e = ((4 * G (rung a) * pw 1074 : Nat) : Int) := by
  have e1 := nv_up 1074 1076 s m e (by omega)
  rw [ha] at e1
  rw [show (1075 + 1075 : Int) = 1074 + ((1076 : Nat) : Int) by rfl, e1]
  unfold val
  rw [hs]
  simp only [Bool.false_eq_true, if_false]
  rw [← Int.natCast_mul]
  congr 1
  rw [show 1076 = 2 + 1074 by rfl, pw_add, show pw 2 = 4 by rw [pw_eq], ← Nat.mul_assoc]
  congr 1
  exact Nat.mul_comm _ _

/-- Parts, rounded as the document says. -/
theorem round_parts (neg : Bool) (m : Nat) (hm : m < 18446744073709551616) (e e5 dir : Int) (h5 : e5 = min (max e (-5000)) 5000) :
    rnd (nv (1075 + 5000) (neg && decide (m ≠ 0)) m e5) (2 * pw (5000 : Int).toNat) dir = rnd ((if neg then -(m : Int) else (m : Int)) * (pw (min (max e (-4000)) 4000 + 1074).toNat : Nat)) (pw (-(min (max e (-4000)) 4000 + 1074)).toNat) dir := by
  have hm64 : m < pw 64 := by rw [pw_eq]; exact hm
  have h := clip_eq neg hm64 e dir
  unfold sgM at h
  rw [h, ← h5]
  congr 1
  unfold nv
  by_cases h0 : m = 0
  · subst h0; cases neg <;> simp
  · have : (neg && decide (m ≠ 0)) = neg := by simp [h0]
    rw [this, show (e5 + (1075 + 5000)).toNat = (e5 + 6075).toNat by omega]
    cases neg <;> simp [Int.neg_mul]

theorem bits_idx_word {x : Nat} (h : rung x ≠ 0) : bitsOf (idx x) = word (sgn x) (rung x) := by
  unfold idx; exact bitsOf_word _ _ (Nat.pos_of_ne_zero h)

/-- -b, and 0 - b. -/
theorem addS_cl (a b : Nat) (dir : Int) (hn : nan b = false) : addS a (cl b) dir = addS a b dir := by
  unfold cl
  split
  · rename_i h
    have hr := (idx_zero_iff b).1 h
    have f0 : finB 0 = true := by decide
    have fb : finB b = true := by rw [finB_rung, hr]; decide
    have v0 : val 0 = 0 := by decide
    have vb : val b = 0 := (val_eq_zero b).2 hr
    have n0 : nan 0 = false := by decide
    unfold addS
    rw [f0, fb, v0, vb, n0, hn]
    by_cases fa : finB a = true
    · rw [fa]; simp
    · have fa' : finB a = false := by simpa using fa
      rw [fa']; simp
  · rfl
end Go.Proofs.Ytjdccbigaahkeaa.Fl
