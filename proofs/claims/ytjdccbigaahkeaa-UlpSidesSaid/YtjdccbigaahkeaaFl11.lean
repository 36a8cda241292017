/- Rounded to either side: the order of what comes out; mirrored. (plain; no program) -/
import Derived.Test.YtjdccbigaahkeaaFl10
namespace Go.Proofs.Ytjdccbigaahkeaa.Fl
set_option linter.unusedSimpArgs false
set_option linter.unusedVariables false

/-- The place of what is rounded. -/
def plc (S : Int) (D : Nat) (dir : Int) : Int := if S < 0 then -(rungOf S.natAbs D (-dir) : Int) else (rungOf S.natAbs D dir : Int)

theorem rnd_eq (S : Int) (D : Nat) (dir : Int) : rnd S D dir = bitsOf (plc S D dir) := by
  unfold rnd plc
  by_cases h : S < 0 <;> simp [h]

theorem plc_le (S : Int) (D : Nat) (dir : Int) : -9218868437227405312 ≤ plc S D dir ∧ plc S D dir ≤ 9218868437227405312 := by
  have h1 := rungOf_le S.natAbs D dir
  have h2 := rungOf_le S.natAbs D (-dir)
  unfold INFR at h1 h2
  unfold plc
  split <;> omega

/-- Down, near, up: in this order, and no more than neighbours. -/
theorem rungOf_sides (N D : Nat) : rungOf N D (-1) ≤ rungOf N D 0 ∧ rungOf N D 0 ≤ rungOf N D 1 ∧ rungOf N D 1 ≤ rungOf N D (-1) + 1 := by
  unfold rungOf
  by_cases h : G (flr N D) * D = N
  · rw [if_pos h, if_pos h, if_pos h]; omega
  · rw [if_neg h, if_neg h, if_neg h]
    simp only [show ((-1 : Int) < 0) by decide, show ¬ ((0 : Int) < 0) by decide, show ¬ ((1 : Int) < 0) by decide, show ((0 : Int) < 1) by decide, if_true, if_false]
    repeat' split
    all_goals omega

theorem plc_sides (S : Int) (D : Nat) : plc S D (-1) ≤ plc S D 0 ∧ plc S D 0 ≤ plc S D 1 ∧ plc S D 1 ≤ plc S D (-1) + 1 := by
  have h := rungOf_sides S.natAbs D
  unfold plc
  split
  · rw [show (-(-1) : Int) = 1 by decide, show (-(0) : Int) = 0 by decide]; omega
  · omega

theorem plc_neg {S : Int} {D : Nat} (hD : 0 < D) (dir : Int) : plc (-S) D dir = - plc S D (-dir) := by
  unfold plc
  rw [Int.natAbs_neg]
  rcases Int.lt_trichotomy S 0 with h | h | h
  · rw [if_neg (by omega), if_pos h]; simp
  · subst h; simp [rungOf_zero D hD]
  · rw [if_pos (by omega), if_neg (by omega)]

/-- A place's own float. -/
theorem nan_bits {i : Int} (h1 : -9218868437227405312 ≤ i) (h2 : i ≤ 9218868437227405312) : nan (bitsOf i) = false ∧ idx (bitsOf i) = i ∧ bitsOf i < 18446744073709551616 := by
  have e := idx_bitsOf (i := i) (by unfold INFR; omega) (by unfold INFR; omega)
  exact ⟨e.2.1, e.1, e.2.2⟩

def SidesOk (d n u : Nat) : Prop :=
  (nan d = true ∧ nan n = true ∧ nan u = true) ∨
    ∃ i j k : Int, d = bitsOf i ∧ n = bitsOf j ∧ u = bitsOf k ∧ -9218868437227405312 ≤ i ∧ i ≤ j ∧ j ≤ k ∧ k ≤ i + 1 ∧ k ≤ 9218868437227405312

theorem SidesOk.eqv {d n u d' n' u' : Nat} (h : SidesOk d n u) (h1 : Eqv d' d) (h2 : Eqv n' n) (h3 : Eqv u' u) : SidesOk d' n' u' := by
  rcases h with ⟨a, b, c⟩ | ⟨i, j, k, rfl, rfl, rfl, b1, b2, b3, b4, b5⟩
  · exact Or.inl ⟨by rw [h1.nan, a], by rw [h2.nan, b], by rw [h3.nan, c]⟩
  · right
    refine ⟨i, j, k, h1.num (nan_bits (by omega) (by omega)).1, h2.num (nan_bits (by omega) (by omega)).1, h3.num (nan_bits (by omega) (by omega)).1, b1, b2, b3, b4, b5⟩

theorem sides_rnd (S : Int) (D : Nat) : SidesOk (rnd S D (-1)) (rnd S D 0) (rnd S D 1) := by
  right
  have h := plc_sides S D
  have h1 := plc_le S D (-1)
  have h2 := plc_le S D 1
  exact ⟨_, _, _, rnd_eq _ _ _, rnd_eq _ _ _, rnd_eq _ _ _, h1.1, h.1, h.2.1, h.2.2, h2.2⟩

theorem sides_nan {x : Nat} (h : nan x = true) : SidesOk x x x := Or.inl ⟨h, h, h⟩
theorem sides_bits {i : Int} (h1 : -9218868437227405312 ≤ i) (h2 : i ≤ 9218868437227405312) : SidesOk (bitsOf i) (bitsOf i) (bitsOf i) := Or.inr ⟨i, i, i, rfl, rfl, rfl, h1, by omega, by omega, by omega, h2⟩
theorem sides_inf {x : Nat} (hx : x < 18446744073709551616) (h : rung x = INFR) : SidesOk x x x := by
  have hi : idx x ≠ 0 := fun hh => by have := (idx_zero_iff x).1 hh; rw [h] at this; exact absurd this (by decide)
  rw [← bitsOf_idx hx hi]
  apply sides_bits
  all_goals
    unfold idx
    rw [h]
    unfold INFR
    cases sgn x <;> simp

theorem sides_add {a b : Nat} (ha : a < 18446744073709551616) (hb : b < 18446744073709551616) : SidesOk (addS a b (-1)) (addS a b 0) (addS a b 1) := by
  unfold addS
  split
  · exact sides_rnd _ _
  · rename_i h0
    split
    · exact sides_nan nan_QN
    · rename_i hn
      simp only [Bool.or_eq_true, not_or, Bool.not_eq_true] at hn
      split
      · rename_i fa
        have fb : finB b = false := by cases h : finB b; rfl; rw [fa, h] at h0; exact absurd rfl h0
        exact sides_inf hb (read_inf fb hn.2).2
      · rename_i fa
        have ia := (read_inf (by simpa using fa) hn.1).2
        split
        · exact sides_inf ha ia
        · split
          · exact sides_inf ha ia
          · exact sides_nan nan_QN

theorem infW_rung (s : Bool) : rung (infW s) = INFR := rung_word _ (by decide)
theorem infW_lt (s : Bool) : infW s < 18446744073709551616 := word_lt _ (by decide)

theorem sides_mul (a b : Nat) : SidesOk (mulS a b (-1)) (mulS a b 0) (mulS a b 1) := by
  unfold mulS
  split
  · exact sides_nan nan_QN
  · split
    · exact sides_bits (i := 0) (by decide) (by decide)
    · split
      · exact sides_rnd _ _
      · exact sides_inf (infW_lt _) (infW_rung _)

theorem sides_div (a b : Nat) : SidesOk (divS a b (-1)) (divS a b 0) (divS a b 1) := by
  unfold divS
  split
  · exact sides_nan nan_QN
  · split
    · exact sides_nan nan_QN
    · split
      · exact sides_rnd _ _
      · split
        · exact sides_bits (i := 0) (by decide) (by decide)
        · split
          · exact sides_inf (infW_lt _) (infW_rung _)
          · exact sides_nan nan_QN

theorem sides_root {a : Nat} (ha : a < 18446744073709551616) : SidesOk (rootS a (-1)) (rootS a 0) (rootS a 1) := by
  unfold rootS
  split
  · exact sides_nan nan_QN
  · rename_i hn
    split
    · exact sides_bits (i := 0) (by decide) (by decide)
    · split
      · exact sides_nan nan_QN
      · split
        · exact sides_rnd _ _
        · rename_i hf
          exact sides_inf ha (read_inf (by simpa using hf) (by simpa using hn)).2

/-- Each other's negatives, or no numbers both. -/
def MirOk (x y : Nat) : Prop := (nan x = true ∧ nan y = true) ∨ ∃ i : Int, x = bitsOf i ∧ y = bitsOf (-i) ∧ -9218868437227405312 ≤ i ∧ i ≤ 9218868437227405312

theorem MirOk.eqv {x y x' y' : Nat} (h : MirOk x y) (h1 : Eqv x' x) (h2 : Eqv y' y) : MirOk x' y' := by
  rcases h with ⟨a, b⟩ | ⟨i, rfl, rfl, b1, b2⟩
  · exact Or.inl ⟨by rw [h1.nan, a], by rw [h2.nan, b]⟩
  · exact Or.inr ⟨i, h1.num (nan_bits b1 b2).1, h2.num (nan_bits (by omega) (by omega)).1, b1, b2⟩

theorem mir_rnd {S T : Int} {D : Nat} (hD : 0 < D) (h : T = -S) : MirOk (rnd S D (-1)) (rnd T D 1) := by
  right
  have h1 := plc_le S D (-1)
  refine ⟨_, rnd_eq _ _ _, ?_, h1.1, h1.2⟩
  rw [rnd_eq, h, plc_neg hD]

theorem mir_inf (s : Bool) : MirOk (infW s) (infW (!s)) := by
  right
  cases s
  · exact ⟨9218868437227405312, by decide, by decide, by decide, by decide⟩
  · exact ⟨-9218868437227405312, by decide, by decide, by decide, by decide⟩

theorem mir_zero : MirOk 0 0 := Or.inr ⟨0, by decide, by decide, by decide, by decide⟩
theorem mir_nan : MirOk QN QN := Or.inl ⟨nan_QN, nan_QN⟩

theorem finB_fneg (x : Nat) : finB (fneg x) = finB x := by unfold finB; rw [rung_fneg]

theorem mir_infx {x : Nat} (hx : x < 18446744073709551616) (h : rung x = INFR) : MirOk x (fneg x) := by
  have e := infW_of hx h
  have e2 : infW (!sgn x) = fneg x := by unfold infW fneg; rw [h]
  rw [← e2, ← e]
  have : sgn (infW (sgn x)) = sgn x := by rw [e]
  rw [this]
  exact mir_inf _

theorem mir_add {a b : Nat} (ha : a < 18446744073709551616) (hb : b < 18446744073709551616) : MirOk (addS a b (-1)) (addS (fneg a) (fneg b) 1) := by
  unfold addS
  rw [finB_fneg, finB_fneg, nan_fneg, nan_fneg, sgn_fneg, sgn_fneg, val_fneg, val_fneg]
  by_cases h0 : (finB a && finB b) = true
  · rw [if_pos h0, if_pos h0]; exact mir_rnd (by decide) (by omega)
  · rw [if_neg h0, if_neg h0]
    by_cases hn : (nan a || nan b) = true
    · rw [if_pos hn, if_pos hn]; exact mir_nan
    · rw [if_neg hn, if_neg hn]
      simp only [Bool.or_eq_true, not_or, Bool.not_eq_true] at hn
      by_cases fa : finB a = true
      · rw [if_pos fa, if_pos fa]
        have fb : finB b = false := by cases h : finB b; rfl; rw [fa, h] at h0; exact absurd rfl h0
        exact mir_infx hb (read_inf fb hn.2).2
      · rw [if_neg fa, if_neg fa]
        have ia := (read_inf (by simpa using fa) hn.1).2
        by_cases fb : finB b = true
        · rw [if_pos fb, if_pos fb]; exact mir_infx ha ia
        · rw [if_neg fb, if_neg fb]
          by_cases hs : sgn a = sgn b
          · rw [if_pos hs, if_pos (by rw [hs])]; exact mir_infx ha ia
          · rw [if_neg hs, if_neg (by simpa using hs)]; exact mir_nan

theorem mir_mul (a b : Nat) : MirOk (mulS a b (-1)) (mulS (fneg a) b 1) := by
  unfold mulS
  rw [finB_fneg, nan_fneg, sgn_fneg, val_fneg, rung_fneg]
  by_cases hn : (nan a || nan b) = true
  · rw [if_pos hn, if_pos hn]; exact mir_nan
  · rw [if_neg hn, if_neg hn]
    by_cases hz : rung a = 0 ∨ rung b = 0
    · rw [if_pos hz, if_pos hz]; exact mir_zero
    · rw [if_neg hz, if_neg hz]
      by_cases h0 : (finB a && finB b) = true
      · rw [if_pos h0, if_pos h0]; exact mir_rnd (pw_pos _) (by rw [Int.neg_mul])
      · rw [if_neg h0, if_neg h0]
        have : (!sgn a ^^ sgn b) = !(sgn a ^^ sgn b) := by cases sgn a <;> cases sgn b <;> rfl
        rw [this]; exact mir_inf _

theorem mir_div (a b : Nat) : MirOk (divS a b (-1)) (divS a (fneg b) 1) := by
  unfold divS
  rw [finB_fneg, nan_fneg, sgn_fneg, rung_fneg]
  by_cases hn : (nan a || nan b) = true
  · rw [if_pos hn, if_pos hn]; exact mir_nan
  · rw [if_neg hn, if_neg hn]
    by_cases hz : rung b = 0
    · rw [if_pos hz, if_pos hz]; exact mir_nan
    · rw [if_neg hz, if_neg hz]
      by_cases h0 : (finB a && finB b) = true
      · rw [if_pos h0, if_pos h0]
        refine mir_rnd (G_pos (Nat.pos_of_ne_zero hz)) ?_
        rw [← Int.neg_mul]
        congr 1
        cases sgn b <;> simp
      · rw [if_neg h0, if_neg h0]
        by_cases fa : finB a = true
        · rw [if_pos fa, if_pos fa]; exact mir_zero
        · rw [if_neg fa, if_neg fa]
          by_cases fb : finB b = true
          · rw [if_pos fb, if_pos fb]
            have : (sgn a ^^ !sgn b) = !(sgn a ^^ sgn b) := by cases sgn a <;> cases sgn b <;> rfl
            rw [this]; exact mir_inf _
          · rw [if_neg fb, if_neg fb]; exact mir_nan

theorem addS_comm {a b : Nat} (ha : a < 18446744073709551616) (hb : b < 18446744073709551616) (dir : Int) : addS a b dir = addS b a dir := by
  unfold addS
  rw [Bool.and_comm, Bool.or_comm, Int.add_comm]
  by_cases h0 : (finB b && finB a) = true
  · rw [if_pos h0, if_pos h0]
  · rw [if_neg h0, if_neg h0]
    by_cases hn : (nan b || nan a) = true
    · rw [if_pos hn, if_pos hn]
    · rw [if_neg hn, if_neg hn]
      simp only [Bool.or_eq_true, not_or, Bool.not_eq_true] at hn
      by_cases fa : finB a = true
      · have fb : ¬ finB b = true := by intro h; rw [fa, h] at h0; exact absurd rfl h0
        rw [if_pos fa, if_neg fb, if_pos fa]
      · by_cases fb : finB b = true
        · rw [if_neg fa, if_pos fb, if_pos fb]
        · rw [if_neg fa, if_neg fb, if_neg fb, if_neg fa]
          by_cases hs : sgn a = sgn b
          · rw [if_pos hs, if_pos hs.symm]
            have ia := (read_inf (by simpa using fa) hn.2).2
            have ib := (read_inf (by simpa using fb) hn.1).2
            rw [← infW_of ha ia, ← infW_of hb ib, hs]
          · rw [if_neg hs, if_neg (fun h => hs h.symm)]

theorem mulS_comm (a b : Nat) (dir : Int) : mulS a b dir = mulS b a dir := by
  unfold mulS
  rw [Bool.or_comm, Bool.and_comm, Int.mul_comm, Bool.xor_comm]
  congr 2
  exact propext or_comm
end Go.Proofs.Ytjdccbigaahkeaa.Fl
