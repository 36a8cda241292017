/- What the reference's rounded numbers are: the operations' own. (plain; no program) -/
import Derived.Test.YtjdccbigaahkeaaFl16
import Derived.Test.YtjdccbigaahkeaaFl11
namespace Go.Proofs.Ytjdccbigaahkeaa.Fl
set_option linter.unusedSimpArgs false
set_option linter.unusedVariables false

theorem nv_up (K : Int) (j : Nat) (s : Bool) (m : Nat) (e : Int) (he : 0 ≤ e + K) : nv (K + j) s m e = nv K s m e * (pw j : Nat) := by
  unfold nv
  rw [show (e + (K + (j : Int))).toNat = (e + K).toNat + j by omega, pw_add, ← Nat.mul_assoc]
  cases s <;> simp [Int.neg_mul]

theorem rnd_double (S : Int) (D : Nat) (dir : Int) (hD : 0 < D) : rnd (S * 2) (2 * D) dir = rnd S D dir := by
  refine rnd_ratio dir (by omega) hD ?_
  rw [Int.natCast_mul, Int.mul_assoc]; congr 1

/-- A sum. -/
theorem whole_sum (s : Bool) (m : Nat) (e T dir : Int) (he : -1074 ≤ e) (h : nv 1074 s m e = T) : rnd (nv (1075 + 0) s m e) (2 * pw (0 : Int).toNat) dir = rnd T 1 dir := by
  have e1 := nv_up 1074 1 s m e (by omega)
  rw [h] at e1
  rw [show (1075 + 0 : Int) = 1074 + ((1 : Nat) : Int) by rfl, e1, show pw (0 : Int).toNat = 1 by rw [pw_eq]; rfl, show ((pw 1 : Nat) : Int) = 2 by rw [pw_eq]; rfl]
  exact rnd_double T 1 dir (by decide)

/-- A product. -/
theorem whole_prod (s : Bool) (m : Nat) (e T dir : Int) (he : -2148 ≤ e) (h : nv (1074 + 1074) s m e = T) : rnd (nv (1075 + 1074) s m e) (2 * pw (1074 : Int).toNat) dir = rnd T (pw 1074) dir := by
  have e1 := nv_up (1074 + 1074) 1 s m e (by omega)
  rw [h] at e1
  rw [show (1075 + 1074 : Int) = 1074 + 1074 + ((1 : Nat) : Int) by rfl, e1, show ((pw 1 : Nat) : Int) = 2 by rw [pw_eq]; rfl]
  exact rnd_double T _ dir (pw_pos _)

theorem val_abs (x : Nat) : (val x).natAbs = G (rung x) := by unfold val; cases sgn x <;> simp
theorem val_neg (x : Nat) (h : rung x ≠ 0) : val x < 0 ↔ sgn x = true := by
  have := G_pos (Nat.pos_of_ne_zero h)
  unfold val; cases sgn x <;> simp <;> omega

/-- A quotient. -/
theorem quo_eq (s : Bool) (m : Nat) (e : Int) (a b : Nat) (dir : Int) (he : -1074 ≤ e) (ha : nv 1074 s m e = val a) (hb : rung b ≠ 0) :
    rnd (qS (nv (1075 + 1074) s m e) (val b)) (2 * (val b).natAbs) dir = rnd (val a * (if sgn b then -1 else 1) * (pw 1074 : Nat)) (G (rung b)) dir := by
  have e1 := nv_up 1074 1075 s m e (by omega)
  rw [ha] at e1
  have e2 : (1075 + 1074 : Int) = 1074 + ((1075 : Nat) : Int) := by rfl
  rw [e2, e1, val_abs]
  have e3 : ((pw 1075 : Nat) : Int) = (pw 1074 : Nat) * 2 := by rw [show 1075 = 1074 + 1 by rfl, pw_add, pw_eq 1]; simp
  rw [e3]
  unfold qS
  have hs := val_neg b hb
  have e4 : (if val b < 0 then -(val a * (((pw 1074 : Nat) : Int) * 2)) else val a * (((pw 1074 : Nat) : Int) * 2)) = val a * (if sgn b then -1 else 1) * (pw 1074 : Nat) * 2 := by
    by_cases h : sgn b = true
    · rw [if_pos (hs.2 h), h]; simp [Int.mul_assoc, Int.neg_mul]
    · have h' : sgn b = false := by simpa using h
      rw [if_neg (fun hh => h (hs.1 hh)), h']; simp [Int.mul_assoc]
  rw [e4]
  exact rnd_double _ _ dir (G_pos (Nat.pos_of_ne_zero hb))

/-- A root's square. -/
theorem root_eq4 (s : Bool) (m : Nat) (e : Int) (a : Nat) (he : -1074 ≤ e) (ha : nv 1074 s m e = val a) (hs : sgn a = false) : nv (1075 + 1075) s m e = ((4 * G (rung a) * pw 1074 : Nat) : Int) := by
  have e1 := nv_up 1074 1076 s m e (by omega)
  rw [ha] at e1
  rw [show (1075 + 1075 : Int) = 1074 + ((1076 : Nat) : Int) by rfl, e1]
  unfold val
  rw [hs]
  simp only [Bool.false_eq_true, if_false]
  rw [← Int.natCast_mul]
  congr 1
  rw [show 1076 = 2 + 1074 by rfl, pw_add, show pw 2 = 4 by rw [pw_eq], ← Nat.mul_assoc]
  congr 1
  exact Nat.mul_comm _ _

/-- Parts, rounded as the document says. -/
theorem round_parts (neg : Bool) (m : Nat) (hm : m < 18446744073709551616) (e e5 dir : Int) (h5 : e5 = min (max e (-5000)) 5000) :
    rnd (nv (1075 + 5000) (neg && decide (m ≠ 0)) m e5) (2 * pw (5000 : Int).toNat) dir = rnd ((if neg then -(m : Int) else (m : Int)) * (pw (min (max e (-4000)) 4000 + 1074).toNat : Nat)) (pw (-(min (max e (-4000)) 4000 + 1074)).toNat) dir := by
  have hm64 : m < pw 64 := by rw [pw_eq]; exact hm
  have h := clip_eq neg hm64 e dir
  unfold sgM at h
  rw [h, ← h5]
  congr 1
  unfold nv
  by_cases h0 : m = 0
  · subst h0; cases neg <;> simp
  · have : (neg && decide (m ≠ 0)) = neg := by simp [h0]
    rw [this, show (e5 + (1075 + 5000)).toNat = (e5 + 6075).toNat by omega]
    cases neg <;> simp [Int.neg_mul]

theorem bits_idx_word {x : Nat} (h : rung x ≠ 0) : bitsOf (idx x) = word (sgn x) (rung x) := by
  unfold idx; exact bitsOf_word _ _ (Nat.pos_of_ne_zero h)

/-- -b, and 0 - b. -/
theorem addS_cl (a b : Nat) (dir : Int) (hn : nan b = false) : addS a (cl b) dir = addS a b dir := by
  unfold cl
  split
  · rename_i h
    have hr := (idx_zero_iff b).1 h
    have f0 : finB 0 = true := by decide
    have fb : finB b = true := by rw [finB_rung, hr]; decide
    have v0 : val 0 = 0 := by decide
    have vb : val b = 0 := (val_eq_zero b).2 hr
    have n0 : nan 0 = false := by decide
    unfold addS
    rw [f0, fb, v0, vb, n0, hn]
    by_cases fa : finB a = true
    · rw [fa]; simp
    · have fa' : finB a = false := by simpa using fa
      rw [fa']; simp
  · rfl
end Go.Proofs.Ytjdccbigaahkeaa.Fl
