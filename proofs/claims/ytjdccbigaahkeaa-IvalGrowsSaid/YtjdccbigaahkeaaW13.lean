/- Contracts: rounding of parts; products. -/
import Derived.Test.YtjdccbigaahkeaaW12
namespace Go.Proofs.Ytjdccbigaahkeaa
set_option linter.unusedSimpArgs false
set_option linter.unusedVariables false
open Go.RowKit
open Fl

@[go_sem] theorem build_va4 (a : Bool) (b c d : Int) (w : World) : (Instr.build 66 #[(0, .bool a), (1, .int .u64 b), (2, .int .u64 c), (3, .int .i64 d)]).run Try.prog w = .ok (.agg #[.bool a, .int .u64 b, .int .u64 c, .int .i64 d, .bool false]) w := run_build w 66 _ _ (by kernel_rfl)
@[go_sem] theorem build_va4m (a : Bool) (c d : Int) (m : Bool) (w : World) : (Instr.build 66 #[(0, .bool a), (2, .int .u64 c), (3, .int .i64 d), (4, .bool m)]).run Try.prog w = .ok (.agg #[.bool a, .int .u64 0, .int .u64 c, .int .i64 d, .bool m]) w := run_build w 66 _ _ (by kernel_rfl)

/-- An amount, rounded with its sign. -/
theorem round_signed (S : Int) (neg more : Bool) (hi lo e dir : Int) (D a b : Nat) (h0 : 0 ≤ hi) (h1 : hi ≤ 18446744073709551615) (h2 : 0 ≤ lo) (h3 : lo ≤ 18446744073709551615) (he0 : -6000 ≤ e) (he1 : e ≤ 6000)
    (hA : Amount (hi * 18446744073709551616 + lo).toNat more a b S.natAbs D) (hab : e + 1074 = (a : Int) - b) (hm : more = true → 9007199254740992 ≤ hi * 18446744073709551616 + lo) (hD : 0 < D) (hS : S ≠ 0 → neg = decide (S < 0)) :
    Gives 101 #[(.agg #[.bool neg, .int .u64 hi, .int .u64 lo, .int .i64 e, .bool more]), .int .i64 dir] (.float .f64 (rnd S D dir)) := by
  have := round_any neg more hi lo e dir S.natAbs D a b h0 h1 h2 h3 he0 he1 hA hab hm hD
  have e : signP neg (rungOf S.natAbs D (if neg then -dir else dir)) = rnd S D dir := by
    show _ = signP (decide (S < 0)) (rungOf S.natAbs D (if S < 0 then -dir else dir))
    by_cases hz : S = 0
    · subst hz
      rw [show (0 : Int).natAbs = 0 from rfl, rungOf_zero D hD, rungOf_zero D hD, signP_zero, signP_zero]
    · rw [hS hz]
      by_cases hn : S < 0 <;> simp [hn]
  rw [← e]; exact this

/-- Parts, rounded. -/
def partsS (neg : Bool) (m e : Int) (dir : Int) : Nat := rnd ((if neg then -m else m) * (pw (min (max e (-4000)) 4000 + 1074).toNat : Nat)) (pw (-(min (max e (-4000)) 4000 + 1074)).toNat) dir

set_option maxHeartbeats 1000000 in
theorem roundp_any (neg : Bool) (m e dir : Int) (h0 : 0 ≤ m) (h1 : m ≤ 18446744073709551615) : Gives 44 #[(.agg #[.bool neg, .int .u64 m, .int .i64 e]), .int .i64 dir] (.float .f64 (partsS neg m e dir)) := by
  intro w
  obtain ⟨k, hk⟩ : ∃ k, min (max e (-4000)) 4000 = k := ⟨_, rfl⟩
  have a1 : Gives 101 #[(.agg #[.bool neg, .int .u64 0, .int .u64 m, .int .i64 k, .bool false]), .int .i64 dir] (.float .f64 (partsS neg m e dir)) := by
    unfold partsS
    rw [hk]
    refine round_signed _ neg false 0 m k dir _ (k + 1074).toNat (-(k + 1074)).toNat (by omega) (by omega) h0 h1 (by omega) (by omega) ?_ (by omega) (fun h => absurd h (by decide)) (pw_pos _) ?_
    · show _ * 2 ^ _ = _
      rw [pw_eq (-(k + 1074)).toNat]
      congr 1
      rw [Int.natAbs_mul, Int.natAbs_natCast, pw_eq]
      congr 1
      cases neg <;> simp <;> omega
    · intro hne
      have p := pw_pos (k + 1074).toNat
      generalize (pw (k + 1074).toNat) = P at *
      cases neg
      · simp only [Bool.false_eq_true, if_false] at *
        have : 0 ≤ m * (P : Int) := Int.mul_nonneg h0 (by omega)
        symm; simp; omega
      · simp only [if_true] at *
        have hm : m ≠ 0 := by rintro rfl; simp at hne
        have : 0 < m * (P : Int) := Int.mul_pos (by omega) (by omega)
        rw [Int.neg_mul]
        symm; simp; omega
  clear h0 h1
  generalize partsS neg m e dir = s at *
  go_enter Try.func44, Try.ntmps44
  go_wp2_with (go_at_call 101; refine (a1.go _).mono ?_; rintro _ _ ⟨k, rfl, rfl⟩)
  go_ret
  exact ⟨rfl, by (repeat' (first | (with_reducible exact Below.refl _ _) | (with_reducible assumption) | (with_reducible refine Later.belowOf _ ?_ ?_) | (with_reducible refine Below.alloc ?_ ?_ _) | (with_reducible refine Below.setCell ?_ ?_ _) | (with_reducible refine Below.drewN' _ ?_) | (with_reducible refine Below.drew ?_) | (with_reducible exact Ge.le) | go_size))⟩

set_option maxHeartbeats 1000000 in
theorem math_NaN : Gives 105 #[] (.float .f64 QN) := by
  intro w
  go_enter Try.func105, Try.ntmps105
  go_wp2
  go_ret
  exact ⟨rfl, by (repeat' (first | (with_reducible exact Below.refl _ _) | (with_reducible assumption) | (with_reducible refine Later.belowOf _ ?_ ?_) | (with_reducible refine Below.alloc ?_ ?_ _) | (with_reducible refine Below.setCell ?_ ?_ _) | (with_reducible refine Below.drewN' _ ?_) | (with_reducible refine Below.drew ?_) | (with_reducible exact Ge.le) | go_size))⟩

theorem gives_mul64 (x y : Int) (h0 : 0 ≤ x) (h1 : x ≤ 18446744073709551615) (h2 : 0 ≤ y) (h3 : y ≤ 18446744073709551615) :
    ∃ hi lo : Int, Gives 106 #[.int .u64 x, .int .u64 y] (.tuple #[.int .u64 hi, .int .u64 lo]) ∧ hi * 18446744073709551616 + lo = x * y ∧ 0 ≤ hi ∧ hi ≤ 18446744073709551615 ∧ 0 ≤ lo ∧ lo ≤ 18446744073709551615 := by
  obtain ⟨X, rfl⟩ := Int.eq_ofNat_of_zero_le h0
  obtain ⟨Y, rfl⟩ := Int.eq_ofNat_of_zero_le h2
  have hm : X * Y ≤ 18446744073709551615 * 18446744073709551615 := Nat.mul_le_mul (by omega) (by omega)
  refine ⟨_, _, fun w => (Try.bits_Mul64 X Y (by omega) (by omega) w).mono fun _ _ ⟨h, hw⟩ => ⟨h, hw ▸ Below.refl _ _⟩, ?_, ?_, ?_, ?_, ?_⟩
  · rw [← Int.natCast_mul]; generalize X * Y = Z at *; omega
  all_goals (generalize X * Y = Z at *; omega)

theorem feq_zero {x : Nat} (h : nan x = false) : feq x 0 = decide (rung x = 0) := by
  unfold feq
  rw [h, show nan 0 = false by decide, show idx 0 = 0 by decide]
  have := idx_zero_iff x
  rw [Bool.eq_iff_iff]
  simp [this]

theorem feq_nan {x y : Nat} (h : nan x = true) : feq x y = false := by unfold feq; rw [h]; rfl

theorem qM_zero {x : Nat} (h : finB x = true) : qM x = 0 ↔ rung x = 0 := by
  unfold qM pM
  rw [h]; simp only [if_true]
  rw [← mag_zero]; omega

set_option maxHeartbeats 4000000 in
theorem mul_any (a b : Nat) (dir : Int) (ha : a < 18446744073709551616) (hb : b < 18446744073709551616) : Gives 46 #[(.float .f64 a), (.float .f64 b), .int .i64 dir] (.float .f64 (mulS a b dir)) := by
  intro w
  have b1 := both_any a b ha hb
  have n1 := math_NaN
  have f1 : feq a a = !nan a := feq_self a
  have f2 : feq b b = !nan b := feq_self b
  cases na : nan a
  · cases nb : nan b
    · have z1 := feq_zero na
      have z2 := feq_zero nb
      by_cases za : rung a = 0
      · have hs : mulS a b dir = 0 := by unfold mulS; rw [na, nb, if_neg (by decide), if_pos (Or.inl za)]
        rw [hs]
        rw [za] at z1
        simp only [decide_true] at z1
        clear hs ha hb za
        go_enter Try.func46, Try.ntmps46
        go_wp2_with (first | (go_at_call 104; refine (b1.go _).mono ?_; rintro _ _ ⟨k, rfl, rfl⟩) | (go_at_call 94; refine ((isNaN_any _).go _).mono ?_; rintro _ _ ⟨k, rfl, rfl⟩))
        go_ret
        exact ⟨rfl, by (repeat' (first | (with_reducible exact Below.refl _ _) | (with_reducible assumption) | (with_reducible refine Later.belowOf _ ?_ ?_) | (with_reducible refine Below.alloc ?_ ?_ _) | (with_reducible refine Below.setCell ?_ ?_ _) | (with_reducible refine Below.drewN' _ ?_) | (with_reducible refine Below.drew ?_) | (with_reducible exact Ge.le) | go_size))⟩
      · rw [decide_eq_false za] at z1
        by_cases zb : rung b = 0
        · have hs : mulS a b dir = 0 := by unfold mulS; rw [na, nb, if_neg (by decide), if_pos (Or.inr zb)]
          rw [hs]
          rw [zb] at z2
          simp only [decide_true] at z2
          clear hs ha hb za zb
          go_enter Try.func46, Try.ntmps46
          go_wp2_with (first | (go_at_call 104; refine (b1.go _).mono ?_; rintro _ _ ⟨k, rfl, rfl⟩) | (go_at_call 94; refine ((isNaN_any _).go _).mono ?_; rintro _ _ ⟨k, rfl, rfl⟩))
          go_ret
          exact ⟨rfl, by (repeat' (first | (with_reducible exact Below.refl _ _) | (with_reducible assumption) | (with_reducible refine Later.belowOf _ ?_ ?_) | (with_reducible refine Below.alloc ?_ ?_ _) | (with_reducible refine Below.setCell ?_ ?_ _) | (with_reducible refine Below.drewN' _ ?_) | (with_reducible refine Below.drew ?_) | (with_reducible exact Ge.le) | go_size))⟩
        · rw [decide_eq_false zb] at z2
          cases hf : finB a && finB b
          · have m1 := fun w => fop_mul_non (a := a) (b := b) w ha hb hf na nb za zb dir
            rw [hf] at b1
            have H := Lib.hid m1
            clear m1 ha hb za zb hf
            go_enter Try.func46, Try.ntmps46
            go_wp2_with (first | (go_at_call 104; refine (b1.go _).mono ?_; rintro _ _ ⟨k, rfl, rfl⟩) | (go_at_call 94; refine ((isNaN_any _).go _).mono ?_; rintro _ _ ⟨k, rfl, rfl⟩))
            go_ret
            exact ⟨ret_float (H.out _).1, by (repeat' (first | (with_reducible exact Below.refl _ _) | (with_reducible assumption) | (with_reducible refine Later.belowOf _ ?_ ?_) | (with_reducible refine Below.alloc ?_ ?_ _) | (with_reducible refine Below.setCell ?_ ?_ _) | (with_reducible refine Below.drewN' _ ?_) | (with_reducible refine Below.drew ?_) | (with_reducible exact Ge.le) | go_size))⟩
          · have hf' := hf
            rw [Bool.and_eq_true] at hf'
            obtain ⟨fa, fb⟩ := hf'
            rw [hf] at b1
            have p1 := partsOk_q a fa
            have p2 := partsOk_q b fb
            have v1 := pval_q a fa
            have v2 := pval_q b fb
            have g1 := mt (qM_zero fa).1 za
            have g2 := mt (qM_zero fb).1 zb
            have hs : mulS a b dir = rnd (val a * val b) (pw 1074) dir := by
              unfold mulS; rw [na, nb, hf, if_neg (by decide), if_neg (by omega), if_pos rfl]
            rw [hs, ← v1, ← v2]
            clear v1 v2 hs ha hb za zb hf fa fb
            generalize qNeg a = pn at *
            generalize qM a = pm at *
            generalize qE a = pe at *
            generalize qNeg b = qn at *
            generalize qM b = qm at *
            generalize qE b = qe at *
            have pr : PartsOk pm pe → 0 ≤ pm ∧ pm ≤ 9007199254740991 ∧ -1074 ≤ pe ∧ pe ≤ 971 := by unfold PartsOk; omega
            have qr : PartsOk qm qe → 0 ≤ qm ∧ qm ≤ 9007199254740991 ∧ -1074 ≤ qe ∧ qe ≤ 971 := by unfold PartsOk; omega
            obtain ⟨p0, p1', p2', p3⟩ := pr p1
            obtain ⟨q0, q1, q2, q3⟩ := qr p2
            obtain ⟨hi, lo, m1, hv, h0, h1, l0, l1⟩ := gives_mul64 pm qm p0 (by omega) q0 (by omega)
            have r1 : Gives 101 #[(.agg #[.bool (pn != qn), .int .u64 hi, .int .u64 lo, .int .i64 (pe + qe), .bool false]), .int .i64 dir] (.float .f64 (rnd (pval pn pm pe * pval qn qm qe) (pw 1074) dir)) := by
              have P1 := pow_pos (pe + 1074).toNat
              have P2 := pow_pos (qe + 1074).toNat
              refine round_signed _ _ false hi lo _ dir _ ((pe + 1074).toNat + (qe + 1074).toNat) 1074 h0 h1 l0 l1 (by omega) (by omega) ?_ (by omega) (fun h => absurd h (by decide)) (pw_pos _) ?_
              · show _ * 2 ^ 1074 = _
                rw [← pw_eq 1074]
                congr 1
                rw [hv, Int.natAbs_mul, Nat.pow_add]
                have hp : ∀ (n : Bool) (m e : Int), (pval n m e).natAbs = m.natAbs * 2 ^ (e + 1074).toNat := by
                  intro n m e; unfold pval
                  cases n
                  · simp only [Bool.false_eq_true, if_false]; exact natAbs_mul_pow _ _
                  · simp only [if_true]; rw [Int.natAbs_neg]; exact natAbs_mul_pow _ _
                rw [hp, hp]
                have : (pm * qm).toNat = pm.natAbs * qm.natAbs := by
                  rw [← Int.natAbs_mul]
                  have := Int.mul_nonneg p0 q0
                  omega
                rw [this]
                simp only [Nat.mul_assoc, Nat.mul_comm, Nat.mul_left_comm]
              · intro _
                unfold pval
                have k1 : 0 < pm * 2 ^ (pe + 1074).toNat := Int.mul_pos (by omega) P1
                have k2 : 0 < qm * 2 ^ (qe + 1074).toNat := Int.mul_pos (by omega) P2
                generalize pm * 2 ^ (pe + 1074).toNat = A at *
                generalize qm * 2 ^ (qe + 1074).toNat = B at *
                have k3 := Int.mul_pos k1 k2
                cases pn <;> cases qn <;> symm <;> simp [Int.mul_neg, Int.neg_mul] <;> omega
            clear hv p1 p2 g1 g2 pr qr
            generalize rnd (pval pn pm pe * pval qn qm qe) (pw 1074) dir = s at *
            go_enter Try.func46, Try.ntmps46
            go_wp2_with (first | (go_at_call 104; refine (b1.go _).mono ?_; rintro _ _ ⟨k, rfl, rfl⟩) | (go_at_call 94; refine ((isNaN_any _).go _).mono ?_; rintro _ _ ⟨k, rfl, rfl⟩) | (go_at_call 106; refine (m1.go _).mono ?_; rintro _ _ ⟨k, rfl, rfl⟩) | (go_at_call 101; refine (r1.go _).mono ?_; rintro _ _ ⟨k, rfl, rfl⟩))
            go_ret
            exact ⟨rfl, by (repeat' (first | (with_reducible exact Below.refl _ _) | (with_reducible assumption) | (with_reducible refine Later.belowOf _ ?_ ?_) | (with_reducible refine Below.alloc ?_ ?_ _) | (with_reducible refine Below.setCell ?_ ?_ _) | (with_reducible refine Below.drewN' _ ?_) | (with_reducible refine Below.drew ?_) | (with_reducible exact Ge.le) | go_size))⟩
    · have hs : mulS a b dir = QN := by unfold mulS; rw [na, nb]; rfl
      rw [hs]
      clear hs ha hb
      go_enter Try.func46, Try.ntmps46
      go_wp2_with (first | (go_at_call 104; refine (b1.go _).mono ?_; rintro _ _ ⟨k, rfl, rfl⟩) | (go_at_call 94; refine ((isNaN_any _).go _).mono ?_; rintro _ _ ⟨k, rfl, rfl⟩) | (go_at_call 105; refine (n1.go _).mono ?_; rintro _ _ ⟨k, rfl, rfl⟩))
      go_ret
      exact ⟨rfl, by (repeat' (first | (with_reducible exact Below.refl _ _) | (with_reducible assumption) | (with_reducible refine Later.belowOf _ ?_ ?_) | (with_reducible refine Below.alloc ?_ ?_ _) | (with_reducible refine Below.setCell ?_ ?_ _) | (with_reducible refine Below.drewN' _ ?_) | (with_reducible refine Below.drew ?_) | (with_reducible exact Ge.le) | go_size))⟩
  · have hs : mulS a b dir = QN := by unfold mulS; rw [na]; rfl
    rw [hs]
    clear hs ha hb
    go_enter Try.func46, Try.ntmps46
    go_wp2_with (first | (go_at_call 104; refine (b1.go _).mono ?_; rintro _ _ ⟨k, rfl, rfl⟩) | (go_at_call 94; refine ((isNaN_any _).go _).mono ?_; rintro _ _ ⟨k, rfl, rfl⟩) | (go_at_call 105; refine (n1.go _).mono ?_; rintro _ _ ⟨k, rfl, rfl⟩))
    go_ret
    exact ⟨rfl, by (repeat' (first | (with_reducible exact Below.refl _ _) | (with_reducible assumption) | (with_reducible refine Later.belowOf _ ?_ ?_) | (with_reducible refine Below.alloc ?_ ?_ _) | (with_reducible refine Below.setCell ?_ ?_ _) | (with_reducible refine Below.drewN' _ ?_) | (with_reducible refine Below.drew ?_) | (with_reducible exact Ge.le) | go_size))⟩
end Go.Proofs.Ytjdccbigaahkeaa
