/- Contracts: intervals' middles. -/
import Derived.Test.YtjdccbigaahkeaaW39
namespace Go.Proofs.Ytjdccbigaahkeaa
set_option linter.unusedSimpArgs false
set_option linter.unusedVariables false
open Go.RowKit
open Fl

def loM (a : Nat) : Nat := maxF a 18442240474082181119
def hiM (b : Nat) : Nat := minF b 9218868437227405311
def sumM (a b : Nat) : Nat := word (sumNeg (halfF (loM a)) (halfF (hiM b))) (rungOf (val (halfF (loM a)) + val (halfF (hiM b))).natAbs 1 0)
def midA (a b : Nat) : Nat := if noneB a b then 0 else cl (minG (maxG (sumM a b) (loM a)) (hiM b))
def refM (a b : Nat) : Nat := addS (mulS (loM a) 4602678819172646912 0) (mulS (hiM b) 4602678819172646912 0) 0
def midR (a b : Nat) : Nat := if noneB a b then 0 else if flt (refM a b) (loM a) then loM a else if flt (hiM b) (refM a b) then hiM b else refM a b

theorem rung_abs (x : Nat) : (rung x : Int) = idx x ∨ (rung x : Int) = - idx x := by unfold idx; cases sgn x <;> simp

theorem loM_facts {a : Nat} (ha : a < 18446744073709551616) (na : nan a = false) (s1 : flt a 9218868437227405312 = true) :
    rung (loM a) < INFR ∧ nan (loM a) = false ∧ loM a < 18446744073709551616 ∧ idx (loM a) = max (idx a) (-9218868437227405311) ∧ loM a = if feq a 18442240474082181120 then 18442240474082181119 else a := by
  have h := (flt_true.1 s1).2.2
  rw [idx_pinf] at h
  have l := idx_le na
  have k1 : idx 18442240474082181119 = -9218868437227405311 := by decide
  have k2 : nan 18442240474082181119 = false := by decide
  have e : loM a = if flt a 18442240474082181119 then 18442240474082181119 else a := rfl
  have nn : nan (loM a) = false := by rw [e]; split; exact k2; exact na
  have ii : idx (loM a) = max (idx a) (-9218868437227405311) := by
    rw [e]
    split
    · rename_i h1; have := (flt_true.1 h1).2.2; rw [k1] at this ⊢; omega
    · rename_i h1
      have : ¬ idx a < -9218868437227405311 := fun hh => h1 (flt_true.2 ⟨na, k2, by rw [k1]; exact hh⟩)
      omega
  refine ⟨?_, nn, maxF_lt ha (by decide), ii, ?_⟩
  · have := rung_abs (loM a)
    unfold INFR
    omega
  · rw [e]
    have : flt a 18442240474082181119 = feq a 18442240474082181120 := by
      rw [Bool.eq_iff_iff, flt_true, feq_true, k1, idx_ninf]
      constructor
      · rintro ⟨_, _, h3⟩; exact ⟨na, nan_ninf, by omega⟩
      · rintro ⟨_, _, h3⟩; exact ⟨na, k2, by omega⟩
    rw [this]
theorem hiM_facts {b : Nat} (hb : b < 18446744073709551616) (nb : nan b = false) (s2 : flt 18442240474082181120 b = true) :
    rung (hiM b) < INFR ∧ nan (hiM b) = false ∧ hiM b < 18446744073709551616 ∧ idx (hiM b) = min (idx b) 9218868437227405311 ∧ hiM b = if feq b 9218868437227405312 then 9218868437227405311 else b := by
  have h := (flt_true.1 s2).2.2
  rw [idx_ninf] at h
  have l := idx_le nb
  have k1 : idx 9218868437227405311 = 9218868437227405311 := by decide
  have k2 : nan 9218868437227405311 = false := by decide
  have e : hiM b = if flt 9218868437227405311 b then 9218868437227405311 else b := rfl
  have nn : nan (hiM b) = false := by rw [e]; split; exact k2; exact nb
  have ii : idx (hiM b) = min (idx b) 9218868437227405311 := by
    rw [e]
    split
    · rename_i h1; have := (flt_true.1 h1).2.2; rw [k1] at this ⊢; omega
    · rename_i h1
      have : ¬ 9218868437227405311 < idx b := fun hh => h1 (flt_true.2 ⟨k2, nb, by rw [k1]; exact hh⟩)
      omega
  refine ⟨?_, nn, minF_lt hb (by decide), ii, ?_⟩
  · have := rung_abs (hiM b)
    unfold INFR
    omega
  · rw [e]
    have : flt 9218868437227405311 b = feq b 9218868437227405312 := by
      rw [Bool.eq_iff_iff, flt_true, feq_true, k1, idx_pinf]
      constructor
      · rintro ⟨_, _, h3⟩; exact ⟨nb, nan_pinf, by omega⟩
      · rintro ⟨_, _, h3⟩; exact ⟨k2, nb, by omega⟩
    rw [this]

theorem mid_sum {lo hi : Nat} (hl : rung lo < INFR) (hh : rung hi < INFR) :
    idx (word (sumNeg (halfF lo) (halfF hi)) (rungOf (val (halfF lo) + val (halfF hi)).natAbs 1 0)) = idx (addS (mulS lo 4602678819172646912 0) (mulS hi 4602678819172646912 0) 0)
    ∧ nan (addS (mulS lo 4602678819172646912 0) (mulS hi 4602678819172646912 0) 0) = false := by
  obtain ⟨i1, j1⟩ := mulS_half hl
  obtain ⟨i2, j2⟩ := mulS_half hh
  have a1 := half_idx hl
  have a2 := half_idx hh
  have b1 := half_num hl
  have b2 := half_num hh
  generalize halfF lo = h1 at *
  generalize halfF hi = h2 at *
  generalize mulS lo 4602678819172646912 0 = p1 at *
  generalize mulS hi 4602678819172646912 0 = p2 at *
  have e1 : idx h1 = idx p1 := by rw [a1, i1]
  have e2 : idx h2 = idx p2 := by rw [a2, i2]
  have f1 : rung p1 < INFR := by have := rung_abs p1; have := rung_abs h1; omega
  have f2 : rung p2 < INFR := by have := rung_abs p2; have := rung_abs h2; omega
  have v1 : val h1 = val p1 := by rw [val_pv, val_pv, e1]
  have v2 : val h2 = val p2 := by rw [val_pv, val_pv, e2]
  rw [(sum_idx b1 b2).1, v1, v2]
  unfold addS
  rw [finB_rung.2 f1, finB_rung.2 f2]
  simp only [Bool.and_self, if_true]
  have l := plc_le (val p1 + val p2) 1 0
  have b := nan_bits l.1 l.2
  rw [rnd_eq]
  exact ⟨b.2.1.symm, b.1⟩

theorem mid_feq {a b : Nat} (ha : a < 18446744073709551616) (hb : b < 18446744073709551616) : feq (midA a b) (midR a b) = true := by
  unfold midA midR
  cases h0 : noneB a b
  · obtain ⟨n1, n2⟩ := nums_of h0
    obtain ⟨s1, s2⟩ := sides_of h0
    have r := (fle_true.1 (right_of h0).2).2.2
    obtain ⟨l1, l2, l3, l4, _⟩ := loM_facts ha n1 s1
    obtain ⟨g1, g2, g3, g4, _⟩ := hiM_facts hb n2 s2
    have hlo := (flt_true.1 s1).2.2
    have hhi := (flt_true.1 s2).2.2
    rw [idx_pinf] at hlo
    rw [idx_ninf] at hhi
    obtain ⟨q1, q2⟩ := mid_sum l1 g1
    have q3 : nan (sumM a b) = false := (sum_idx (half_num l1) (half_num g1)).2
    have e1 : sumM a b = word (sumNeg (halfF (loM a)) (halfF (hiM b))) (rungOf (val (halfF (loM a)) + val (halfF (hiM b))).natAbs 1 0) := rfl
    have e2 : refM a b = addS (mulS (loM a) 4602678819172646912 0) (mulS (hiM b) 4602678819172646912 0) 0 := rfl
    rw [← e1, ← e2] at q1
    rw [← e2] at q2
    generalize refM a b = m at *
    generalize sumM a b = s at *
    generalize loM a = lo at *
    generalize hiM b = hi at *
    simp only [Bool.false_eq_true, if_false]
    have x1 := maxG_idx q3 l2
    have x2 := maxG_nan q3 l2
    have x3 := minG_idx x2 g2
    have x4 := minG_nan x2 g2
    refine feq_true.2 ⟨nan_cl _ x4, ?_, ?_⟩
    · split
      · exact l2
      · split
        · exact g2
        · exact q2
    · rw [idx_cl, x3, x1]
      split
      · rename_i h; have := (flt_true.1 h).2.2; omega
      · rename_i h
        have : ¬ idx m < idx lo := fun hh => h (flt_true.2 ⟨q2, l2, hh⟩)
        split
        · rename_i h; have := (flt_true.1 h).2.2; omega
        · rename_i h
          have : ¬ idx hi < idx m := fun hh => h (flt_true.2 ⟨g2, q2, hh⟩)
          omega
  · exact (by decide : feq 0 0 = true)

set_option maxHeartbeats 1000000 in
theorem mid_any (a b : Nat) (ha : a < 18446744073709551616) (hb : b < 18446744073709551616) : Gives 56 #[(.agg #[.float .f64 a, .float .f64 b])] (.float .f64 (midA a b)) := by
  intro w
  unfold midA
  cases h0 : noneB a b
  · obtain ⟨n1, n2⟩ := nums_of h0
    obtain ⟨s1, s2⟩ := sides_of h0
    obtain ⟨l1, l2, l3, l4, l5⟩ := loM_facts ha n1 s1
    obtain ⟨g1, g2, g3, g4, g5⟩ := hiM_facts hb n2 s2
    have m1 : ∀ (w : World) ts t, (Builtin.max_ ts t #[(.float .f64 a), (.float .f64 18442240474082181119)]).run Try.prog w = .ok (.float .f64 (loM a)) w := fun (w : World) ts t => run_max_f (P := Try.prog) w ts t a 18442240474082181119 n1 (by decide) (idx_inj ha (by decide) (by decide))
    have m2 : ∀ (w : World) ts t, (Builtin.min_ ts t #[(.float .f64 b), (.float .f64 9218868437227405311)]).run Try.prog w = .ok (.float .f64 (hiM b)) w := fun (w : World) ts t => run_min_f (P := Try.prog) w ts t b 9218868437227405311 n2 (by decide) (idx_inj hb (by decide) (by decide))
    have q3 : nan (sumM a b) = false := (sum_idx (half_num l1) (half_num g1)).2
    have q4 : sumM a b < 18446744073709551616 := word_lt _ (by have := rungOf_le (val (halfF (loM a)) + val (halfF (hiM b))).natAbs 1 0; unfold INFR at this; unfold SW; omega)
    have m3 := fun (w : World) ts t => run_max_g (P := Try.prog) w ts t (sumM a b) (loM a) q3 l2
    have x2 := maxG_nan q3 l2
    have m4 := fun (w : World) ts t => run_min_g (P := Try.prog) w ts t (maxG (sumM a b) (loM a)) (hiM b) x2 g2
    have x4 := minG_nan x2 g2
    have x5 := minG_lt (maxG_lt q4 l3) g3
    have z := fun w => fop_add_zero w x5
    have z1 : ∀ w, fop .add (minG (maxG (sumM a b) (loM a)) (hiM b)) 0 w = cl (minG (maxG (sumM a b) (loM a)) (hiM b)) := fun w => by rcases z w with h | h; (rw [x4] at h; exact absurd h.1 (by decide)); exact h.2.1
    have z2 : nd .add (minG (maxG (sumM a b) (loM a)) (hiM b)) 0 = 0 := by rcases z w with h | h; (rw [x4] at h; exact absurd h.1 (by decide)); exact h.2.2
    have e1 : ∀ w, fop .quo (loM a) 4611686018427387904 w = halfF (loM a) := fun w => fop_some w (fdiv_two l1)
    have e2 : nd .quo (loM a) 4611686018427387904 = 0 := by unfold nd; rw [fdiv_two l1]; rfl
    have e3 : ∀ w, fop .quo (hiM b) 4611686018427387904 w = halfF (hiM b) := fun w => fop_some w (fdiv_two g1)
    have e4 : nd .quo (hiM b) 4611686018427387904 = 0 := by unfold nd; rw [fdiv_two g1]; rfl
    have e5 : ∀ w, fop .add (halfF (loM a)) (halfF (hiM b)) w = sumM a b := fun w => fop_some w (fadd_eq (half_num l1) (half_num g1))
    have e6 : nd .add (halfF (loM a)) (halfF (hiM b)) = 0 := by
      have : floatBits .add .f64 (halfF (loM a)) (halfF (hiM b)) = _ := fadd_eq (half_num l1) (half_num g1)
      unfold nd; rw [this]; rfl
    generalize cl (minG (maxG (sumM a b) (loM a)) (hiM b)) = r at *
    generalize minG (maxG (sumM a b) (loM a)) (hiM b) = r1 at *
    generalize maxG (sumM a b) (loM a) = r2 at *
    generalize sumM a b = r3 at *
    generalize halfF (loM a) = r4 at *
    generalize halfF (hiM b) = r5 at *
    generalize loM a = r6 at *
    generalize hiM b = r7 at *
    clear ha hb n1 n2 s1 s2 l1 l2 l3 l4 l5 g1 g2 g3 g4 g5 q3 q4 x2 x4 x5 z
    simp only [h0, ite_true, Bool.false_eq_true, ite_false]
    go_enter Try.func56, Try.ntmps56
    go_wp2_with (go_at_call 99; refine Calls.mono (go_none1 (a := a) (b := b) (by simp [go_sem]) (by simp [go_sem])) ?_; rintro _ _ ⟨n, rfl, rfl⟩)
    refine wp_region_later (by kernel_rfl) (by kernel_rfl) ?_
    repeat (go_big_quiet_step (fail))
    (refine wpQuiet_nil ?_; rintro _ ⟨nq, rfl⟩)
    go_wp2
    go_returns
    exact ⟨rfl, by (repeat' (first | (with_reducible exact Below.refl _ _) | (with_reducible assumption) | (with_reducible refine Later.belowOf _ ?_ ?_) | (with_reducible refine Below.alloc ?_ ?_ _) | (with_reducible refine Below.setCell ?_ ?_ _) | (with_reducible refine Below.drewN' _ ?_) | (with_reducible refine Below.drew ?_) | (with_reducible exact Ge.le) | go_size))⟩
  · simp only [h0, ite_true, Bool.false_eq_true, ite_false]
    go_enter Try.func56, Try.ntmps56
    go_wp2_with (go_at_call 99; refine Calls.mono (go_none1 (a := a) (b := b) (by simp [go_sem]) (by simp [go_sem])) ?_; rintro _ _ ⟨n, rfl, rfl⟩)
    go_returns
    exact ⟨rfl, by (repeat' (first | (with_reducible exact Below.refl _ _) | (with_reducible assumption) | (with_reducible refine Later.belowOf _ ?_ ?_) | (with_reducible refine Below.alloc ?_ ?_ _) | (with_reducible refine Below.setCell ?_ ?_ _) | (with_reducible refine Below.drewN' _ ?_) | (with_reducible refine Below.drew ?_) | (with_reducible exact Ge.le) | go_size))⟩

theorem mulS_lt {a b : Nat} (dir : Int) : mulS a b dir < 18446744073709551616 := by
  unfold mulS
  repeat' split
  all_goals first | exact rnd_lt _ _ _ | decide | exact infW_lt _

set_option maxHeartbeats 1000000 in
theorem mid_ref_ff (a b q1 q2 m : Nat) (h1 : feq a 18442240474082181120 = false) (h2 : feq b 9218868437227405312 = false) (nx : Gives 83 #[(.agg #[.float .f64 a, .float .f64 b])] (.bool false))
    (p1 : Gives 47 #[(.float .f64 a), (.float .f64 4602678819172646912), .int .i64 0] (.float .f64 q1)) (p2 : Gives 47 #[(.float .f64 b), (.float .f64 4602678819172646912), .int .i64 0] (.float .f64 q2)) (p3 : Gives 49 #[(.float .f64 q1), (.float .f64 q2), .int .i64 0] (.float .f64 m)) :
    Gives 57 #[(.agg #[.float .f64 a, .float .f64 b])] (.float .f64 (if flt m a then a else if flt b m then b else m)) := by
  intro w
  rcases fot (flt m a) with h3 | h3 <;> rcases fot (flt b m) with h4 | h4
  all_goals
    simp only [h3, h4, ite_true, Bool.false_eq_true, ite_false]
    go_enter Try.func57, Try.ntmps57
    go_wp2_with (go_at_call 83; refine (nx.go _).mono ?_; rintro _ _ ⟨n, rfl, rfl⟩)
    refine wp_region_later (by kernel_rfl) (by kernel_rfl) ?_
    repeat (go_big_quiet_step ((go_at_call 90; first | (with_reducible exact inf2_pos.later _) | (with_reducible exact inf2_neg.later _))))
    (refine wpQuiet_nil ?_; rintro _ ⟨nq, rfl⟩)
    go_wp2_with (fail)
    refine wp_region_later (by kernel_rfl) (by kernel_rfl) ?_
    repeat (go_big_quiet_step ((go_at_call 90; first | (with_reducible exact inf2_pos.later _) | (with_reducible exact inf2_neg.later _))))
    (refine wpQuiet_nil ?_; rintro _ ⟨nq, rfl⟩)
    go_wp2_with (first | (go_at_call 47; first | ((with_reducible refine (p1.go _).mono ?_); rintro _ _ ⟨n, rfl, rfl⟩) | ((with_reducible refine (p2.go _).mono ?_); rintro _ _ ⟨n, rfl, rfl⟩)) | (go_at_call 49; (with_reducible refine (p3.go _).mono ?_); rintro _ _ ⟨n, rfl, rfl⟩))
    go_returns
    exact ⟨rfl, by (repeat' (first | (with_reducible exact Below.refl _ _) | (with_reducible assumption) | (with_reducible refine Later.belowOf _ ?_ ?_) | (with_reducible refine Below.alloc ?_ ?_ _) | (with_reducible refine Below.setCell ?_ ?_ _) | (with_reducible refine Below.drewN' _ ?_) | (with_reducible refine Below.drew ?_) | (with_reducible exact Ge.le) | go_size))⟩

set_option maxHeartbeats 1000000 in
theorem mid_ref_ft (a b q1 q2 m : Nat) (h1 : feq a 18442240474082181120 = false) (h2 : feq b 9218868437227405312 = true) (nx : Gives 83 #[(.agg #[.float .f64 a, .float .f64 b])] (.bool false))
    (p1 : Gives 47 #[(.float .f64 a), (.float .f64 4602678819172646912), .int .i64 0] (.float .f64 q1)) (p2 : Gives 47 #[(.float .f64 9218868437227405311), (.float .f64 4602678819172646912), .int .i64 0] (.float .f64 q2)) (p3 : Gives 49 #[(.float .f64 q1), (.float .f64 q2), .int .i64 0] (.float .f64 m)) :
    Gives 57 #[(.agg #[.float .f64 a, .float .f64 b])] (.float .f64 (if flt m a then a else if flt 9218868437227405311 m then 9218868437227405311 else m)) := by
  intro w
  rcases fot (flt m a) with h3 | h3 <;> rcases fot (flt 9218868437227405311 m) with h4 | h4
  all_goals
    simp only [h3, h4, ite_true, Bool.false_eq_true, ite_false]
    go_enter Try.func57, Try.ntmps57
    go_wp2_with (go_at_call 83; refine (nx.go _).mono ?_; rintro _ _ ⟨n, rfl, rfl⟩)
    refine wp_region_later (by kernel_rfl) (by kernel_rfl) ?_
    repeat (go_big_quiet_step ((go_at_call 90; first | (with_reducible exact inf2_pos.later _) | (with_reducible exact inf2_neg.later _))))
    (refine wpQuiet_nil ?_; rintro _ ⟨nq, rfl⟩)
    go_wp2_with (fail)
    refine wp_region_later (by kernel_rfl) (by kernel_rfl) ?_
    repeat (go_big_quiet_step ((go_at_call 90; first | (with_reducible exact inf2_pos.later _) | (with_reducible exact inf2_neg.later _))))
    (refine wpQuiet_nil ?_; rintro _ ⟨nq, rfl⟩)
    go_wp2_with (first | (go_at_call 47; first | ((with_reducible refine (p1.go _).mono ?_); rintro _ _ ⟨n, rfl, rfl⟩) | ((with_reducible refine (p2.go _).mono ?_); rintro _ _ ⟨n, rfl, rfl⟩)) | (go_at_call 49; (with_reducible refine (p3.go _).mono ?_); rintro _ _ ⟨n, rfl, rfl⟩))
    go_returns
    exact ⟨rfl, by (repeat' (first | (with_reducible exact Below.refl _ _) | (with_reducible assumption) | (with_reducible refine Later.belowOf _ ?_ ?_) | (with_reducible refine Below.alloc ?_ ?_ _) | (with_reducible refine Below.setCell ?_ ?_ _) | (with_reducible refine Below.drewN' _ ?_) | (with_reducible refine Below.drew ?_) | (with_reducible exact Ge.le) | go_size))⟩

set_option maxHeartbeats 1000000 in
theorem mid_ref_tf (a b q1 q2 m : Nat) (h1 : feq a 18442240474082181120 = true) (h2 : feq b 9218868437227405312 = false) (nx : Gives 83 #[(.agg #[.float .f64 a, .float .f64 b])] (.bool false))
    (p1 : Gives 47 #[(.float .f64 18442240474082181119), (.float .f64 4602678819172646912), .int .i64 0] (.float .f64 q1)) (p2 : Gives 47 #[(.float .f64 b), (.float .f64 4602678819172646912), .int .i64 0] (.float .f64 q2)) (p3 : Gives 49 #[(.float .f64 q1), (.float .f64 q2), .int .i64 0] (.float .f64 m)) :
    Gives 57 #[(.agg #[.float .f64 a, .float .f64 b])] (.float .f64 (if flt m 18442240474082181119 then 18442240474082181119 else if flt b m then b else m)) := by
  intro w
  rcases fot (flt m 18442240474082181119) with h3 | h3 <;> rcases fot (flt b m) with h4 | h4
  all_goals
    simp only [h3, h4, ite_true, Bool.false_eq_true, ite_false]
    go_enter Try.func57, Try.ntmps57
    go_wp2_with (go_at_call 83; refine (nx.go _).mono ?_; rintro _ _ ⟨n, rfl, rfl⟩)
    refine wp_region_later (by kernel_rfl) (by kernel_rfl) ?_
    repeat (go_big_quiet_step ((go_at_call 90; first | (with_reducible exact inf2_pos.later _) | (with_reducible exact inf2_neg.later _))))
    (refine wpQuiet_nil ?_; rintro _ ⟨nq, rfl⟩)
    go_wp2_with (fail)
    refine wp_region_later (by kernel_rfl) (by kernel_rfl) ?_
    repeat (go_big_quiet_step ((go_at_call 90; first | (with_reducible exact inf2_pos.later _) | (with_reducible exact inf2_neg.later _))))
    (refine wpQuiet_nil ?_; rintro _ ⟨nq, rfl⟩)
    go_wp2_with (first | (go_at_call 47; first | ((with_reducible refine (p1.go _).mono ?_); rintro _ _ ⟨n, rfl, rfl⟩) | ((with_reducible refine (p2.go _).mono ?_); rintro _ _ ⟨n, rfl, rfl⟩)) | (go_at_call 49; (with_reducible refine (p3.go _).mono ?_); rintro _ _ ⟨n, rfl, rfl⟩))
    go_returns
    exact ⟨rfl, by (repeat' (first | (with_reducible exact Below.refl _ _) | (with_reducible assumption) | (with_reducible refine Later.belowOf _ ?_ ?_) | (with_reducible refine Below.alloc ?_ ?_ _) | (with_reducible refine Below.setCell ?_ ?_ _) | (with_reducible refine Below.drewN' _ ?_) | (with_reducible refine Below.drew ?_) | (with_reducible exact Ge.le) | go_size))⟩

set_option maxHeartbeats 1000000 in
theorem mid_ref_tt (a b q1 q2 m : Nat) (h1 : feq a 18442240474082181120 = true) (h2 : feq b 9218868437227405312 = true) (nx : Gives 83 #[(.agg #[.float .f64 a, .float .f64 b])] (.bool false))
    (p1 : Gives 47 #[(.float .f64 18442240474082181119), (.float .f64 4602678819172646912), .int .i64 0] (.float .f64 q1)) (p2 : Gives 47 #[(.float .f64 9218868437227405311), (.float .f64 4602678819172646912), .int .i64 0] (.float .f64 q2)) (p3 : Gives 49 #[(.float .f64 q1), (.float .f64 q2), .int .i64 0] (.float .f64 m)) :
    Gives 57 #[(.agg #[.float .f64 a, .float .f64 b])] (.float .f64 (if flt m 18442240474082181119 then 18442240474082181119 else if flt 9218868437227405311 m then 9218868437227405311 else m)) := by
  intro w
  rcases fot (flt m 18442240474082181119) with h3 | h3 <;> rcases fot (flt 9218868437227405311 m) with h4 | h4
  all_goals
    simp only [h3, h4, ite_true, Bool.false_eq_true, ite_false]
    go_enter Try.func57, Try.ntmps57
    go_wp2_with (go_at_call 83; refine (nx.go _).mono ?_; rintro _ _ ⟨n, rfl, rfl⟩)
    refine wp_region_later (by kernel_rfl) (by kernel_rfl) ?_
    repeat (go_big_quiet_step ((go_at_call 90; first | (with_reducible exact inf2_pos.later _) | (with_reducible exact inf2_neg.later _))))
    (refine wpQuiet_nil ?_; rintro _ ⟨nq, rfl⟩)
    go_wp2_with (fail)
    refine wp_region_later (by kernel_rfl) (by kernel_rfl) ?_
    repeat (go_big_quiet_step ((go_at_call 90; first | (with_reducible exact inf2_pos.later _) | (with_reducible exact inf2_neg.later _))))
    (refine wpQuiet_nil ?_; rintro _ ⟨nq, rfl⟩)
    go_wp2_with (first | (go_at_call 47; first | ((with_reducible refine (p1.go _).mono ?_); rintro _ _ ⟨n, rfl, rfl⟩) | ((with_reducible refine (p2.go _).mono ?_); rintro _ _ ⟨n, rfl, rfl⟩)) | (go_at_call 49; (with_reducible refine (p3.go _).mono ?_); rintro _ _ ⟨n, rfl, rfl⟩))
    go_returns
    exact ⟨rfl, by (repeat' (first | (with_reducible exact Below.refl _ _) | (with_reducible assumption) | (with_reducible refine Later.belowOf _ ?_ ?_) | (with_reducible refine Below.alloc ?_ ?_ _) | (with_reducible refine Below.setCell ?_ ?_ _) | (with_reducible refine Below.drewN' _ ?_) | (with_reducible refine Below.drew ?_) | (with_reducible exact Ge.le) | go_size))⟩

theorem mid_ref_any (a b : Nat) (ha : a < 18446744073709551616) (hb : b < 18446744073709551616) : Gives 57 #[(.agg #[.float .f64 a, .float .f64 b])] (.float .f64 (midR a b)) := by
  have nx := none_ref_any a b ha hb
  rcases fot (noneB a b) with h0 | h0
  · rw [h0] at nx
    have em : midR a b = if flt (refM a b) (loM a) then loM a else if flt (hiM b) (refM a b) then hiM b else refM a b := by unfold midR; rw [h0]; exact if_neg Bool.false_ne_true
    rw [em]
    obtain ⟨n1, n2⟩ := nums_of h0
    obtain ⟨s1, s2⟩ := sides_of h0
    obtain ⟨l1, l2, l3, l4, l5⟩ := loM_facts ha n1 s1
    obtain ⟨g1, g2, g3, g4, g5⟩ := hiM_facts hb n2 s2
    have p1 := mul1_any (loM a) 4602678819172646912 0 l3 (by decide)
    have p2 := mul1_any (hiM b) 4602678819172646912 0 g3 (by decide)
    have p3 := add1_any (mulS (loM a) 4602678819172646912 0) (mulS (hiM b) 4602678819172646912 0) 0 (mulS_lt _) (mulS_lt _)
    have e2 : refM a b = addS (mulS (loM a) 4602678819172646912 0) (mulS (hiM b) 4602678819172646912 0) 0 := rfl
    rw [← e2] at p3
    generalize refM a b = m at *
    generalize mulS (loM a) 4602678819172646912 0 = q1 at *
    generalize mulS (hiM b) 4602678819172646912 0 = q2 at *
    generalize loM a = lo at *
    generalize hiM b = hi at *
    cases h1 : feq a 18442240474082181120 <;> cases h2 : feq b 9218868437227405312
    · rw [h1, if_neg (by decide)] at l5
      rw [h2, if_neg (by decide)] at g5
      rw [l5] at p1 ⊢
      rw [g5] at p2 ⊢
      exact mid_ref_ff a b q1 q2 m h1 h2 nx p1 p2 p3
    · rw [h1, if_neg (by decide)] at l5
      rw [h2, if_pos rfl] at g5
      rw [l5] at p1 ⊢
      rw [g5] at p2 ⊢
      exact mid_ref_ft a b q1 q2 m h1 h2 nx p1 p2 p3
    · rw [h1, if_pos rfl] at l5
      rw [h2, if_neg (by decide)] at g5
      rw [l5] at p1 ⊢
      rw [g5] at p2 ⊢
      exact mid_ref_tf a b q1 q2 m h1 h2 nx p1 p2 p3
    · rw [h1, if_pos rfl] at l5
      rw [h2, if_pos rfl] at g5
      rw [l5] at p1 ⊢
      rw [g5] at p2 ⊢
      exact mid_ref_tt a b q1 q2 m h1 h2 nx p1 p2 p3
  · rw [h0] at nx
    intro w
    unfold midR
    clear ha hb
    simp only [h0, ite_true, Bool.false_eq_true, ite_false]
    go_enter Try.func57, Try.ntmps57
    go_wp2_with (go_at_call 83; refine (nx.go _).mono ?_; rintro _ _ ⟨n, rfl, rfl⟩)
    go_returns
    exact ⟨rfl, by (repeat' (first | (with_reducible exact Below.refl _ _) | (with_reducible assumption) | (with_reducible refine Later.belowOf _ ?_ ?_) | (with_reducible refine Below.alloc ?_ ?_ _) | (with_reducible refine Below.setCell ?_ ?_ _) | (with_reducible refine Below.drewN' _ ?_) | (with_reducible refine Below.drew ?_) | (with_reducible exact Ge.le) | go_size))⟩
end Go.Proofs.Ytjdccbigaahkeaa
