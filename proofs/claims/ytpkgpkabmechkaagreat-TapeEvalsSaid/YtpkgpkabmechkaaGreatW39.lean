/- Contracts: intervals' sizes. -/
import Derived.Test.YtpkgpkabmechkaaGreatW37
import Derived.Test.YtpkgpkabmechkaaGreatFlC
namespace Go.Proofs.YtpkgpkabmechkaaGreat
set_option linter.unusedSimpArgs false
set_option linter.unusedVariables false
open Go.RowKit
open Fl

/-! ### Greatest and least amount -/
def magI (a b : Nat) : Nat := if noneB a b then 0 else maxF (rung a) (rung b)
def migI (a b : Nat) : Nat := if noneB a b || (fle a 0 && fle 0 b) then 0 else minF (rung a) (rung b)

theorem rung_inj (x y : Nat) (h : idx (rung x) = idx (rung y)) : rung x = rung y := by rw [idx_rung, idx_rung] at h; omega

set_option maxHeartbeats 1000000 in
theorem mag_any (a b : Nat) (ha : a < 18446744073709551616) (hb : b < 18446744073709551616) : Gives 151 #[(.agg #[.float .f64 a, .float .f64 b])] (.float .f64 (magI a b)) := by
  intro w
  have a1 := abs_any a ha
  have a2 := abs_any b hb
  unfold magI
  clear ha hb
  cases h0 : noneB a b
  · obtain ⟨n1, n2⟩ := nums_of h0
    have m1 := fun (w : World) ts t => run_max_f (P := Tryz.prog) w ts t (rung a) (rung b) (by rw [nan_rung]; exact n1) (by rw [nan_rung]; exact n2) (rung_inj a b)
    generalize maxF (rung a) (rung b) = r at *
    clear n1 n2
    simp only [h0, ite_true, Bool.false_eq_true, ite_false]
    go_enter Tryz.func151, Tryz.ntmps151
    go_wp2_with (go_at_call 106; refine Calls.mono (go_none1 (a := a) (b := b) (by simp [go_sem]) (by simp [go_sem])) ?_; rintro _ _ ⟨n, rfl, rfl⟩)
    go_region_held3 (fun w' => w'.cell? ⟨w.heap.size, 0, none⟩ = some (.float .f64 a) ∧ w'.cell? ⟨w.heap.size, 1, none⟩ = some (.float .f64 b))
      (first | (go_simp; done) | go_keep)
      ((go_at_call 107; first | ((with_reducible refine (a1.go _).mono ?_); rintro _ _ ⟨n, rfl, rfl⟩) | ((with_reducible refine (a2.go _).mono ?_); rintro _ _ ⟨n, rfl, rfl⟩)))
    all_goals
      rename_i hHeld
      clear hHeld
      go_wp2
      go_returns
      exact ⟨rfl, by (repeat' (first | (with_reducible exact Below.refl _ _) | (with_reducible assumption) | (with_reducible refine Later.belowOf _ ?_ ?_) | (with_reducible refine Below.alloc ?_ ?_ _) | (with_reducible refine Below.setCell ?_ ?_ _) | (with_reducible refine Below.drewN' _ ?_) | (with_reducible refine Below.drew ?_) | (with_reducible exact Ge.le) | go_size))⟩
  · simp only [h0, ite_true, Bool.false_eq_true, ite_false]
    go_enter Tryz.func151, Tryz.ntmps151
    go_wp2_with (go_at_call 106; refine Calls.mono (go_none1 (a := a) (b := b) (by simp [go_sem]) (by simp [go_sem])) ?_; rintro _ _ ⟨n, rfl, rfl⟩)
    go_returns
    exact ⟨rfl, by (repeat' (first | (with_reducible exact Below.refl _ _) | (with_reducible assumption) | (with_reducible refine Later.belowOf _ ?_ ?_) | (with_reducible refine Below.alloc ?_ ?_ _) | (with_reducible refine Below.setCell ?_ ?_ _) | (with_reducible refine Below.drewN' _ ?_) | (with_reducible refine Below.drew ?_) | (with_reducible exact Ge.le) | go_size))⟩

set_option maxHeartbeats 1000000 in
theorem mag_ref_any (a b : Nat) (ha : a < 18446744073709551616) (hb : b < 18446744073709551616) : Gives 45 #[(.agg #[.float .f64 a, .float .f64 b])] (.float .f64 (magI a b)) := by
  intro w
  have a1 := abs_any a ha
  have a2 := abs_any b hb
  have nx := none_ref_any a b ha hb
  have em : magI a b = if noneB a b then 0 else if flt (rung a) (rung b) then rung b else rung a := rfl
  rw [em]
  clear ha hb em
  rcases fot (noneB a b) with h0 | h0 <;> rcases fot (flt (rung a) (rung b)) with h1 | h1
  all_goals
    rw [h0] at nx
    simp only [h0, h1, ite_true, Bool.false_eq_true, ite_false]
    go_enter Tryz.func45, Tryz.ntmps45
    go_wp2_with (first | (go_at_call 68; refine (nx.go _).mono ?_; rintro _ _ ⟨n, rfl, rfl⟩) | (go_at_call 107; first | ((with_reducible refine (a1.go _).mono ?_); rintro _ _ ⟨n, rfl, rfl⟩) | ((with_reducible refine (a2.go _).mono ?_); rintro _ _ ⟨n, rfl, rfl⟩)))
    go_returns
    exact ⟨rfl, by (repeat' (first | (with_reducible exact Below.refl _ _) | (with_reducible assumption) | (with_reducible refine Later.belowOf _ ?_ ?_) | (with_reducible refine Below.alloc ?_ ?_ _) | (with_reducible refine Below.setCell ?_ ?_ _) | (with_reducible refine Below.drewN' _ ?_) | (with_reducible refine Below.drew ?_) | (with_reducible exact Ge.le) | go_size))⟩

set_option maxHeartbeats 1000000 in
theorem mig_any (a b : Nat) (ha : a < 18446744073709551616) (hb : b < 18446744073709551616) : Gives 207 #[(.agg #[.float .f64 a, .float .f64 b])] (.float .f64 (migI a b)) := by
  intro w
  have a1 := abs_any a ha
  have a2 := abs_any b hb
  unfold migI
  clear ha hb
  cases h0 : noneB a b
  · obtain ⟨n1, n2⟩ := nums_of h0
    have m1 := fun (w : World) ts t => run_min_f (P := Tryz.prog) w ts t (rung a) (rung b) (by rw [nan_rung]; exact n1) (by rw [nan_rung]; exact n2) (rung_inj a b)
    generalize minF (rung a) (rung b) = r at *
    clear n1 n2
    rcases fot (fle a 0) with h1 | h1 <;> rcases fot (fle 0 b) with h2 | h2
    all_goals
      simp only [h0, h1, h2, Bool.and_self, Bool.and_true, Bool.and_false, Bool.true_and, Bool.false_and, Bool.or_false, Bool.or_true, Bool.or_self, ite_true, Bool.false_eq_true, ite_false]
      go_enter Tryz.func207, Tryz.ntmps207
      go_wp2_with (go_at_call 106; refine Calls.mono (go_none1 (a := a) (b := b) (by simp [go_sem]) (by simp [go_sem])) ?_; rintro _ _ ⟨n, rfl, rfl⟩)
      first
        | (go_returns; exact ⟨rfl, by (repeat' (first | (with_reducible exact Below.refl _ _) | (with_reducible assumption) | (with_reducible refine Later.belowOf _ ?_ ?_) | (with_reducible refine Below.alloc ?_ ?_ _) | (with_reducible refine Below.setCell ?_ ?_ _) | (with_reducible refine Below.drewN' _ ?_) | (with_reducible refine Below.drew ?_) | (with_reducible exact Ge.le) | go_size))⟩)
        | (go_region_held3 (fun w' => w'.cell? ⟨w.heap.size, 0, none⟩ = some (.float .f64 a) ∧ w'.cell? ⟨w.heap.size, 1, none⟩ = some (.float .f64 b))
             (first | (go_simp; done) | go_keep)
             ((go_at_call 107; first | ((with_reducible refine (a1.go _).mono ?_); rintro _ _ ⟨n, rfl, rfl⟩) | ((with_reducible refine (a2.go _).mono ?_); rintro _ _ ⟨n, rfl, rfl⟩)))
           all_goals
             rename_i hHeld
             clear hHeld
             go_wp2
             go_returns
             exact ⟨rfl, by (repeat' (first | (with_reducible exact Below.refl _ _) | (with_reducible assumption) | (with_reducible refine Later.belowOf _ ?_ ?_) | (with_reducible refine Below.alloc ?_ ?_ _) | (with_reducible refine Below.setCell ?_ ?_ _) | (with_reducible refine Below.drewN' _ ?_) | (with_reducible refine Below.drew ?_) | (with_reducible exact Ge.le) | go_size))⟩)
  · simp only [h0, Bool.true_or, ite_true, Bool.false_eq_true, ite_false]
    go_enter Tryz.func207, Tryz.ntmps207
    go_wp2_with (go_at_call 106; refine Calls.mono (go_none1 (a := a) (b := b) (by simp [go_sem]) (by simp [go_sem])) ?_; rintro _ _ ⟨n, rfl, rfl⟩)
    go_returns
    exact ⟨rfl, by (repeat' (first | (with_reducible exact Below.refl _ _) | (with_reducible assumption) | (with_reducible refine Later.belowOf _ ?_ ?_) | (with_reducible refine Below.alloc ?_ ?_ _) | (with_reducible refine Below.setCell ?_ ?_ _) | (with_reducible refine Below.drewN' _ ?_) | (with_reducible refine Below.drew ?_) | (with_reducible exact Ge.le) | go_size))⟩

theorem idx_neg_rung {x : Nat} (h : idx x < 0) : (rung x : Int) = - idx x ∧ sgn x = true := by
  unfold idx at *
  cases hs : sgn x
  · rw [hs] at h; simp at h; omega
  · simp
theorem idx_pos_rung {x : Nat} (h : 0 < idx x) : (rung x : Int) = idx x ∧ sgn x = false := by
  unfold idx at *
  cases hs : sgn x
  · simp
  · rw [hs] at h; simp at h; omega

theorem mig_eq {a b : Nat} (ha : a < 18446744073709551616) (hb : b < 18446744073709551616) :
    migI a b = if noneB a b then 0 else if hasB a b 0 then 0 else if flt 0 a then a else cl (fneg b) := by
  unfold migI hasB
  cases h0 : noneB a b
  · obtain ⟨n1, n2⟩ := nums_of h0
    have r := (right_of h0).2
    have r := (fle_true.1 r).2.2
    have z : nan 0 = false := by decide
    have z2 : idx 0 = 0 := by decide
    simp only [Bool.false_or, Bool.not_false, Bool.true_and, Bool.false_eq_true, if_false, show infinB 0 = false by decide, Bool.and_true]
    by_cases h1 : (fle a 0 && fle 0 b) = true
    · rw [if_pos h1, if_pos h1]
    · rw [if_neg h1, if_neg h1]
      rw [Bool.and_eq_true, fle_true, fle_true, z2] at h1
      have h1 : ¬ (idx a ≤ 0 ∧ 0 ≤ idx b) := fun hh => h1 ⟨⟨n1, z, hh.1⟩, ⟨z, n2, hh.2⟩⟩
      unfold minF
      by_cases h2 : 0 < idx a
      · rw [if_pos (flt_true.2 ⟨z, n1, by rw [z2]; exact h2⟩)]
        obtain ⟨p1, p2⟩ := idx_pos_rung h2
        obtain ⟨p3, p4⟩ := idx_pos_rung (show 0 < idx b by omega)
        rw [if_neg (show ¬ flt (rung b) (rung a) = true by rw [flt_true, idx_rung, idx_rung]; omega)]
        have := word_of ha
        rw [p2] at this
        exact this
      · rw [if_neg (show ¬ flt 0 a = true by rw [flt_true, z2]; omega)]
        have h3 : idx b < 0 := by omega
        obtain ⟨p3, p4⟩ := idx_neg_rung h3
        obtain ⟨p1, p2⟩ := idx_neg_rung (show idx a < 0 by omega)
        have e : cl (fneg b) = rung b := by
          unfold cl
          rw [idx_fneg, if_neg (by omega)]
          unfold fneg
          rw [p4]; rfl
        rw [e]
        split
        · rfl
        · rename_i h4
          rw [flt_true, nan_rung, nan_rung, idx_rung, idx_rung] at h4
          have : ¬ ((rung b : Int) < rung a) := fun hh => h4 ⟨n2, n1, hh⟩
          omega
  · rfl

set_option maxHeartbeats 1000000 in
theorem mig_ref_any (a b : Nat) (ha : a < 18446744073709551616) (hb : b < 18446744073709551616) : Gives 215 #[(.agg #[.float .f64 a, .float .f64 b])] (.float .f64 (migI a b)) := by
  intro w
  rw [mig_eq ha hb]
  have nx := none_ref_any a b ha hb
  have hx := has_ref_any a b 0 ha hb
  rcases fot (noneB a b) with h0 | h0
  · have g1 := fun w => (fop_zero_sub w (nums_of h0).2).1
    have g2 := fun (w : World) => (fop_zero_sub w (nums_of h0).2).2
    have g2 := g2 w
    rw [h0] at nx
    rcases fot (hasB a b 0) with h1 | h1 <;> rcases fot (flt 0 a) with h2 | h2
    all_goals
      rw [h1] at hx
      clear ha hb
      simp only [h0, h1, h2, ite_true, Bool.false_eq_true, ite_false]
      go_enter Tryz.func215, Tryz.ntmps215
      go_wp2_with (first | (go_at_call 68; refine (nx.go _).mono ?_; rintro _ _ ⟨n, rfl, rfl⟩) | (go_at_call 89; refine (hx.go _).mono ?_; rintro _ _ ⟨n, rfl, rfl⟩))
      go_returns
      exact ⟨rfl, by (repeat' (first | (with_reducible exact Below.refl _ _) | (with_reducible assumption) | (with_reducible refine Later.belowOf _ ?_ ?_) | (with_reducible refine Below.alloc ?_ ?_ _) | (with_reducible refine Below.setCell ?_ ?_ _) | (with_reducible refine Below.drewN' _ ?_) | (with_reducible refine Below.drew ?_) | (with_reducible exact Ge.le) | go_size))⟩
  · rw [h0] at nx
    clear ha hb
    simp only [h0, ite_true, Bool.false_eq_true, ite_false]
    go_enter Tryz.func215, Tryz.ntmps215
    go_wp2_with (go_at_call 68; refine (nx.go _).mono ?_; rintro _ _ ⟨n, rfl, rfl⟩)
    go_returns
    exact ⟨rfl, by (repeat' (first | (with_reducible exact Below.refl _ _) | (with_reducible assumption) | (with_reducible refine Later.belowOf _ ?_ ?_) | (with_reducible refine Below.alloc ?_ ?_ _) | (with_reducible refine Below.setCell ?_ ?_ _) | (with_reducible refine Below.drewN' _ ?_) | (with_reducible refine Below.drew ?_) | (with_reducible exact Ge.le) | go_size))⟩

/-! ### Width -/
def widI (a b : Nat) : Nat := if noneB a b then 0 else subS b a 1

theorem wid_num {a b : Nat} (h : noneB a b = false) : nan (subS b a 1) = false := by
  obtain ⟨n1, n2⟩ := nums_of h
  obtain ⟨s1, s2⟩ := sides_of h
  unfold subS
  refine addS_num _ n2 (by rw [nan_fneg]; exact n1) fun f1 f2 => ?_
  rw [finB_fneg] at f2
  rw [sgn_high s2 f1 n2, sgn_fneg, sgn_low s1 f2 n1]; rfl

theorem pinf_of {b : Nat} (hb : b < 18446744073709551616) (h : feq b 9218868437227405312 = true) : b = 9218868437227405312 :=
  idx_inj hb (by decide) (by decide) (feq_true.1 h).2.2
theorem ninf_of {b : Nat} (hb : b < 18446744073709551616) (h : feq b 18442240474082181120 = true) : b = 18442240474082181120 :=
  idx_inj hb (by decide) (by decide) (feq_true.1 h).2.2

theorem wid_inf {a b : Nat} (ha : a < 18446744073709551616) (hb : b < 18446744073709551616) (h : noneB a b = false) (hi : feq a 18442240474082181120 = true ∨ feq b 9218868437227405312 = true) : subS b a 1 = 9218868437227405312 := by
  obtain ⟨n1, n2⟩ := nums_of h
  obtain ⟨s1, s2⟩ := sides_of h
  unfold subS addS
  rcases hi with hi | hi
  · have e := ninf_of ha hi
    subst e
    rw [show finB (fneg 18442240474082181120) = false by decide, n2, show nan (fneg 18442240474082181120) = false by decide, show fneg 18442240474082181120 = 9218868437227405312 by decide]
    cases f : finB b
    · have := sgn_high s2 f n2
      simp only [Bool.and_false, Bool.or_self, Bool.false_eq_true, if_false]
      rw [this, if_pos (by decide)]
      have := word_of hb
      rw [sgn_high s2 f n2, inf_sgn n2 f] at this
      rw [← this]; rfl
    · simp
  · have e := pinf_of hb hi
    subst e
    rw [show finB 9218868437227405312 = false by decide, nan_fneg, n1, show nan 9218868437227405312 = false by decide]
    cases f : finB (fneg a)
    · have f' := f
      rw [finB_fneg] at f'
      simp only [Bool.and_false, Bool.or_self, Bool.false_eq_true, if_false]
      rw [sgn_fneg, sgn_low s1 f' n1, if_pos (by decide)]
    · simp

end Go.Proofs.YtpkgpkabmechkaaGreat
