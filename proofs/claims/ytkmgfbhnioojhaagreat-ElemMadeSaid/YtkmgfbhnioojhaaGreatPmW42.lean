/- Contracts: intervals' products; powers of floats. -/
import Derived.Test.YtkmgfbhnioojhaaGreatPmW41
import Derived.Deep.LoopGhost
import Derived.LoopTactic
namespace Go.Proofs.YtkmgfbhnioojhaaGreat
set_option linter.unusedSimpArgs false
set_option linter.unusedVariables false
open Go.RowKit
open Fl

theorem can_lo4 {d1 d2 d3 d4 : Nat} (c1 : Can d1) (c2 : Can d2) (c3 : Can d3) (c4 : Can d4) : Can (lo4 d1 d2 d3 d4) := can_min (can_min (can_min (can_min can_pinf c1) c2) c3) c4
theorem can_hi4 {d1 d2 d3 d4 : Nat} (c1 : Can d1) (c2 : Can d2) (c3 : Can d3) (c4 : Can d4) : Can (hi4 d1 d2 d3 d4) := can_max (can_max (can_max (can_max can_ninf c1) c2) c3) c4

def mulL (a b c d : Nat) : Nat := lo4 (mulS a c (-1)) (mulS a d (-1)) (mulS b c (-1)) (mulS b d (-1))
def mulH (a b c d : Nat) : Nat := hi4 (mulS a c 1) (mulS a d 1) (mulS b c 1) (mulS b d 1)
/-- A product. -/
def prodI (a b c d : Nat) : Nat × Nat := if noneB a b || noneB c d then (9218868437227405312, 18442240474082181120) else endsI (mulL a b c d) (mulH a b c d)

theorem can_mulL {a b c d : Nat} (n1 : nan a = false) (n2 : nan b = false) (n3 : nan c = false) (n4 : nan d = false) : Can (mulL a b c d) ∧ Can (mulH a b c d) :=
  ⟨can_lo4 (can_mul _ n1 n3) (can_mul _ n1 n4) (can_mul _ n2 n3) (can_mul _ n2 n4), can_hi4 (can_mul _ n1 n3) (can_mul _ n1 n4) (can_mul _ n2 n3) (can_mul _ n2 n4)⟩

set_option maxHeartbeats 1000000 in
theorem mul_ival_any (a b c d : Nat) (ha : a < 18446744073709551616) (hb : b < 18446744073709551616) (hc : c < 18446744073709551616) (hd : d < 18446744073709551616) : Gives 166 #[(.agg #[.float .f64 a, .float .f64 b]), (.agg #[.float .f64 c, .float .f64 d])] (.agg #[.float .f64 ((prodI a b c d).1), .float .f64 ((prodI a b c d).2)]) := by
  intro w
  unfold prodI
  cases h0 : noneB a b || noneB c d
  · have h0' := h0
    rw [Bool.or_eq_false_iff] at h0'
    obtain ⟨n1, n2⟩ := nums_of h0'.1
    obtain ⟨n3, n4⟩ := nums_of h0'.2
    have K := corners_mul a b c d _ _ _ _ _ _ _ _ (mul_any a c (-1) ha hc) (mul_any a d (-1) ha hd) (mul_any b c (-1) hb hc) (mul_any b d (-1) hb hd) (mul_any a c 1 ha hc) (mul_any a d 1 ha hd) (mul_any b c 1 hb hc) (mul_any b d 1 hb hd)
      (can_mul _ n1 n3) (can_mul _ n1 n4) (can_mul _ n2 n3) (can_mul _ n2 n4) (can_mul _ n1 n3) (can_mul _ n1 n4) (can_mul _ n2 n3) (can_mul _ n2 n4)
    rw [show lo4 (mulS a c (-1)) (mulS a d (-1)) (mulS b c (-1)) (mulS b d (-1)) = mulL a b c d from rfl, show hi4 (mulS a c 1) (mulS a d 1) (mulS b c 1) (mulS b d 1) = mulH a b c d from rfl] at K
    generalize endsI (mulL a b c d) (mulH a b c d) = r at *
    clear ha hb hc hd n1 n2 n3 n4 h0'
    simp only [h0, ite_true, Bool.false_eq_true, ite_false]
    go_enter Tryz.func166, Tryz.ntmps166
    go_wp2_with (first | (go_at_call 124; refine Calls.mono (none2_any a b c d _ _ inferInstance (by simp [go_sem]) (by simp [go_sem]) (by simp [go_sem]) (by simp [go_sem])) ?_; rintro _ _ ⟨n, rfl, rfl⟩) | (go_at_call 190; refine (K.go _).mono ?_; rintro _ _ ⟨n, rfl, rfl⟩))
    go_returns
    exact ⟨rfl, by (repeat' first | (with_reducible first | exact Below.refl _ _ | assumption | refine Later.belowOf _ ?_ ?_ | refine Below.alloc ?_ ?_ _ | refine Below.setCell ?_ ?_ _ | refine Below.drewN' _ ?_ | refine Below.drew ?_ | exact Ge.le) | go_size)⟩
  · clear ha hb hc hd
    simp only [h0, ite_true, Bool.false_eq_true, ite_false]
    go_enter Tryz.func166, Tryz.ntmps166
    go_wp2_with (first | (go_at_call 124; refine Calls.mono (none2_any a b c d _ _ inferInstance (by simp [go_sem]) (by simp [go_sem]) (by simp [go_sem]) (by simp [go_sem])) ?_; rintro _ _ ⟨n, rfl, rfl⟩) | (go_at_call 55; refine (empty_any.go _).mono ?_; rintro _ _ ⟨n, rfl, rfl⟩))
    go_returns
    exact ⟨rfl, by (repeat' first | (with_reducible first | exact Below.refl _ _ | assumption | refine Later.belowOf _ ?_ ?_ | refine Below.alloc ?_ ?_ _ | refine Below.setCell ?_ ?_ _ | refine Below.drewN' _ ?_ | refine Below.drew ?_ | exact Ge.le) | go_size)⟩

set_option maxHeartbeats 1000000 in
theorem mul_ref_any (a b c d : Nat) (ha : a < 18446744073709551616) (hb : b < 18446744073709551616) (hc : c < 18446744073709551616) (hd : d < 18446744073709551616) : Gives 47 #[(.agg #[.float .f64 a, .float .f64 b]), (.agg #[.float .f64 c, .float .f64 d])] (.agg #[.float .f64 ((prodI a b c d).1), .float .f64 ((prodI a b c d).2)]) := by
  have nx := none_ref_any a b ha hb
  have ny := none_ref_any c d hc hd
  unfold prodI
  rcases fot (noneB a b) with h0 | h0 <;> rcases fot (noneB c d) with h1 | h1
  · rw [h0] at nx
    rw [h1] at ny
    obtain ⟨n1, n2⟩ := nums_of h0
    obtain ⟨n3, n4⟩ := nums_of h1
    have cc := can_mulL n1 n2 n3 n4
    have K := mulref_cnr a b c d _ _ _ _ _ _ _ _ nx ny (mul1_any a c (-1) ha hc) (mul1_any a d (-1) ha hd) (mul1_any b c (-1) hb hc) (mul1_any b d (-1) hb hd) (mul1_any a c 1 ha hc) (mul1_any a d 1 ha hd) (mul1_any b c 1 hb hc) (mul1_any b d 1 hb hd) cc.1.lt cc.2.lt
    rw [h0, h1]
    exact K
  all_goals
    intro w
    rw [h0] at nx
    rw [h1] at ny
    clear ha hb hc hd
    simp only [h0, h1, Bool.or_false, Bool.or_true, Bool.or_self, ite_true, Bool.false_eq_true, ite_false]
    go_enter Tryz.func47, Tryz.ntmps47
    go_wp2_with (first | (go_at_call 15; first | ((with_reducible refine (nx.go _).mono ?_); rintro _ _ ⟨n, rfl, rfl⟩) | ((with_reducible refine (ny.go _).mono ?_); rintro _ _ ⟨n, rfl, rfl⟩)) | (go_at_call 17; refine (empty2_any.go _).mono ?_; rintro _ _ ⟨n, rfl, rfl⟩))
    go_returns
    exact ⟨rfl, by (repeat' first | (with_reducible first | exact Below.refl _ _ | assumption | refine Later.belowOf _ ?_ ?_ | refine Below.alloc ?_ ?_ _ | refine Below.setCell ?_ ?_ _ | refine Below.drewN' _ ?_ | refine Below.drew ?_ | exact Ge.le) | go_size)⟩

/-! ### Powers of floats -/
/-- v to the power k + 1. -/
def powS (v : Nat) (dir : Int) : Nat → Nat
  | 0 => v
  | k + 1 => mulS (powS v dir k) v dir

theorem can_pow {v : Nat} (h : Can v) (dir : Int) : ∀ k, Can (powS v dir k)
  | 0 => h
  | k + 1 => can_mul dir (can_pow h dir k).num h.num

def PowInv (W : World) (v : Nat) (dir : Int) (n : Nat) (p i : Value) (w : World) : Prop :=
  ∃ k : Nat, i = .int .i64 k ∧ p = (.float .f64 (powS v dir k)) ∧ k ≤ n ∧ Below W.heap.size W w

set_option maxHeartbeats 2000000 in
theorem power_any (v : Nat) (dir : Int) (n : Nat) (hn : n ≤ 100) (hv : Can v) : Gives 279 #[(.float .f64 v), .int .i64 ((n : Int) + 1), .int .i64 dir] (.float .f64 (powS v dir n)) := by
  intro w
  have hn2 : (n : Int) ≤ 100 := by omega
  have hM := Lib.hid (fun k => mul_any (powS v dir k) v dir (can_pow hv dir k).lt hv.lt)
  clear hv hn
  go_enter Tryz.func279, Tryz.ntmps279
  go_wp2
  go_loopw [7, 11] (fun p i wr => PowInv w v dir n p i wr) (fun _ i _ => n - (intOf i).toNat)
  case atStart => exact ⟨0, rfl, rfl, Nat.zero_le _, Below.refl _ _⟩
  case round =>
    obtain ⟨k, rfl, rfl, hk, hbel⟩ := hrel
    have hk2 : (k : Int) ≤ 100 := by omega
    by_cases h1 : k < n
    · have M := hM.out k
      have e : powS v dir (k + 1) = mulS (powS v dir k) v dir := rfl
      rw [← e] at M
      clear e
      generalize hp : powS v dir k = p at *
      generalize hq : powS v dir (k + 1) = q at *
      have HQ := Lib.hid hq
      clear hp hq
      go_wp2_with (go_at_call 246; (with_reducible refine (M.go _).mono ?_); rintro _ _ ⟨m, rfl, rfl⟩)
      go_roundw
      case rel => exact ⟨k + 1, by go_num, by rw [HQ.out], h1, hbel.trans (m.below.mono hbel.size)⟩
      case measure => simp [intOf]; omega
    · obtain rfl : k = n := by omega
      go_wp2
      go_ret
      exact ⟨rfl, hbel⟩
end Go.Proofs.YtkmgfbhnioojhaaGreat

/- Contracts: the reference's powers of floats; squares of intervals. -/
namespace Go.Proofs.YtkmgfbhnioojhaaGreat
set_option linter.unusedSimpArgs false
set_option linter.unusedVariables false
open Go.RowKit
open Fl

theorem can_mag {a b : Nat} (h : noneB a b = false) : Can (magI a b) ∧ Can (migI a b) := by
  obtain ⟨n1, n2⟩ := nums_of h
  have c : ∀ x, nan x = false → Can (rung x) := fun x hx => ⟨Nat.lt_trans (rung_lt x) (by decide), by rw [nan_rung]; exact hx, fun h0 => by rw [idx_rung] at h0; omega⟩
  unfold magI migI
  rw [h]
  refine ⟨?_, ?_⟩
  · rw [if_neg Bool.false_ne_true]
    exact can_max (c a n1) (c b n2)
  · split
    · exact can_zero
    · exact can_min (c a n1) (c b n2)

/-- A square. -/
def sqrI (a b : Nat) : Nat × Nat := if noneB a b then (9218868437227405312, 18442240474082181120) else endsI (powS (migI a b) (-1) 1) (powS (magI a b) 1 1)

set_option maxHeartbeats 2000000 in
theorem pow2_any (a b : Nat) (ha : a < 18446744073709551616) (hb : b < 18446744073709551616) : Gives 218 #[(.agg #[.float .f64 a, .float .f64 b]), .int .i64 2] (.agg #[.float .f64 ((sqrI a b).1), .float .f64 ((sqrI a b).2)]) := by
  intro w
  unfold sqrI
  cases h0 : noneB a b
  · obtain ⟨c1, c2⟩ := can_mag h0
    have m1 := mig_any a b ha hb
    have m2 := mag_any a b ha hb
    have p1 := power_any (migI a b) (-1) 1 (by decide) c2
    have p2 := power_any (magI a b) 1 1 (by decide) c1
    rw [show (((1 : Nat) : Int) + 1) = 2 from rfl] at p1 p2
    have q1 := can_pow c2 (-1) 1
    have q2 := can_pow c1 1 1
    have en := ends_any _ _ q1.lt q2.lt q1.num q2.num
    generalize endsI (powS (migI a b) (-1) 1) (powS (magI a b) 1 1) = r at *
    generalize powS (migI a b) (-1) 1 = r1 at *
    generalize powS (magI a b) 1 1 = r2 at *
    generalize migI a b = r3 at *
    generalize magI a b = r4 at *
    clear ha hb c1 c2 q1 q2
    simp only [h0, ite_true, Bool.false_eq_true, ite_false]
    go_enter Tryz.func218, Tryz.ntmps218
    go_wp2_with (go_at_call 124; refine Calls.mono (go_none1 (a := a) (b := b) (by simp [go_sem]) (by simp [go_sem])) ?_; rintro _ _ ⟨n, rfl, rfl⟩)
    go_region_held3 (fun w' => w'.cell? ⟨w.heap.size, 0, none⟩ = some (.float .f64 a) ∧ w'.cell? ⟨w.heap.size, 1, none⟩ = some (.float .f64 b))
      (first | (go_simp; done) | go_keep)
      ((first | (go_at_call 280; (with_reducible refine (m1.go _).mono ?_); rintro _ _ ⟨n, rfl, rfl⟩) | (go_at_call 182; (with_reducible refine (m2.go _).mono ?_); rintro _ _ ⟨n, rfl, rfl⟩) | (go_at_call 279; first | ((with_reducible refine (p1.go _).mono ?_); rintro _ _ ⟨n, rfl, rfl⟩) | ((with_reducible refine (p2.go _).mono ?_); rintro _ _ ⟨n, rfl, rfl⟩)) | (go_at_call 193; (with_reducible refine (en.go _).mono ?_); rintro _ _ ⟨n, rfl, rfl⟩)))
    all_goals
      rename_i hHeld
      clear hHeld
      go_wp2
      go_returns
      exact ⟨rfl, by (repeat' first | (with_reducible first | exact Below.refl _ _ | assumption | refine Later.belowOf _ ?_ ?_ | refine Below.alloc ?_ ?_ _ | refine Below.setCell ?_ ?_ _ | refine Below.drewN' _ ?_ | refine Below.drew ?_ | exact Ge.le) | go_size)⟩
  · clear ha hb
    simp only [h0, ite_true, Bool.false_eq_true, ite_false]
    go_enter Tryz.func218, Tryz.ntmps218
    go_wp2_with (first | (go_at_call 124; refine Calls.mono (go_none1 (a := a) (b := b) (by simp [go_sem]) (by simp [go_sem])) ?_; rintro _ _ ⟨n, rfl, rfl⟩) | (go_at_call 55; refine (empty_any.go _).mono ?_; rintro _ _ ⟨n, rfl, rfl⟩))
    go_returns
    exact ⟨rfl, by (repeat' first | (with_reducible first | exact Below.refl _ _ | assumption | refine Later.belowOf _ ?_ ?_ | refine Below.alloc ?_ ?_ _ | refine Below.setCell ?_ ?_ _ | refine Below.drewN' _ ?_ | refine Below.drew ?_ | exact Ge.le) | go_size)⟩

set_option maxHeartbeats 1000000 in
theorem sqr_any (a b : Nat) (ha : a < 18446744073709551616) (hb : b < 18446744073709551616) : Gives 175 #[(.agg #[.float .f64 a, .float .f64 b])] (.agg #[.float .f64 ((sqrI a b).1), .float .f64 ((sqrI a b).2)]) := by
  intro w
  have P := pow2_any a b ha hb
  generalize sqrI a b = r at *
  clear ha hb
  go_enter Tryz.func175, Tryz.ntmps175
  go_wp2_with (go_at_call 218; refine (P.go _).mono ?_; rintro _ _ ⟨n, rfl, rfl⟩)
  go_returns
  exact ⟨rfl, by (repeat' first | (with_reducible first | exact Below.refl _ _ | assumption | refine Later.belowOf _ ?_ ?_ | refine Below.alloc ?_ ?_ _ | refine Below.setCell ?_ ?_ _ | refine Below.drewN' _ ?_ | refine Below.drew ?_ | exact Ge.le) | go_size)⟩

end Go.Proofs.YtkmgfbhnioojhaaGreat
