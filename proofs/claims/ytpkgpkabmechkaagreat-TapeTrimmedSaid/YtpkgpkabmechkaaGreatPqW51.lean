/- Contracts: roots and powers of intervals. -/
import Derived.Test.YtpkgpkabmechkaaGreatPqW42
import Derived.Test.YtpkgpkabmechkaaGreatPqW45
import Derived.IntWalk
namespace Go.Proofs.YtpkgpkabmechkaaGreat
set_option linter.unusedSimpArgs false
set_option linter.unusedVariables false
open Go.RowKit
open Fl

/-! ### Roots -/
def sqrtI (a b : Nat) : Nat × Nat := if noneB a b || flt b 0 then (9218868437227405312, 18442240474082181120) else endsI (rootS (maxF a 0) (-1)) (rootS b 1)

theorem can_root {x : Nat} (dir : Int) (h : Can x) (h0 : 0 ≤ idx x) : Can (rootS x dir) := by
  unfold rootS
  rw [h.num, if_neg Bool.false_ne_true]
  split
  · exact can_zero
  · rename_i hr
    have hs : sgn x = false := by
      unfold idx at h0
      cases hh : sgn x
      · rfl
      · rw [hh] at h0; simp at h0; omega
    rw [hs, if_neg Bool.false_ne_true]
    split
    · exact can_rnd _ _ _
    · exact h
theorem max0 {a : Nat} (h : Can a) : Can (maxF a 0) ∧ 0 ≤ idx (maxF a 0) := by
  refine ⟨can_max h can_zero, ?_⟩
  rw [maxF_idx h.num (by decide), show idx 0 = 0 by decide]
  omega

set_option maxHeartbeats 2000000 in
theorem sqrt_ival_any (a b : Nat) (ha : a < 18446744073709551616) (hb : b < 18446744073709551616) : Gives 164 #[(.agg #[.float .f64 a, .float .f64 b])] (.agg #[.float .f64 ((sqrtI a b).1), .float .f64 ((sqrtI a b).2)]) := by
  intro w
  unfold sqrtI
  rcases fot (noneB a b) with h0 | h0
  · have E1 := ends_of ha hb h0
    rcases fot (flt b 0) with h1 | h1
    · have hb0 : 0 ≤ idx b := by rw [(flt0 E1.cb).1] at h1; simpa using h1
      obtain ⟨cm, im⟩ := max0 E1.ca
      have r1 := can_root (-1) cm im
      have r2 := can_root 1 E1.cb hb0
      have S1 := (sqrt_any (maxF a 0) (-1) cm.lt).num r1.num
      have S2 := (sqrt_any b 1 hb).num r2.num
      have en := ends_any _ _ r1.lt r2.lt r1.num r2.num
      have m1 := fun (w : World) ts t => run_max_f (P := Tryz.prog) w ts t a 0 E1.ca.num (by decide) (fun h => E1.ca.zero h)
      generalize endsI (rootS (maxF a 0) (-1)) (rootS b 1) = r at *
      generalize rootS (maxF a 0) (-1) = r1' at *
      generalize rootS b 1 = r2' at *
      generalize maxF a 0 = q at *
      clear ha hb E1 hb0 cm im r1 r2
      simp only [h0, h1, Bool.or_self, Bool.false_eq_true, ite_false]
      go_enter Tryz.func164, Tryz.ntmps164
      go_wp2_with (go_at_call 106; refine Calls.mono (go_none1 (a := a) (b := b) (by simp [go_sem]) (by simp [go_sem])) ?_; rintro _ _ ⟨n, rfl, rfl⟩)
      go_region_held3 (fun w' => w'.cell? ⟨w.heap.size, 0, none⟩ = some (.float .f64 a) ∧ w'.cell? ⟨w.heap.size, 1, none⟩ = some (.float .f64 b))
        (first | (go_simp; done) | go_keep)
        ((first | (go_at_call 209; first | ((with_reducible refine (S1.go _).mono ?_); rintro _ _ ⟨n, rfl, rfl⟩) | ((with_reducible refine (S2.go _).mono ?_); rintro _ _ ⟨n, rfl, rfl⟩)) | (go_at_call 148; (with_reducible refine (en.go _).mono ?_); rintro _ _ ⟨n, rfl, rfl⟩)))
      all_goals
        rename_i hHeld
        clear hHeld
        go_wp2
        go_returns
        exact ⟨rfl, by (repeat' first | (with_reducible first | exact Below.refl _ _ | assumption | refine Later.belowOf _ ?_ ?_ | refine Below.alloc ?_ ?_ _ | refine Below.setCell ?_ ?_ _ | refine Below.drewN' _ ?_ | refine Below.drew ?_ | exact Ge.le) | go_size)⟩
    · clear ha hb E1
      simp only [h0, h1, Bool.or_true, ite_true]
      go_enter Tryz.func164, Tryz.ntmps164
      go_wp2_with (first | (go_at_call 106; refine Calls.mono (go_none1 (a := a) (b := b) (by simp [go_sem]) (by simp [go_sem])) ?_; rintro _ _ ⟨n, rfl, rfl⟩) | (go_at_call 135; refine (empty_any.go _).mono ?_; rintro _ _ ⟨n, rfl, rfl⟩))
      go_returns
      exact ⟨rfl, by (repeat' first | (with_reducible first | exact Below.refl _ _ | assumption | refine Later.belowOf _ ?_ ?_ | refine Below.alloc ?_ ?_ _ | refine Below.setCell ?_ ?_ _ | refine Below.drewN' _ ?_ | refine Below.drew ?_ | exact Ge.le) | go_size)⟩
  · clear ha hb
    simp only [h0, Bool.true_or, ite_true]
    go_enter Tryz.func164, Tryz.ntmps164
    go_wp2_with (first | (go_at_call 106; refine Calls.mono (go_none1 (a := a) (b := b) (by simp [go_sem]) (by simp [go_sem])) ?_; rintro _ _ ⟨n, rfl, rfl⟩) | (go_at_call 135; refine (empty_any.go _).mono ?_; rintro _ _ ⟨n, rfl, rfl⟩))
    go_returns
    exact ⟨rfl, by (repeat' first | (with_reducible first | exact Below.refl _ _ | assumption | refine Later.belowOf _ ?_ ?_ | refine Below.alloc ?_ ?_ _ | refine Below.setCell ?_ ?_ _ | refine Below.drewN' _ ?_ | refine Below.drew ?_ | exact Ge.le) | go_size)⟩

end Go.Proofs.YtpkgpkabmechkaaGreat

/- Contracts: powers of intervals. -/
namespace Go.Proofs.YtpkgpkabmechkaaGreat
set_option linter.unusedSimpArgs false
set_option linter.unusedVariables false
open Go.RowKit
open Fl

def oddA (v : Nat) (dir : Int) (k : Nat) : Nat := if flt v 0 then fneg (powS (fneg v) (-dir) k) else powS v dir k
def oddR (v : Nat) (dir : Int) (k : Nat) : Nat := if flt v 0 then cl (fneg (powS (cl (fneg v)) (-dir) k)) else powS v dir k

theorem nan_cl2 (x : Nat) : nan (cl x) = nan x := by
  cases h : nan x
  · exact nan_cl _ h
  · rw [cl_nan h]; exact h
theorem ends_cl (p q : Nat) : endsI (cl p) (cl q) = endsI p q := by
  have e1 : minF (cl p) 9218868437227405311 = cl (minF p 9218868437227405311) := by
    unfold minF flt
    rw [nan_cl2, idx_cl]
    split
    · rfl
    · rfl
  have e2 : maxF (cl q) 18442240474082181119 = cl (maxF q 18442240474082181119) := by
    unfold maxF flt
    rw [nan_cl2, idx_cl]
    split
    · rfl
    · rfl
  unfold endsI
  rw [e1, e2, makeI_cl]
theorem cln {v : Nat} (h : Can v) (h0 : flt v 0 = true) : cl (fneg v) = fneg v := by
  rw [(flt0 h).1] at h0
  have h0 : idx v < 0 := by simpa using h0
  unfold cl
  rw [if_neg (by rw [idx_fneg]; omega)]
theorem odd_cl {v : Nat} (h : Can v) (dir : Int) (k : Nat) : cl (oddA v dir k) = oddR v dir k ∧ oddA v dir k < 18446744073709551616 ∧ nan (oddA v dir k) = false ∧ Can (oddR v dir k) := by
  unfold oddA oddR
  cases h0 : flt v 0
  · simp only [Bool.false_eq_true, if_false]
    have c := can_pow h dir k
    exact ⟨can_cl c, c.lt, c.num, c⟩
  · simp only [if_true]
    have c0 : Can (fneg v) := by rw [← cln h h0]; exact can_neg h.num
    have c := can_pow c0 (-dir) k
    rw [cln h h0]
    exact ⟨rfl, fneg_lt _, by rw [nan_fneg]; exact c.num, can_neg c.num⟩

set_option maxHeartbeats 2000000 in
theorem odd_any (v : Nat) (k : Nat) (hk : k ≤ 100) (hv : Can v) : Gives 208 #[(.float .f64 v), .int .i64 ((k : Int) + 1), .int .i64 (-1)] (.float .f64 (oddA v (-1) k)) ∧ Gives 208 #[(.float .f64 v), .int .i64 ((k : Int) + 1), .int .i64 1] (.float .f64 (oddA v 1 k)) := by
  unfold oddA
  cases h0 : flt v 0
  · have p1 := power_any v (-1) k hk hv
    have p2 := power_any v 1 k hk hv
    generalize powS v (-1) k = r1 at *
    generalize powS v 1 k = r2 at *
    clear hv hk
    constructor
    all_goals
      intro w
      simp only [h0, Bool.false_eq_true, ite_false]
      go_enter Tryz.func208, Tryz.ntmps208
      go_wp2_with (go_at_call 206; first | ((with_reducible refine (p1.go _).mono ?_); rintro _ _ ⟨n, rfl, rfl⟩) | ((with_reducible refine (p2.go _).mono ?_); rintro _ _ ⟨n, rfl, rfl⟩))
      go_ret
      exact ⟨rfl, by (repeat' first | (with_reducible first | exact Below.refl _ _ | assumption | refine Later.belowOf _ ?_ ?_ | refine Below.alloc ?_ ?_ _ | refine Below.setCell ?_ ?_ _ | refine Below.drewN' _ ?_ | refine Below.drew ?_ | exact Ge.le) | go_size)⟩
  · have c0 : Can (fneg v) := by rw [← cln hv h0]; exact can_neg hv.num
    have p1 := power_any (fneg v) (-1) k hk c0
    have p2 := power_any (fneg v) 1 k hk c0
    have q1 := can_pow c0 (-1) k
    have q2 := can_pow c0 1 k
    have e0 := fneg_eq hv.lt
    have e1 := fneg_eq q1.lt
    have e2 := fneg_eq q2.lt
    rw [show (-(-1) : Int) = 1 from rfl]
    generalize powS (fneg v) (-1) k = r1 at *
    generalize powS (fneg v) 1 k = r2 at *
    generalize fneg v = r0 at *
    clear hv hk c0 q1 q2
    constructor
    all_goals
      intro w
      simp only [h0, ite_true]
      go_enter Tryz.func208, Tryz.ntmps208
      go_wp2_with (go_at_call 206; first | ((with_reducible refine (p1.go _).mono ?_); rintro _ _ ⟨n, rfl, rfl⟩) | ((with_reducible refine (p2.go _).mono ?_); rintro _ _ ⟨n, rfl, rfl⟩))
      go_ret
      exact ⟨rfl, by (repeat' first | (with_reducible first | exact Below.refl _ _ | assumption | refine Later.belowOf _ ?_ ?_ | refine Below.alloc ?_ ?_ _ | refine Below.setCell ?_ ?_ _ | refine Below.drewN' _ ?_ | refine Below.drew ?_ | exact Ge.le) | go_size)⟩

/-- A power of k + 1. -/
def powP (a b k : Nat) : Nat × Nat := if (k + 1) % 2 = 0 then endsI (powS (migI a b) (-1) k) (powS (magI a b) 1 k) else endsI (oddR a (-1) k) (oddR b 1 k)

set_option maxHeartbeats 4000000 in
theorem powpos_any (a b k : Nat) (hk : k ≤ 63) (ha : a < 18446744073709551616) (hb : b < 18446744073709551616) (h0 : noneB a b = false) : Gives 163 #[(.agg #[.float .f64 a, .float .f64 b]), .int .i64 ((k : Int) + 1)] (.agg #[.float .f64 ((powP a b k).1), .float .f64 ((powP a b k).2)]) := by
  intro w
  obtain ⟨c1, c2⟩ := can_mag h0
  obtain ⟨ca, cb⟩ := can_ends ha hb h0
  have m1 := mig_any a b ha hb
  have m2 := mag_any a b ha hb
  have p1 := power_any (migI a b) (-1) k (by omega) c2
  have p2 := power_any (magI a b) 1 k (by omega) c1
  have q1 := can_pow c2 (-1) k
  have q2 := can_pow c1 1 k
  have en := ends_any _ _ q1.lt q2.lt q1.num q2.num
  have o1 := (odd_any a k (by omega) ca).1
  have o2 := (odd_any b k (by omega) cb).2
  obtain ⟨x1, x2, x3, x4⟩ := odd_cl ca (-1) k
  obtain ⟨y1, y2, y3, y4⟩ := odd_cl cb 1 k
  have em := ends_any _ _ x2 y2 x3 y3
  rw [← ends_cl, x1, y1] at em
  have hk2 : (k : Int) ≤ 63 := by omega
  have e0 : ((k : Int) + 1 == 0) = false := by simp; omega
  unfold powP
  by_cases hp : (k + 1) % 2 = 0
  · have e1 : ((k : Int) + 1).tmod 2 = 0 := by rw [Int.tmod_eq_emod_of_nonneg (by omega)]; omega
    rw [if_pos hp]
    generalize endsI (powS (migI a b) (-1) k) (powS (magI a b) 1 k) = r at *
    generalize powS (migI a b) (-1) k = r1 at *
    generalize powS (magI a b) 1 k = r2 at *
    generalize migI a b = r3 at *
    generalize magI a b = r4 at *
    clear ha hb c1 c2 ca cb q1 q2 x1 x2 x3 x4 y1 y2 y3 y4 em o1 o2 hp hk
    go_enter Tryz.func163, Tryz.ntmps163
    go_wp2_with (go_at_call 106; refine Calls.mono (go_none1 (a := a) (b := b) (by simp [go_sem]) (by simp [go_sem])) ?_; rintro _ _ ⟨n, rfl, rfl⟩)
    go_region_held3 (fun w' => w'.cell? ⟨w.heap.size, 0, none⟩ = some (.float .f64 a) ∧ w'.cell? ⟨w.heap.size, 1, none⟩ = some (.float .f64 b))
      (first | (go_simp; done) | go_keep)
      ((first | (go_at_call 207; (with_reducible refine (m1.go _).mono ?_); rintro _ _ ⟨n, rfl, rfl⟩) | (go_at_call 151; (with_reducible refine (m2.go _).mono ?_); rintro _ _ ⟨n, rfl, rfl⟩) | (go_at_call 206; first | ((with_reducible refine (p1.go _).mono ?_); rintro _ _ ⟨n, rfl, rfl⟩) | ((with_reducible refine (p2.go _).mono ?_); rintro _ _ ⟨n, rfl, rfl⟩)) | (go_at_call 148; (with_reducible refine (en.go _).mono ?_); rintro _ _ ⟨n, rfl, rfl⟩)))
    all_goals
      rename_i hHeld
      clear hHeld
      go_wp2
      go_returns
      exact ⟨rfl, by (repeat' first | (with_reducible first | exact Below.refl _ _ | assumption | refine Later.belowOf _ ?_ ?_ | refine Below.alloc ?_ ?_ _ | refine Below.setCell ?_ ?_ _ | refine Below.drewN' _ ?_ | refine Below.drew ?_ | exact Ge.le) | go_size)⟩
  · have e1 : ((k : Int) + 1).tmod 2 = 1 := by rw [Int.tmod_eq_emod_of_nonneg (by omega)]; omega
    rw [if_neg hp]
    generalize endsI (oddR a (-1) k) (oddR b 1 k) = r at *
    generalize oddA a (-1) k = r1 at *
    generalize oddA b 1 k = r2 at *
    clear ha hb c1 c2 ca cb q1 q2 x1 x2 x3 x4 y1 y2 y3 y4 en p1 p2 m1 m2 hp hk
    go_enter Tryz.func163, Tryz.ntmps163
    go_wp2_with (go_at_call 106; refine Calls.mono (go_none1 (a := a) (b := b) (by simp [go_sem]) (by simp [go_sem])) ?_; rintro _ _ ⟨n, rfl, rfl⟩)
    go_region_held3 (fun w' => w'.cell? ⟨w.heap.size, 0, none⟩ = some (.float .f64 a) ∧ w'.cell? ⟨w.heap.size, 1, none⟩ = some (.float .f64 b))
      (first | (go_simp; done) | go_keep)
      ((first | (go_at_call 208; first | ((with_reducible refine (o1.go _).mono ?_); rintro _ _ ⟨n, rfl, rfl⟩) | ((with_reducible refine (o2.go _).mono ?_); rintro _ _ ⟨n, rfl, rfl⟩)) | (go_at_call 148; (with_reducible refine (em.go _).mono ?_); rintro _ _ ⟨n, rfl, rfl⟩)))
    all_goals
      rename_i hHeld
      clear hHeld
      go_wp2
      go_returns
      exact ⟨rfl, by (repeat' first | (with_reducible first | exact Below.refl _ _ | assumption | refine Later.belowOf _ ?_ ?_ | refine Below.alloc ?_ ?_ _ | refine Below.setCell ?_ ?_ _ | refine Below.drewN' _ ?_ | refine Below.drew ?_ | exact Ge.le) | go_size)⟩
end Go.Proofs.YtpkgpkabmechkaaGreat

/- Contracts: powers of intervals, of whatever exponent. -/
namespace Go.Proofs.YtpkgpkabmechkaaGreat
set_option linter.unusedSimpArgs false
set_option linter.unusedVariables false
open Go.RowKit
open Fl

theorem endsI_lt {p q : Nat} (hp : p < 18446744073709551616) (hq : q < 18446744073709551616) : (endsI p q).1 < 18446744073709551616 ∧ (endsI p q).2 < 18446744073709551616 :=
  makeI_lt (minF_lt hp (by decide)) (maxF_lt hq (by decide))
theorem powP_lt {a b : Nat} (k : Nat) (ca : Can a) (cb : Can b) (h0 : noneB a b = false) : (powP a b k).1 < 18446744073709551616 ∧ (powP a b k).2 < 18446744073709551616 := by
  obtain ⟨c1, c2⟩ := can_mag h0
  unfold powP
  split
  · exact endsI_lt (can_pow c2 _ _).lt (can_pow c1 _ _).lt
  · exact endsI_lt (odd_cl ca _ _).2.2.2.lt (odd_cl cb _ _).2.2.2.lt

/-- A power. -/
def powI (a b : Nat) (n : Int) : Nat × Nat :=
  if noneB a b then (9218868437227405312, 18442240474082181120)
  else if n = 0 then (4607182418800017408, 4607182418800017408)
  else if 64 < n ∨ n < -64 then (18442240474082181120, 9218868437227405312)
  else if n < 0 then quotI 4607182418800017408 4607182418800017408 (powP a b (-n - 1).toNat).1 (powP a b (-n - 1).toNat).2
  else powP a b (n - 1).toNat

theorem can_one : Can 4607182418800017408 := ⟨by decide, by decide, by decide⟩
theorem make_one : makeI 4607182418800017408 4607182418800017408 = (4607182418800017408, 4607182418800017408) := make_can can_one can_one (by decide) (by decide) (by decide)

set_option maxHeartbeats 4000000 in
theorem pow_ival_any (a b : Nat) (n : Int) (ha : a < 18446744073709551616) (hb : b < 18446744073709551616) : Gives 163 #[(.agg #[.float .f64 a, .float .f64 b]), .int .i64 n] (.agg #[.float .f64 ((powI a b n).1), .float .f64 ((powI a b n).2)]) := by
  have pt := point_any 4607182418800017408 (by decide)
  rw [make_one] at pt
  unfold powI
  cases h0 : noneB a b
  · obtain ⟨ca, cb⟩ := can_ends ha hb h0
    simp only [Bool.false_eq_true, if_false]
    by_cases h1 : n = 0
    · subst h1
      simp only [if_true]
      intro w
      clear ha hb ca cb
      go_enter Tryz.func163, Tryz.ntmps163
      go_wp2_with (first | (go_at_call 106; refine Calls.mono (go_none1 (a := a) (b := b) (by simp [go_sem]) (by simp [go_sem])) ?_; rintro _ _ ⟨n, rfl, rfl⟩) | (go_at_call 139; (with_reducible refine (pt.go _).mono ?_); rintro _ _ ⟨n, rfl, rfl⟩))
      go_returns
      exact ⟨rfl, by (repeat' first | (with_reducible first | exact Below.refl _ _ | assumption | refine Later.belowOf _ ?_ ?_ | refine Below.alloc ?_ ?_ _ | refine Below.setCell ?_ ?_ _ | refine Below.drewN' _ ?_ | refine Below.drew ?_ | exact Ge.le) | go_size)⟩
    · rw [if_neg h1]
      have e0 : (n == 0) = false := by simpa using h1
      by_cases h2 : 64 < n ∨ n < -64
      · rw [if_pos h2]
        intro w
        have h3 : 64 < n ∨ (n ≤ 64 ∧ n < -64) := by omega
        clear ha hb ca cb h2
        rcases h3 with h3 | ⟨h3, h4⟩
        all_goals
          go_enter Tryz.func163, Tryz.ntmps163
          go_wp2_with (first | (go_at_call 106; refine Calls.mono (go_none1 (a := a) (b := b) (by simp [go_sem]) (by simp [go_sem])) ?_; rintro _ _ ⟨n, rfl, rfl⟩) | (go_at_call 147; refine (whole_any.go _).mono ?_; rintro _ _ ⟨n, rfl, rfl⟩))
          go_returns
          exact ⟨rfl, by (repeat' first | (with_reducible first | exact Below.refl _ _ | assumption | refine Later.belowOf _ ?_ ?_ | refine Below.alloc ?_ ?_ _ | refine Below.setCell ?_ ?_ _ | refine Below.drewN' _ ?_ | refine Below.drew ?_ | exact Ge.le) | go_size)⟩
      · rw [if_neg h2]
        by_cases h3 : n < 0
        · rw [if_pos h3]
          obtain ⟨k, hk, rfl⟩ : ∃ k : Nat, k ≤ 63 ∧ n = -((k : Int) + 1) := ⟨(-n - 1).toNat, by omega, by omega⟩
          rw [show (-(-((k : Int) + 1)) - 1).toNat = k by omega]
          have P := powpos_any a b k hk ha hb h0
          have l := powP_lt k ca cb h0
          have D := quot_ival_any 4607182418800017408 4607182418800017408 _ _ (by decide) (by decide) l.1 l.2
          generalize quotI 4607182418800017408 4607182418800017408 (powP a b k).1 (powP a b k).2 = r at *
          generalize powP a b k = q at *
          have hk2 : (k : Int) ≤ 63 := by omega
          have w1 : IntKind.i64.wrap ((k : Int) + 1) = (k : Int) + 1 := IntWalk.i64_in _ (by omega)
          have w2 : IntKind.i64.wrap (-(-((k : Int) + 1))) = (k : Int) + 1 := by rw [Int.neg_neg]; exact w1
          have w3 : IntKind.i64.wrap (-(-1 + -(k : Int))) = (k : Int) + 1 := by rw [show (-(-1 + -(k : Int))) = (k : Int) + 1 by omega]; exact w1
          have e1 : (-((k : Int) + 1) == 0) = false := by simp; omega
          intro w
          clear ha hb ca cb h2 h1 e0 l hk h3
          go_enter Tryz.func163, Tryz.ntmps163
          go_wp2_with (go_at_call 106; refine Calls.mono (go_none1 (a := a) (b := b) (by simp [go_sem]) (by simp [go_sem])) ?_; rintro _ _ ⟨n, rfl, rfl⟩)
          go_region_held3 (fun w' => w'.cell? ⟨w.heap.size, 0, none⟩ = some (.float .f64 a) ∧ w'.cell? ⟨w.heap.size, 1, none⟩ = some (.float .f64 b))
            (first | (go_simp; done) | go_keep)
            ((first | (go_at_call 139; (with_reducible refine (pt.go _).mono ?_); rintro _ _ ⟨n, rfl, rfl⟩) | (go_at_call 163; (with_reducible refine (P.go _).mono ?_); rintro _ _ ⟨n, rfl, rfl⟩) | (go_at_call 70; (with_reducible refine (D.go _).mono ?_); rintro _ _ ⟨n, rfl, rfl⟩)))
          all_goals
            rename_i hHeld
            clear hHeld
            go_wp2
            go_returns
            exact ⟨rfl, by (repeat' first | (with_reducible first | exact Below.refl _ _ | assumption | refine Later.belowOf _ ?_ ?_ | refine Below.alloc ?_ ?_ _ | refine Below.setCell ?_ ?_ _ | refine Below.drewN' _ ?_ | refine Below.drew ?_ | exact Ge.le) | go_size)⟩
        · rw [if_neg h3]
          obtain ⟨k, hk, rfl⟩ : ∃ k : Nat, k ≤ 63 ∧ n = (k : Int) + 1 := ⟨(n - 1).toNat, by omega, by omega⟩
          rw [show ((k : Int) + 1 - 1).toNat = k by omega]
          exact powpos_any a b k hk ha hb h0
  · intro w
    clear ha hb
    simp only [if_true]
    go_enter Tryz.func163, Tryz.ntmps163
    go_wp2_with (first | (go_at_call 106; refine Calls.mono (go_none1 (a := a) (b := b) (by simp [go_sem]) (by simp [go_sem])) ?_; rintro _ _ ⟨n, rfl, rfl⟩) | (go_at_call 135; refine (empty_any.go _).mono ?_; rintro _ _ ⟨n, rfl, rfl⟩))
    go_returns
    exact ⟨rfl, by (repeat' first | (with_reducible first | exact Below.refl _ _ | assumption | refine Later.belowOf _ ?_ ?_ | refine Below.alloc ?_ ?_ _ | refine Below.setCell ?_ ?_ _ | refine Below.drewN' _ ?_ | refine Below.drew ?_ | exact Ge.le) | go_size)⟩
end Go.Proofs.YtpkgpkabmechkaaGreat
