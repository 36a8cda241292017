/- Contracts: the reference's rounding, whole. -/
import Derived.Test.YtkmgfbhnioojhaaGreatPmW27
import Derived.Test.YtkmgfbhnioojhaaGreatPmFlC
namespace Go.Proofs.YtkmgfbhnioojhaaGreat
set_option linter.unusedSimpArgs false
set_option linter.unusedVariables false
open Go.RowKit
open Fl

def FloatRes (x : Nat) (w : World) (E : Ending) (w' : World) : Prop := E = .returned (.float .f64 x) ∧ Below w.heap.size w w'
theorem FloatRes.go {f : FuncId} {args : Array Value} {x : Nat} {w : World} (h : Calls Tryz.prog f args w (FloatRes x w)) : Calls Tryz.prog f args w fun e w' => ∃ (k : Later w), e = .returned (.float .f64 x) ∧ w' = k.val :=
  h.mono fun _ w' ⟨he, hbl⟩ => ⟨⟨w', hbl⟩, he, rfl⟩
theorem DownRes.go {f : FuncId} {args : Array Value} {S : Int} {D : Nat} {w : World} (h : Calls Tryz.prog f args w (DownRes S D w)) : Calls Tryz.prog f args w fun e w' => ∃ (d : Int) (k : Later w), Hid (FloorAt S D d) ∧ e = .returned (.int .i64 d) ∧ w' = k.val :=
  h.mono fun _ w' ⟨⟨d, hd, he⟩, hbl⟩ => ⟨d, ⟨w', hbl⟩, hd, he, rfl⟩

/-- The sum of two places' numbers. -/
theorem gsum_any (d : Int) (h1 : -9218868437227405312 ≤ d) (h2 : d ≤ 9218868437227405311) (s t : Bool) (m n : Nat) (e f : Int) (A B : Option Addr) (ak ac bk bc : Nat) (w : World)
    (v1 : nv 1074 s m e = pv d) (v2 : nv 1074 t n f = pv (d + 1)) (l1 : m < bp 2) (l2 : n < bp 2) (e0 : -1074 ≤ e) (e1 : e ≤ 1024) (f0 : -1074 ≤ f) (f1 : f ≤ 1024) (ha : BigS w (.slice A ak ac) m) (hb : BigS w (.slice B bk bc) n) :
    ∃ r p g, nv 1075 r p (g - 1) = pv d + pv (d + 1) ∧ p < bp 100 ∧ -1074 ≤ g ∧ g ≤ 1024 ∧ Calls Tryz.prog 79 #[(.agg #[.bool s, (.slice A ak ac), .int .i64 e]), (.agg #[.bool t, (.slice B bk bc), .int .i64 f])] w (NumRes r p g w) := by
  have sz : ∀ (m : Nat) (d : Int), m < bp 2 → d ≤ 2100 → m * 2 ^ d.toNat < bp 80 := by
    intro m d hm hd
    have a1 : m * 2 ^ d.toNat < bp 2 * 2 ^ d.toNat := Nat.mul_lt_mul_of_pos_right hm (Nat.two_pow_pos _)
    rw [← pw_eq] at a1 ⊢
    rw [bp_pw, ← pw_add] at a1
    rw [bp_pw]
    refine Nat.lt_of_lt_of_le a1 (pw_le ?_)
    omega
  have s1 := sz m (e - min e f) l1 (by omega)
  have s2 := sz n (f - min e f) l2 (by omega)
  have b80 : bp 80 ≤ bp 30000 := bp_le (by decide)
  have b2 : bp 2 ≤ bp 30000 := bp_le (by decide)
  have b81 : 2 * bp 80 ≤ bp 100 := by
    have : bp 100 = bp 20 * bp 80 := by rw [← bp_add]
    rw [this]
    refine Nat.mul_le_mul_right _ ?_
    have : bp 1 ≤ bp 20 := bp_le (by decide)
    rw [bp_succ, bp_zero] at this
    omega
  obtain ⟨r, p, g, h3, h4, h5, h6⟩ := bsum_any (K := 1074) s t A ak ac B bk bc m n e f w ha hb (by omega) (by omega) (by omega) (by omega) (by omega) (by omega) (by omega) (by omega) (by decide) (by omega) (by omega)
  refine ⟨r, p, g, ?_, by omega, by omega, by omega, h6⟩
  rw [← v1, ← v2, ← h3]
  unfold nv
  rw [show (g - 1 + 1075).toNat = (g + 1074).toNat by omega]

def exactB (S : Int) (D : Nat) (d dir : Int) : Bool := decide (d ≠ -9218868437227405312 ∧ pv d * (D : Int) = S) || decide (dir < 0)

theorem pick_exact {S : Int} {D : Nat} {d dir : Int} (h : exactB S D d dir = true) : pick S D d dir = d := by
  unfold exactB at h
  simp only [Bool.or_eq_true, decide_eq_true_eq] at h
  unfold pick; rw [if_pos h]
theorem pick_inexact {S : Int} {D : Nat} {d dir : Int} (h : exactB S D d dir = false) : pick S D d dir = if 0 < dir then d + 1
  else if (pv d + pv (d + 1)) * D = 2 * S then (if d % 2 = 0 then d else d + 1)
  else if (pv d + pv (d + 1)) * D ≤ 2 * S then d + 1
  else d := by
  have h' : ¬ ((d ≠ -9218868437227405312 ∧ pv d * (D : Int) = S) ∨ dir < 0) := by
    intro hh
    unfold exactB at h
    have : (decide (d ≠ -9218868437227405312 ∧ pv d * (D : Int) = S) || decide (dir < 0)) = true := by simpa only [Bool.or_eq_true, decide_eq_true_eq] using hh
    rw [this] at h; cases h
  unfold pick; rw [if_neg h']

set_option maxHeartbeats 16000000 in
set_option maxRecDepth 100000 in
theorem rounded_any (S : Int) (D : Nat) (dir : Int) (sa sb rt : Bool) (ea eb : Int) (A B : Option Addr) (ak ac bk bc : Nat) (w : World) (h : Oracle w (.agg #[.bool sa, (.slice A ak ac), .int .i64 ea, .bool sb, (.slice B bk bc), .int .i64 eb, .bool rt]) S D) :
    Calls Tryz.prog 255 #[(.agg #[.bool sa, (.slice A ak ac), .int .i64 ea, .bool sb, (.slice B bk bc), .int .i64 eb, .bool rt]), .int .i64 dir] w (FloatRes (rnd S D dir) w) := by
  have H := Lib.hid h
  have dn := fun (w1 : World) (hb : Below w.heap.size w w1) => DownRes.go (down_any S D sa sb rt ea eb A B ak ac bk bc w1 (h.at hb))
  have DN := Lib.hid dn
  have HP := Lib.hid h.pos
  clear h dn
  go_enter Tryz.func255, Tryz.ntmps255
  go_wp2_with (fail)
  go_at_call 303
  refine (DN.out _ (by (repeat' first | (with_reducible first | exact Below.refl _ _ | assumption | refine Later.belowOf _ ?_ ?_ | refine Below.alloc ?_ ?_ _ | refine Below.setCell ?_ ?_ _ | refine Below.drewN' _ ?_ | refine Below.drew ?_ | exact Ge.le) | go_size))).mono ?_
  rintro _ _ ⟨d, q, hd, rfl, rfl⟩
  go_upto_region 2 with (fail)
  obtain ⟨l1, l2, f1, f2⟩ := hd.out
  clear f1 f2
  have HPK := Lib.hid (show bitsOf (pick S D d dir) = rnd S D dir from pick_eq hd.out HP.out)
  go_cut [22] (fun v wc => ∃ (b : Bool) (q2 : Later (w.alloc (.cells #[.bool sa, .slice A ak ac, .int .i64 ea, .bool sb, .slice B bk bc, .int .i64 eb, .bool rt] 211))), v = .bool b ∧ Hid (b = exactB S D d dir) ∧ wc = q2.val)
  case first =>
    by_cases hd0 : d = -9218868437227405312
    · subst hd0
      have H2 := Lib.hid (show exactB S D (-9218868437227405312) dir = decide (dir < 0) by unfold exactB; simp)
      clear l1 l2
      by_cases hdir : dir < 0
      all_goals
        go_wp2
        go_quiet (fail)
        go_wp2
        go_meet
        case rel => exact ⟨_, ⟨q.val.drewN nq, by (repeat' first | (with_reducible first | exact Below.refl _ _ | assumption | refine Later.belowOf _ ?_ ?_ | refine Below.alloc ?_ ?_ _ | refine Below.setCell ?_ ?_ _ | refine Below.drewN' _ ?_ | refine Below.drew ?_ | exact Ge.le) | go_size)⟩, rfl, Lib.hid (by rw [H2.out]; first | done | simp [hdir]), rfl⟩
    · have hd1 : -9218868437227405311 ≤ d := by omega
      have a1 := at_any d l1 (by omega)
      have fl1 := fun w => NumRes.go (float_any (bitsOf d) (nan_bits l1 (show d ≤ 9218868437227405312 by omega)).2.2 w)
      have sm1 := fun (w2 : World) (hb : Below w.heap.size w w2) (R : Option Addr) (rk rc : Nat) (hr : BigS w2 (.slice R rk rc) (fM (bitsOf d))) => BoolRes.go (H.out.same w2 hb (qNeg (bitsOf d)) (fM (bitsOf d)) (qE (bitsOf d)) R rk rc hr (Nat.lt_of_lt_of_le (fM_bp _) (bp_le (by decide))) (by have := qE_range (bitsOf d); omega) (by have := qE_range (bitsOf d); omega))
      rw [nv_half (by omega) (by omega), show (2 * pv d * (D : Int)) = 2 * (pv d * (D : Int)) by rw [Int.mul_assoc]] at sm1
      have hdec : decide (2 * (pv d * (D : Int)) = 2 * S) = decide (pv d * (D : Int) = S) := by rw [Bool.eq_iff_iff]; simp only [decide_eq_true_eq]; omega
      rw [hdec] at sm1
      clear hdec
      have H2 := Lib.hid (show exactB S D d dir = (decide (pv d * (D : Int) = S) || decide (dir < 0)) by unfold exactB; simp [hd0])
      have FL1 := Lib.hid fl1
      have A1 := Lib.hid a1
      by_cases hsm : pv d * (D : Int) = S
      · have hb2 : decide (pv d * (D : Int) = S) = true := by simpa using hsm
        rw [hb2] at sm1
        have SM1 := Lib.hid sm1
        have HSM := Lib.hid hb2
        clear fl1 sm1 hb2 hsm a1 hd0
        first
          | (go_region_with (first | (go_at_call 111; refine (A1.out.go _).mono ?_; rintro _ _ ⟨q7, rfl, rfl⟩) | (go_at_call 62; refine (FL1.out _).mono ?_; rintro _ _ ⟨A2, k2, c2, q2', hq3, rfl, rfl⟩; have hq3' := hq3.out) | (go_at_call 304; refine (SM1.out _ (by (repeat' first | (with_reducible first | exact Below.refl _ _ | assumption | refine Later.belowOf _ ?_ ?_ | refine Below.alloc ?_ ?_ _ | refine Below.setCell ?_ ?_ _ | refine Below.drewN' _ ?_ | refine Below.drew ?_ | exact Ge.le) | go_size)) _ _ _ (Big.stays (by (repeat (first | (with_reducible assumption) | (with_reducible refine Big.drew ?_) | (with_reducible refine Big.drewN ?_ _) | (with_reducible refine Big.alloc ?_ _) | (with_reducible refine Big.later ?_ _) | (with_reducible refine Big.setCell ?_ _ (by go_simp))))))).mono ?_; rintro _ _ ⟨q4, rfl, rfl⟩)))
          | fail "region"
        all_goals
          go_wp2
          go_meet
          case rel => exact ⟨_, ⟨_, by (repeat' first | (with_reducible first | exact Below.refl _ _ | assumption | refine Later.belowOf _ ?_ ?_ | refine Below.alloc ?_ ?_ _ | refine Below.setCell ?_ ?_ _ | refine Below.drewN' _ ?_ | refine Below.drew ?_ | exact Ge.le) | go_size)⟩, rfl, Lib.hid (by rw [H2.out, HSM.out]; rfl), rfl⟩
      · have hb2 : decide (pv d * (D : Int) = S) = false := by simpa using hsm
        rw [hb2] at sm1
        have SM1 := Lib.hid sm1
        have HSM := Lib.hid hb2
        clear fl1 sm1 hb2 hsm a1 hd0
        by_cases hdir : dir < 0
        all_goals
          first
            | (go_region_with (first | (go_at_call 111; refine (A1.out.go _).mono ?_; rintro _ _ ⟨q7, rfl, rfl⟩) | (go_at_call 62; refine (FL1.out _).mono ?_; rintro _ _ ⟨A2, k2, c2, q2', hq3, rfl, rfl⟩; have hq3' := hq3.out) | (go_at_call 304; refine (SM1.out _ (by (repeat' first | (with_reducible first | exact Below.refl _ _ | assumption | refine Later.belowOf _ ?_ ?_ | refine Below.alloc ?_ ?_ _ | refine Below.setCell ?_ ?_ _ | refine Below.drewN' _ ?_ | refine Below.drew ?_ | exact Ge.le) | go_size)) _ _ _ (Big.stays (by (repeat (first | (with_reducible assumption) | (with_reducible refine Big.drew ?_) | (with_reducible refine Big.drewN ?_ _) | (with_reducible refine Big.alloc ?_ _) | (with_reducible refine Big.later ?_ _) | (with_reducible refine Big.setCell ?_ _ (by go_simp))))))).mono ?_; rintro _ _ ⟨q4, rfl, rfl⟩)))
            | fail "region"
          all_goals
            go_wp2
            go_meet
            case rel => exact ⟨_, ⟨_, by (repeat' first | (with_reducible first | exact Below.refl _ _ | assumption | refine Later.belowOf _ ?_ ?_ | refine Below.alloc ?_ ?_ _ | refine Below.setCell ?_ ?_ _ | refine Below.drewN' _ ?_ | refine Below.drew ?_ | exact Ge.le) | go_size)⟩, rfl, Lib.hid (by rw [H2.out, HSM.out]; simp [hdir]), rfl⟩
  case rest =>
    obtain ⟨b, q2, rfl, hb, rfl⟩ := hcut
    clear DN
    cases b
    · have hpi := pick_inexact hb.out.symm
      have h20 : decide (d + 1 ≤ 9223372036854775807) = true := by simp; omega
      by_cases hdir : 0 < dir
      · rw [if_pos hdir] at hpi
        have a1 := at_any (d + 1) (by omega) (by omega)
        have HPI := Lib.hid hpi
        have A1 := Lib.hid a1
        clear hpi a1
        go_wp2_with (go_at_call 111; refine (A1.out.go _).mono ?_; rintro _ _ ⟨q7, rfl, rfl⟩)
        go_ret
        exact ⟨by (rw [← HPK.out, HPI.out]; try rfl), by (repeat' first | (with_reducible first | exact Below.refl _ _ | assumption | refine Later.belowOf _ ?_ ?_ | refine Below.alloc ?_ ?_ _ | refine Below.setCell ?_ ?_ _ | refine Below.drewN' _ ?_ | refine Below.drew ?_ | exact Ge.le) | go_size)⟩
      · rw [if_neg hdir] at hpi
        obtain ⟨s1, m1, e1, v1, b1, e10, e11, g1⟩ := grid_any d l1 (by omega)
        obtain ⟨s2, m2, e2, v2, b2, e20, e21, g2⟩ := grid_any (d + 1) (by omega) (by omega)
        have G1 := Lib.hid (fun w => NumRes.go (g1 w))
        have G2 := Lib.hid (fun w => NumRes.go (g2 w))
        have V1 := Lib.hid v1
        have V2 := Lib.hid v2
        have B1 := Lib.hid b1
        have B2 := Lib.hid b2
        have HPI := Lib.hid hpi
        have a1 := at_any d l1 (by omega)
        have a2 := at_any (d + 1) (by omega) (by omega)
        have A1 := Lib.hid a1
        have A2 := Lib.hid a2
        clear g1 g2 v1 v2 b1 b2 hpi a1 a2
        go_wp2_with (go_at_call 305; first | ((with_reducible refine (G1.out _).mono ?_); rintro _ _ ⟨A3, k3, c3, q3, hq3, rfl, rfl⟩; have hq3' := hq3.out) | ((with_reducible refine (G2.out _).mono ?_); rintro _ _ ⟨A4, k4, c4, q4, hq4, rfl, rfl⟩; have hq4' := hq4.out))
        go_at_call 79
        obtain ⟨r, p, g, n1, n2, n3, n4, hsum⟩ := gsum_any d l1 l2 s1 s2 m1 m2 e1 e2 A3 A4 k3 c3 k4 c4 _ V1.out V2.out B1.out B2.out e10 e11 e20 e21 (Big.stays (hq3'.later q4)) (Big.stays hq4')
        refine (NumRes.go hsum).mono ?_
        rintro _ _ ⟨A5, k5, c5, q5, hq5, rfl, rfl⟩
        have hq5' := hq5.out
        have sm := fun (w2 : World) (hb : Below w.heap.size w w2) (hr : BigS w2 (.slice A5 k5 c5) p) => BoolRes.go (H.out.same w2 hb r p (g - 1) A5 k5 c5 hr n2 (by omega) (by omega))
        have be := fun (w2 : World) (hb : Below w.heap.size w w2) (hr : BigS w2 (.slice A5 k5 c5) p) => BoolRes.go (H.out.below w2 hb r p (g - 1) A5 k5 c5 hr n2 (by omega) (by omega))
        rw [n1] at sm be
        clear hsum n1 n2 hq3 hq3' hq4 hq4' hq5 G1 G2 V1 V2 B1 B2
        by_cases hs : (pv d + pv (d + 1)) * (D : Int) = 2 * S
        · have hpi := HPI.out
          rw [if_pos hs] at hpi
          have hsb : decide ((pv d + pv (d + 1)) * (D : Int) = 2 * S) = true := by simpa using hs
          rw [hsb] at sm
          have SM := Lib.hid sm
          clear sm be hs hsb HPI
          by_cases hpar : d % 2 = 0
          · rw [if_pos hpar] at hpi
            have HPI := Lib.hid hpi
            have ht : (d.tmod 2 == 0) = true := by
              rw [beq_iff_eq]
              exact Int.tmod_eq_zero_of_dvd (Int.dvd_of_emod_eq_zero hpar)
            clear hpi hpar
            go_wp2_with (first | (go_at_call 304; refine (SM.out _ (by (repeat' first | (with_reducible first | exact Below.refl _ _ | assumption | refine Later.belowOf _ ?_ ?_ | refine Below.alloc ?_ ?_ _ | refine Below.setCell ?_ ?_ _ | refine Below.drewN' _ ?_ | refine Below.drew ?_ | exact Ge.le) | go_size)) (Big.stays (by (repeat (first | (with_reducible assumption) | (with_reducible refine Big.drew ?_) | (with_reducible refine Big.drewN ?_ _) | (with_reducible refine Big.alloc ?_ _) | (with_reducible refine Big.later ?_ _) | (with_reducible refine Big.setCell ?_ _ (by go_simp))))))).mono ?_; rintro _ _ ⟨q7, rfl, rfl⟩) | (go_at_call 111; refine (A1.out.go _).mono ?_; rintro _ _ ⟨q8, rfl, rfl⟩))
            go_ret
            exact ⟨by (rw [← HPK.out, HPI.out]; try rfl), by (repeat' first | (with_reducible first | exact Below.refl _ _ | assumption | refine Later.belowOf _ ?_ ?_ | refine Below.alloc ?_ ?_ _ | refine Below.setCell ?_ ?_ _ | refine Below.drewN' _ ?_ | refine Below.drew ?_ | exact Ge.le) | go_size)⟩
          · rw [if_neg hpar] at hpi
            have HPI := Lib.hid hpi
            have ht : (d.tmod 2 == 0) = false := by
              rw [beq_eq_false_iff_ne]
              intro hh
              exact hpar (Int.emod_eq_zero_of_dvd (Int.dvd_of_tmod_eq_zero hh))
            clear hpi hpar
            go_wp2_with (first | (go_at_call 304; refine (SM.out _ (by (repeat' first | (with_reducible first | exact Below.refl _ _ | assumption | refine Later.belowOf _ ?_ ?_ | refine Below.alloc ?_ ?_ _ | refine Below.setCell ?_ ?_ _ | refine Below.drewN' _ ?_ | refine Below.drew ?_ | exact Ge.le) | go_size)) (Big.stays (by (repeat (first | (with_reducible assumption) | (with_reducible refine Big.drew ?_) | (with_reducible refine Big.drewN ?_ _) | (with_reducible refine Big.alloc ?_ _) | (with_reducible refine Big.later ?_ _) | (with_reducible refine Big.setCell ?_ _ (by go_simp))))))).mono ?_; rintro _ _ ⟨q7, rfl, rfl⟩) | (go_at_call 111; refine (A2.out.go _).mono ?_; rintro _ _ ⟨q8, rfl, rfl⟩))
            go_ret
            exact ⟨by (rw [← HPK.out, HPI.out]; try rfl), by (repeat' first | (with_reducible first | exact Below.refl _ _ | assumption | refine Later.belowOf _ ?_ ?_ | refine Below.alloc ?_ ?_ _ | refine Below.setCell ?_ ?_ _ | refine Below.drewN' _ ?_ | refine Below.drew ?_ | exact Ge.le) | go_size)⟩
        · have hpi := HPI.out
          rw [if_neg hs] at hpi
          have hsb : decide ((pv d + pv (d + 1)) * (D : Int) = 2 * S) = false := by simpa using hs
          rw [hsb] at sm
          have SM := Lib.hid sm
          clear sm hs hsb HPI
          by_cases hbe : (pv d + pv (d + 1)) * (D : Int) ≤ 2 * S
          · rw [if_pos hbe] at hpi
            have HPI := Lib.hid hpi
            have hbb : decide ((pv d + pv (d + 1)) * (D : Int) ≤ 2 * S) = true := by simpa using hbe
            rw [hbb] at be
            have BE := Lib.hid be
            clear hpi hbe hbb be
            go_wp2_with (first | (go_at_call 304; refine (SM.out _ (by (repeat' first | (with_reducible first | exact Below.refl _ _ | assumption | refine Later.belowOf _ ?_ ?_ | refine Below.alloc ?_ ?_ _ | refine Below.setCell ?_ ?_ _ | refine Below.drewN' _ ?_ | refine Below.drew ?_ | exact Ge.le) | go_size)) (Big.stays (by (repeat (first | (with_reducible assumption) | (with_reducible refine Big.drew ?_) | (with_reducible refine Big.drewN ?_ _) | (with_reducible refine Big.alloc ?_ _) | (with_reducible refine Big.later ?_ _) | (with_reducible refine Big.setCell ?_ _ (by go_simp))))))).mono ?_; rintro _ _ ⟨q7, rfl, rfl⟩) | (go_at_call 306; refine (BE.out _ (by (repeat' first | (with_reducible first | exact Below.refl _ _ | assumption | refine Later.belowOf _ ?_ ?_ | refine Below.alloc ?_ ?_ _ | refine Below.setCell ?_ ?_ _ | refine Below.drewN' _ ?_ | refine Below.drew ?_ | exact Ge.le) | go_size)) (Big.stays (by (repeat (first | (with_reducible assumption) | (with_reducible refine Big.drew ?_) | (with_reducible refine Big.drewN ?_ _) | (with_reducible refine Big.alloc ?_ _) | (with_reducible refine Big.later ?_ _) | (with_reducible refine Big.setCell ?_ _ (by go_simp))))))).mono ?_; rintro _ _ ⟨q9, rfl, rfl⟩) | (go_at_call 111; refine (A2.out.go _).mono ?_; rintro _ _ ⟨q8, rfl, rfl⟩))
            go_ret
            exact ⟨by (rw [← HPK.out, HPI.out]; try rfl), by (repeat' first | (with_reducible first | exact Below.refl _ _ | assumption | refine Later.belowOf _ ?_ ?_ | refine Below.alloc ?_ ?_ _ | refine Below.setCell ?_ ?_ _ | refine Below.drewN' _ ?_ | refine Below.drew ?_ | exact Ge.le) | go_size)⟩
          · rw [if_neg hbe] at hpi
            have HPI := Lib.hid hpi
            have hbb : decide ((pv d + pv (d + 1)) * (D : Int) ≤ 2 * S) = false := by simpa using hbe
            rw [hbb] at be
            have BE := Lib.hid be
            clear hpi hbe hbb be
            go_wp2_with (first | (go_at_call 304; refine (SM.out _ (by (repeat' first | (with_reducible first | exact Below.refl _ _ | assumption | refine Later.belowOf _ ?_ ?_ | refine Below.alloc ?_ ?_ _ | refine Below.setCell ?_ ?_ _ | refine Below.drewN' _ ?_ | refine Below.drew ?_ | exact Ge.le) | go_size)) (Big.stays (by (repeat (first | (with_reducible assumption) | (with_reducible refine Big.drew ?_) | (with_reducible refine Big.drewN ?_ _) | (with_reducible refine Big.alloc ?_ _) | (with_reducible refine Big.later ?_ _) | (with_reducible refine Big.setCell ?_ _ (by go_simp))))))).mono ?_; rintro _ _ ⟨q7, rfl, rfl⟩) | (go_at_call 306; refine (BE.out _ (by (repeat' first | (with_reducible first | exact Below.refl _ _ | assumption | refine Later.belowOf _ ?_ ?_ | refine Below.alloc ?_ ?_ _ | refine Below.setCell ?_ ?_ _ | refine Below.drewN' _ ?_ | refine Below.drew ?_ | exact Ge.le) | go_size)) (Big.stays (by (repeat (first | (with_reducible assumption) | (with_reducible refine Big.drew ?_) | (with_reducible refine Big.drewN ?_ _) | (with_reducible refine Big.alloc ?_ _) | (with_reducible refine Big.later ?_ _) | (with_reducible refine Big.setCell ?_ _ (by go_simp))))))).mono ?_; rintro _ _ ⟨q9, rfl, rfl⟩) | (go_at_call 111; refine (A1.out.go _).mono ?_; rintro _ _ ⟨q8, rfl, rfl⟩))
            go_ret
            exact ⟨by (rw [← HPK.out, HPI.out]; try rfl), by (repeat' first | (with_reducible first | exact Below.refl _ _ | assumption | refine Later.belowOf _ ?_ ?_ | refine Below.alloc ?_ ?_ _ | refine Below.setCell ?_ ?_ _ | refine Below.drewN' _ ?_ | refine Below.drew ?_ | exact Ge.le) | go_size)⟩
    · have hpe := pick_exact hb.out.symm
      have HPE := Lib.hid hpe
      have a1 := at_any d l1 (by omega)
      have A1 := Lib.hid a1
      clear hpe a1
      go_wp2_with (go_at_call 111; refine (A1.out.go _).mono ?_; rintro _ _ ⟨q7, rfl, rfl⟩)
      go_ret
      exact ⟨by (rw [← HPK.out, HPE.out]; try rfl), by (repeat' first | (with_reducible first | exact Below.refl _ _ | assumption | refine Later.belowOf _ ?_ ?_ | refine Below.alloc ?_ ?_ _ | refine Below.setCell ?_ ?_ _ | refine Below.drewN' _ ?_ | refine Below.drew ?_ | exact Ge.le) | go_size)⟩
end Go.Proofs.YtkmgfbhnioojhaaGreat
