/- Contracts: the reference's numbers: which one is the greater. -/
import Derived.Test.YtjdccbigaahkeaaW25
namespace Go.Proofs.Ytjdccbigaahkeaa
set_option linter.unusedSimpArgs false
set_option linter.unusedVariables false
open Go.RowKit
open Fl

theorem sign_later {w : World} (q : Later w) (s : Bool) (A : Option Addr) (k c : Nat) (m : Nat) (e : Int) (h : BigS w (.slice A k c) m) : Calls Try.prog 152 #[(.agg #[.bool s, (.slice A k c), .int .i64 e])] q.val fun E w'' => E = .returned (.int .i64 (sgnI s m)) ∧ ∃ r : Later w, w'' = r.val :=
  (sign_any s _ m e q.val (h.at q.below)).mono fun _ w'' ⟨he, hb⟩ => ⟨he, ⟨w'', q.below.trans (hb.mono q.below.size)⟩, rfl⟩
theorem bits_later {w : World} (q : Later w) (A : Option Addr) (k c : Nat) (m : Nat) (h : BigS w (.slice A k c) m) (hm : m < bp 30000) : Calls Try.prog 156 #[.slice A k c] q.val fun E w'' => E = .returned (.int .i64 (blen m)) ∧ ∃ r : Later w, w'' = r.val :=
  (bits_big (h _ q.below) hm).mono fun _ w'' ⟨he, hb⟩ => ⟨he, ⟨w'', q.below.trans (hb.mono q.below.size)⟩, rfl⟩

theorem pw_le {a b : Nat} (h : a ≤ b) : pw a ≤ pw b := by rw [pw_eq, pw_eq]; exact Nat.pow_le_pow_right (by decide) h
theorem blen_bp {m : Nat} (h : m < bp 30000) : blen m ≤ 960000 := by
  rw [bp_pw, pw_eq] at h
  have := blen_le h
  omega

/-- The order by what is found: the signs, the bits, the digits. -/
theorem ordN_sgn {s t : Bool} {m n : Nat} {e f : Int} (h : sgnI s m ≠ sgnI t n) : ordN s t m n e f = if sgnI s m < sgnI t n then -1 else 1 := by unfold ordN; rw [if_pos h]
theorem ordN_null {s t : Bool} {m n : Nat} {e f : Int} (h : sgnI s m = sgnI t n) (h0 : sgnI s m = 0) : ordN s t m n e f = 0 := by unfold ordN; rw [if_neg (fun hh => hh h), if_pos h0]
theorem ordN_bits {s t : Bool} {m n : Nat} {e f : Int} (h : sgnI s m = sgnI t n) (h0 : sgnI s m ≠ 0) : ordN s t m n e f = if s then 0 - (if (blen m : Int) + e < blen n + f then -1 else if (blen n : Int) + f < blen m + e then 1 else cmpI (m * 2 ^ (e - min e f).toNat) (n * 2 ^ (f - min e f).toNat))
  else (if (blen m : Int) + e < blen n + f then -1 else if (blen n : Int) + f < blen m + e then 1 else cmpI (m * 2 ^ (e - min e f).toNat) (n * 2 ^ (f - min e f).toNat)) := by unfold ordN; rw [if_neg (fun hh => hh h), if_neg h0]

theorem cmpI_range (m n : Nat) : -1 ≤ cmpI m n ∧ cmpI m n ≤ 1 := by unfold cmpI; split; omega; split <;> omega

theorem sgn_ne {s : Bool} {m : Nat} (h : sgnI s m ≠ 0) : m ≠ 0 := by intro hh; rw [hh] at h; exact h rfl

set_option maxHeartbeats 16000000 in
set_option maxRecDepth 100000 in
theorem orderN_any (s t : Bool) (A : Option Addr) (ka ca : Nat) (B : Option Addr) (kb cb : Nat) (m n : Nat) (e f : Int) (w : World) (ha : BigS w (.slice A ka ca) m) (hb : BigS w (.slice B kb cb) n) (hm : m < bp 30000) (hn : n < bp 30000)
    (hmn : (blen m : Int) + e = blen n + f → m * 2 ^ (e - min e f).toNat < bp 30000 ∧ n * 2 ^ (f - min e f).toNat < bp 30000) (e0 : -100000 ≤ e) (e1 : e ≤ 100000) (f0 : -100000 ≤ f) (f1 : f ≤ 100000) :
    Calls Try.prog 153 #[(.agg #[.bool s, (.slice A ka ca), .int .i64 e]), (.agg #[.bool t, (.slice B kb cb), .int .i64 f])] w (IntRes (ordN s t m n e f) w) := by
  have x1 := blen_bp hm
  have y1 := blen_bp hn
  have HA := Lib.hid ha
  have HB := Lib.hid hb
  have HM := Lib.hid hm
  have HN := Lib.hid hn
  have HMN := Lib.hid hmn
  have sl1 := fun (w1 : World) (h : Below w.heap.size w w1) (q : Later w1) => sign_later q s A ka ca m e (ha.at h)
  have sl2 := fun (w1 : World) (h : Below w.heap.size w w1) (q : Later w1) => sign_later q t B kb cb n f (hb.at h)
  have sg1 := fun (w1 : World) (h : Below w.heap.size w w1) => IntRes.go (sign_any s (.slice A ka ca) m e w1 (ha.at h))
  have bl1 := fun (w1 : World) (h : Below w.heap.size w w1) (q : Later w1) => bits_later q A ka ca m (ha.at h) hm
  have bl2 := fun (w1 : World) (h : Below w.heap.size w w1) (q : Later w1) => bits_later q B kb cb n (hb.at h) hn
  have lv := fun (w1 : World) (h : Below w.heap.size w w1) => LevelRes.go (level_any s t A ka ca B kb cb m n e f w1 (ha.at h) (hb.at h) hm hn e0 e1 f0 f1)
  clear ha hb hm hn hmn
  by_cases hs : sgnI s m = sgnI t n
  · by_cases h0 : sgnI s m = 0
    · rw [ordN_null hs h0]
      clear bl1 bl2 lv
      rw [← hs] at sl2
      rw [h0] at sl1 sl2 sg1
      have S1 := Lib.hid sl1
      have S2 := Lib.hid sl2
      have G1 := Lib.hid sg1
      clear sl1 sl2 sg1 hs h0
      go_enter Try.func153, Try.ntmps153
      go_wp2_with (fail)
      refine wp_region_later (by kernel_rfl) (by kernel_rfl) ?_
      repeat (go_big_quiet_step (first | (go_at_call 152; first | (with_reducible exact S1.out _ (by (repeat' (first | (with_reducible exact Below.refl _ _) | (with_reducible assumption) | (with_reducible refine Later.belowOf _ ?_ ?_) | (with_reducible refine Below.alloc ?_ ?_ _) | (with_reducible refine Below.setCell ?_ ?_ _) | (with_reducible refine Below.drewN' _ ?_) | (with_reducible refine Below.drew ?_) | (with_reducible exact Ge.le) | go_size))) _) | (with_reducible exact S2.out _ (by (repeat' (first | (with_reducible exact Below.refl _ _) | (with_reducible assumption) | (with_reducible refine Later.belowOf _ ?_ ?_) | (with_reducible refine Below.alloc ?_ ?_ _) | (with_reducible refine Below.setCell ?_ ?_ _) | (with_reducible refine Below.drewN' _ ?_) | (with_reducible refine Below.drew ?_) | (with_reducible exact Ge.le) | go_size))) _))))
      (refine wpQuiet_nil ?_; rintro _ ⟨nq, rfl⟩)
      go_wp2_with (go_at_call 152; refine (G1.out _ (by (repeat' (first | (with_reducible exact Below.refl _ _) | (with_reducible assumption) | (with_reducible refine Later.belowOf _ ?_ ?_) | (with_reducible refine Below.alloc ?_ ?_ _) | (with_reducible refine Below.setCell ?_ ?_ _) | (with_reducible refine Below.drewN' _ ?_) | (with_reducible refine Below.drew ?_) | (with_reducible exact Ge.le) | go_size)))).mono ?_; rintro _ _ ⟨q1, rfl, rfl⟩)
      go_ret
      exact ⟨rfl, by (repeat' (first | (with_reducible exact Below.refl _ _) | (with_reducible assumption) | (with_reducible refine Later.belowOf _ ?_ ?_) | (with_reducible refine Below.alloc ?_ ?_ _) | (with_reducible refine Below.setCell ?_ ?_ _) | (with_reducible refine Below.drewN' _ ?_) | (with_reducible refine Below.drew ?_) | (with_reducible exact Ge.le) | go_size))⟩
    · rw [ordN_bits hs h0]
      have m0 := sgn_ne h0
      rw [← hs] at sl2
      have z0 : (sgnI s m == 0) = false := by rw [beq_eq_false_iff_ne]; exact h0
      generalize hsg : sgnI s m = a at *
      have S1 := Lib.hid sl1
      have S2 := Lib.hid sl2
      have G1 := Lib.hid sg1
      have B1 := Lib.hid bl1
      have B2 := Lib.hid bl2
      have LV := Lib.hid lv
      clear sl1 sl2 sg1 hs h0 bl1 bl2 lv hsg m0
      have hcm := cmpI_range (m * 2 ^ (e - min e f).toNat) (n * 2 ^ (f - min e f).toNat)
      generalize hx : (blen m : Int) = x at *
      generalize hy : (blen n : Int) = y at *
      have HX := Lib.hid hx
      have HY := Lib.hid hy
      have x2 : 0 ≤ x := by omega
      have y2 : 0 ≤ y := by omega
      have x3 : x ≤ 960000 := by omega
      have y3 : y ≤ 960000 := by omega
      clear hx hy x1 y1
      by_cases c1 : x + e < y + f
      · rw [if_pos c1]
        clear hcm LV HMN
        cases s
        all_goals
          go_enter Try.func153, Try.ntmps153
          go_wp2_with (fail)
          refine wp_region_later (by kernel_rfl) (by kernel_rfl) ?_
          repeat (go_big_quiet_step (first | (go_at_call 152; first | (with_reducible exact S1.out _ (by (repeat' (first | (with_reducible exact Below.refl _ _) | (with_reducible assumption) | (with_reducible refine Later.belowOf _ ?_ ?_) | (with_reducible refine Below.alloc ?_ ?_ _) | (with_reducible refine Below.setCell ?_ ?_ _) | (with_reducible refine Below.drewN' _ ?_) | (with_reducible refine Below.drew ?_) | (with_reducible exact Ge.le) | go_size))) _) | (with_reducible exact S2.out _ (by (repeat' (first | (with_reducible exact Below.refl _ _) | (with_reducible assumption) | (with_reducible refine Later.belowOf _ ?_ ?_) | (with_reducible refine Below.alloc ?_ ?_ _) | (with_reducible refine Below.setCell ?_ ?_ _) | (with_reducible refine Below.drewN' _ ?_) | (with_reducible refine Below.drew ?_) | (with_reducible exact Ge.le) | go_size))) _))))
          (refine wpQuiet_nil ?_; rintro _ ⟨nq, rfl⟩)
          go_wp2_with (go_at_call 152; refine (G1.out _ (by (repeat' (first | (with_reducible exact Below.refl _ _) | (with_reducible assumption) | (with_reducible refine Later.belowOf _ ?_ ?_) | (with_reducible refine Below.alloc ?_ ?_ _) | (with_reducible refine Below.setCell ?_ ?_ _) | (with_reducible refine Below.drewN' _ ?_) | (with_reducible refine Below.drew ?_) | (with_reducible exact Ge.le) | go_size)))).mono ?_; rintro _ _ ⟨q1, rfl, rfl⟩)
          refine wp_region_later (by kernel_rfl) (by kernel_rfl) ?_
          repeat (go_big_quiet_step (first | (go_at_call 156; first | (with_reducible exact B1.out _ (by (repeat' (first | (with_reducible exact Below.refl _ _) | (with_reducible assumption) | (with_reducible refine Later.belowOf _ ?_ ?_) | (with_reducible refine Below.alloc ?_ ?_ _) | (with_reducible refine Below.setCell ?_ ?_ _) | (with_reducible refine Below.drewN' _ ?_) | (with_reducible refine Below.drew ?_) | (with_reducible exact Ge.le) | go_size))) _) | (with_reducible exact B2.out _ (by (repeat' (first | (with_reducible exact Below.refl _ _) | (with_reducible assumption) | (with_reducible refine Later.belowOf _ ?_ ?_) | (with_reducible refine Below.alloc ?_ ?_ _) | (with_reducible refine Below.setCell ?_ ?_ _) | (with_reducible refine Below.drewN' _ ?_) | (with_reducible refine Below.drew ?_) | (with_reducible exact Ge.le) | go_size))) _))))
          (refine wpQuiet_nil ?_; rintro _ ⟨nq, rfl⟩)
          go_wp2
          refine wp_region_later (by kernel_rfl) (by kernel_rfl) ?_
          repeat (go_big_quiet_step (first | (go_at_call 156; first | (with_reducible exact B1.out _ (by (repeat' (first | (with_reducible exact Below.refl _ _) | (with_reducible assumption) | (with_reducible refine Later.belowOf _ ?_ ?_) | (with_reducible refine Below.alloc ?_ ?_ _) | (with_reducible refine Below.setCell ?_ ?_ _) | (with_reducible refine Below.drewN' _ ?_) | (with_reducible refine Below.drew ?_) | (with_reducible exact Ge.le) | go_size))) _) | (with_reducible exact B2.out _ (by (repeat' (first | (with_reducible exact Below.refl _ _) | (with_reducible assumption) | (with_reducible refine Later.belowOf _ ?_ ?_) | (with_reducible refine Below.alloc ?_ ?_ _) | (with_reducible refine Below.setCell ?_ ?_ _) | (with_reducible refine Below.drewN' _ ?_) | (with_reducible refine Below.drew ?_) | (with_reducible exact Ge.le) | go_size))) _))))
          (refine wpQuiet_nil ?_; rintro _ ⟨nq, rfl⟩)
          go_wp2
          go_ret
          exact ⟨rfl, by (repeat' (first | (with_reducible exact Below.refl _ _) | (with_reducible assumption) | (with_reducible refine Later.belowOf _ ?_ ?_) | (with_reducible refine Below.alloc ?_ ?_ _) | (with_reducible refine Below.setCell ?_ ?_ _) | (with_reducible refine Below.drewN' _ ?_) | (with_reducible refine Below.drew ?_) | (with_reducible exact Ge.le) | go_size))⟩
      · rw [if_neg c1]
        by_cases c2 : y + f < x + e
        · rw [if_pos c2]
          clear hcm LV HMN
          cases s
          all_goals
            go_enter Try.func153, Try.ntmps153
            go_wp2_with (fail)
            refine wp_region_later (by kernel_rfl) (by kernel_rfl) ?_
            repeat (go_big_quiet_step (first | (go_at_call 152; first | (with_reducible exact S1.out _ (by (repeat' (first | (with_reducible exact Below.refl _ _) | (with_reducible assumption) | (with_reducible refine Later.belowOf _ ?_ ?_) | (with_reducible refine Below.alloc ?_ ?_ _) | (with_reducible refine Below.setCell ?_ ?_ _) | (with_reducible refine Below.drewN' _ ?_) | (with_reducible refine Below.drew ?_) | (with_reducible exact Ge.le) | go_size))) _) | (with_reducible exact S2.out _ (by (repeat' (first | (with_reducible exact Below.refl _ _) | (with_reducible assumption) | (with_reducible refine Later.belowOf _ ?_ ?_) | (with_reducible refine Below.alloc ?_ ?_ _) | (with_reducible refine Below.setCell ?_ ?_ _) | (with_reducible refine Below.drewN' _ ?_) | (with_reducible refine Below.drew ?_) | (with_reducible exact Ge.le) | go_size))) _))))
            (refine wpQuiet_nil ?_; rintro _ ⟨nq, rfl⟩)
            go_wp2_with (go_at_call 152; refine (G1.out _ (by (repeat' (first | (with_reducible exact Below.refl _ _) | (with_reducible assumption) | (with_reducible refine Later.belowOf _ ?_ ?_) | (with_reducible refine Below.alloc ?_ ?_ _) | (with_reducible refine Below.setCell ?_ ?_ _) | (with_reducible refine Below.drewN' _ ?_) | (with_reducible refine Below.drew ?_) | (with_reducible exact Ge.le) | go_size)))).mono ?_; rintro _ _ ⟨q1, rfl, rfl⟩)
            refine wp_region_later (by kernel_rfl) (by kernel_rfl) ?_
            repeat (go_big_quiet_step (first | (go_at_call 156; first | (with_reducible exact B1.out _ (by (repeat' (first | (with_reducible exact Below.refl _ _) | (with_reducible assumption) | (with_reducible refine Later.belowOf _ ?_ ?_) | (with_reducible refine Below.alloc ?_ ?_ _) | (with_reducible refine Below.setCell ?_ ?_ _) | (with_reducible refine Below.drewN' _ ?_) | (with_reducible refine Below.drew ?_) | (with_reducible exact Ge.le) | go_size))) _) | (with_reducible exact B2.out _ (by (repeat' (first | (with_reducible exact Below.refl _ _) | (with_reducible assumption) | (with_reducible refine Later.belowOf _ ?_ ?_) | (with_reducible refine Below.alloc ?_ ?_ _) | (with_reducible refine Below.setCell ?_ ?_ _) | (with_reducible refine Below.drewN' _ ?_) | (with_reducible refine Below.drew ?_) | (with_reducible exact Ge.le) | go_size))) _))))
            (refine wpQuiet_nil ?_; rintro _ ⟨nq, rfl⟩)
            go_wp2
            refine wp_region_later (by kernel_rfl) (by kernel_rfl) ?_
            repeat (go_big_quiet_step (first | (go_at_call 156; first | (with_reducible exact B1.out _ (by (repeat' (first | (with_reducible exact Below.refl _ _) | (with_reducible assumption) | (with_reducible refine Later.belowOf _ ?_ ?_) | (with_reducible refine Below.alloc ?_ ?_ _) | (with_reducible refine Below.setCell ?_ ?_ _) | (with_reducible refine Below.drewN' _ ?_) | (with_reducible refine Below.drew ?_) | (with_reducible exact Ge.le) | go_size))) _) | (with_reducible exact B2.out _ (by (repeat' (first | (with_reducible exact Below.refl _ _) | (with_reducible assumption) | (with_reducible refine Later.belowOf _ ?_ ?_) | (with_reducible refine Below.alloc ?_ ?_ _) | (with_reducible refine Below.setCell ?_ ?_ _) | (with_reducible refine Below.drewN' _ ?_) | (with_reducible refine Below.drew ?_) | (with_reducible exact Ge.le) | go_size))) _))))
            (refine wpQuiet_nil ?_; rintro _ ⟨nq, rfl⟩)
            go_wp2
            go_ret
            exact ⟨rfl, by (repeat' (first | (with_reducible exact Below.refl _ _) | (with_reducible assumption) | (with_reducible refine Later.belowOf _ ?_ ?_) | (with_reducible refine Below.alloc ?_ ?_ _) | (with_reducible refine Below.setCell ?_ ?_ _) | (with_reducible refine Below.drewN' _ ?_) | (with_reducible refine Below.drew ?_) | (with_reducible exact Ge.le) | go_size))⟩
        · rw [if_neg c2]
          have hxy : x + e = y + f := by omega
          obtain ⟨hm2, hn2⟩ := HMN.out hxy
          have hcp := fun (w1 : World) (A' : Option Addr) (k' c' : Nat) (B' : Option Addr) (l' d' : Nat) (h1 : Big w1 (.slice A' k' c') (m * 2 ^ (e - min e f).toNat)) (h2 : Big w1 (.slice B' l' d') (n * 2 ^ (f - min e f).toNat)) => IntRes.go (cmp_big h1 h2 hm2 hn2)
          have CP := Lib.hid hcp
          clear hcp
          obtain ⟨g, hg⟩ : ∃ g, g = min e f := ⟨_, rfl⟩
          rw [← hg] at LV CP hcm ⊢
          obtain ⟨M, hM⟩ : ∃ M, M = m * 2 ^ (e - g).toNat := ⟨_, rfl⟩
          obtain ⟨N, hN⟩ : ∃ N, N = n * 2 ^ (f - g).toNat := ⟨_, rfl⟩
          rw [← hM] at LV CP hcm ⊢
          rw [← hN] at LV CP hcm ⊢
          generalize cmpI M N = r at *
          clear hm2 hn2 HMN hg hM hN
          cases s
          all_goals
            go_enter Try.func153, Try.ntmps153
            go_wp2_with (fail)
            refine wp_region_later (by kernel_rfl) (by kernel_rfl) ?_
            repeat (go_big_quiet_step (first | (go_at_call 152; first | (with_reducible exact S1.out _ (by (repeat' (first | (with_reducible exact Below.refl _ _) | (with_reducible assumption) | (with_reducible refine Later.belowOf _ ?_ ?_) | (with_reducible refine Below.alloc ?_ ?_ _) | (with_reducible refine Below.setCell ?_ ?_ _) | (with_reducible refine Below.drewN' _ ?_) | (with_reducible refine Below.drew ?_) | (with_reducible exact Ge.le) | go_size))) _) | (with_reducible exact S2.out _ (by (repeat' (first | (with_reducible exact Below.refl _ _) | (with_reducible assumption) | (with_reducible refine Later.belowOf _ ?_ ?_) | (with_reducible refine Below.alloc ?_ ?_ _) | (with_reducible refine Below.setCell ?_ ?_ _) | (with_reducible refine Below.drewN' _ ?_) | (with_reducible refine Below.drew ?_) | (with_reducible exact Ge.le) | go_size))) _))))
            (refine wpQuiet_nil ?_; rintro _ ⟨nq, rfl⟩)
            go_wp2_with (go_at_call 152; refine (G1.out _ (by (repeat' (first | (with_reducible exact Below.refl _ _) | (with_reducible assumption) | (with_reducible refine Later.belowOf _ ?_ ?_) | (with_reducible refine Below.alloc ?_ ?_ _) | (with_reducible refine Below.setCell ?_ ?_ _) | (with_reducible refine Below.drewN' _ ?_) | (with_reducible refine Below.drew ?_) | (with_reducible exact Ge.le) | go_size)))).mono ?_; rintro _ _ ⟨q1, rfl, rfl⟩)
            refine wp_region_later (by kernel_rfl) (by kernel_rfl) ?_
            repeat (go_big_quiet_step (first | (go_at_call 156; first | (with_reducible exact B1.out _ (by (repeat' (first | (with_reducible exact Below.refl _ _) | (with_reducible assumption) | (with_reducible refine Later.belowOf _ ?_ ?_) | (with_reducible refine Below.alloc ?_ ?_ _) | (with_reducible refine Below.setCell ?_ ?_ _) | (with_reducible refine Below.drewN' _ ?_) | (with_reducible refine Below.drew ?_) | (with_reducible exact Ge.le) | go_size))) _) | (with_reducible exact B2.out _ (by (repeat' (first | (with_reducible exact Below.refl _ _) | (with_reducible assumption) | (with_reducible refine Later.belowOf _ ?_ ?_) | (with_reducible refine Below.alloc ?_ ?_ _) | (with_reducible refine Below.setCell ?_ ?_ _) | (with_reducible refine Below.drewN' _ ?_) | (with_reducible refine Below.drew ?_) | (with_reducible exact Ge.le) | go_size))) _))))
            (refine wpQuiet_nil ?_; rintro _ ⟨nq, rfl⟩)
            go_wp2
            refine wp_region_later (by kernel_rfl) (by kernel_rfl) ?_
            repeat (go_big_quiet_step (first | (go_at_call 156; first | (with_reducible exact B1.out _ (by (repeat' (first | (with_reducible exact Below.refl _ _) | (with_reducible assumption) | (with_reducible refine Later.belowOf _ ?_ ?_) | (with_reducible refine Below.alloc ?_ ?_ _) | (with_reducible refine Below.setCell ?_ ?_ _) | (with_reducible refine Below.drewN' _ ?_) | (with_reducible refine Below.drew ?_) | (with_reducible exact Ge.le) | go_size))) _) | (with_reducible exact B2.out _ (by (repeat' (first | (with_reducible exact Below.refl _ _) | (with_reducible assumption) | (with_reducible refine Later.belowOf _ ?_ ?_) | (with_reducible refine Below.alloc ?_ ?_ _) | (with_reducible refine Below.setCell ?_ ?_ _) | (with_reducible refine Below.drewN' _ ?_) | (with_reducible refine Below.drew ?_) | (with_reducible exact Ge.le) | go_size))) _))))
            (refine wpQuiet_nil ?_; rintro _ ⟨nq, rfl⟩)
            go_wp2_with (first | (go_at_call 136; refine (LV.out _ (by (repeat' (first | (with_reducible exact Below.refl _ _) | (with_reducible assumption) | (with_reducible refine Later.belowOf _ ?_ ?_) | (with_reducible refine Below.alloc ?_ ?_ _) | (with_reducible refine Below.setCell ?_ ?_ _) | (with_reducible refine Below.drewN' _ ?_) | (with_reducible refine Below.drew ?_) | (with_reducible exact Ge.le) | go_size)))).mono ?_; rintro _ _ ⟨A', k', c', B', l', d', q3, hq1, hq2, rfl, rfl⟩) | (go_at_call 138; refine (CP.out _ _ _ _ _ _ _ (by have h1 := hq1.out; (repeat (first | (with_reducible assumption) | (with_reducible refine Big.drew ?_) | (with_reducible refine Big.drewN ?_ _) | (with_reducible refine Big.alloc ?_ _) | (with_reducible refine Big.later ?_ _) | (with_reducible refine Big.setCell ?_ _ (by go_simp))))) (by have h2 := hq2.out; (repeat (first | (with_reducible assumption) | (with_reducible refine Big.drew ?_) | (with_reducible refine Big.drewN ?_ _) | (with_reducible refine Big.alloc ?_ _) | (with_reducible refine Big.later ?_ _) | (with_reducible refine Big.setCell ?_ _ (by go_simp)))))).mono ?_; rintro _ _ ⟨q5, rfl, rfl⟩))
            go_ret
            first
              | exact ⟨rfl, by (repeat' (first | (with_reducible exact Below.refl _ _) | (with_reducible assumption) | (with_reducible refine Later.belowOf _ ?_ ?_) | (with_reducible refine Below.alloc ?_ ?_ _) | (with_reducible refine Below.setCell ?_ ?_ _) | (with_reducible refine Below.drewN' _ ?_) | (with_reducible refine Below.drew ?_) | (with_reducible exact Ge.le) | go_size))⟩
              | exact ⟨by show Ending.returned (.int .i64 (-r)) = _; exact ret_int (by omega), by (repeat' (first | (with_reducible exact Below.refl _ _) | (with_reducible assumption) | (with_reducible refine Later.belowOf _ ?_ ?_) | (with_reducible refine Below.alloc ?_ ?_ _) | (with_reducible refine Below.setCell ?_ ?_ _) | (with_reducible refine Below.drewN' _ ?_) | (with_reducible refine Below.drew ?_) | (with_reducible exact Ge.le) | go_size))⟩
  · rw [ordN_sgn hs]
    have n1 : (sgnI s m != sgnI t n) = true := by simp [hs]
    clear bl1 bl2 lv sg1
    generalize sgnI s m = a at *
    generalize sgnI t n = b at *
    have S1 := Lib.hid sl1
    have S2 := Lib.hid sl2
    clear sl1 sl2
    by_cases hlt : a < b
    all_goals
      first | rw [if_pos hlt] | rw [if_neg hlt]
      clear hs
      go_enter Try.func153, Try.ntmps153
      go_wp2_with (fail)
      refine wp_region_later (by kernel_rfl) (by kernel_rfl) ?_
      repeat (go_big_quiet_step (first | (go_at_call 152; first | (with_reducible exact S1.out _ (by (repeat' (first | (with_reducible exact Below.refl _ _) | (with_reducible assumption) | (with_reducible refine Later.belowOf _ ?_ ?_) | (with_reducible refine Below.alloc ?_ ?_ _) | (with_reducible refine Below.setCell ?_ ?_ _) | (with_reducible refine Below.drewN' _ ?_) | (with_reducible refine Below.drew ?_) | (with_reducible exact Ge.le) | go_size))) _) | (with_reducible exact S2.out _ (by (repeat' (first | (with_reducible exact Below.refl _ _) | (with_reducible assumption) | (with_reducible refine Later.belowOf _ ?_ ?_) | (with_reducible refine Below.alloc ?_ ?_ _) | (with_reducible refine Below.setCell ?_ ?_ _) | (with_reducible refine Below.drewN' _ ?_) | (with_reducible refine Below.drew ?_) | (with_reducible exact Ge.le) | go_size))) _))))
      (refine wpQuiet_nil ?_; rintro _ ⟨nq, rfl⟩)
      go_wp2_with (fail)
      refine wp_region_later (by kernel_rfl) (by kernel_rfl) ?_
      repeat (go_big_quiet_step (first | (go_at_call 152; first | (with_reducible exact S1.out _ (by (repeat' (first | (with_reducible exact Below.refl _ _) | (with_reducible assumption) | (with_reducible refine Later.belowOf _ ?_ ?_) | (with_reducible refine Below.alloc ?_ ?_ _) | (with_reducible refine Below.setCell ?_ ?_ _) | (with_reducible refine Below.drewN' _ ?_) | (with_reducible refine Below.drew ?_) | (with_reducible exact Ge.le) | go_size))) _) | (with_reducible exact S2.out _ (by (repeat' (first | (with_reducible exact Below.refl _ _) | (with_reducible assumption) | (with_reducible refine Later.belowOf _ ?_ ?_) | (with_reducible refine Below.alloc ?_ ?_ _) | (with_reducible refine Below.setCell ?_ ?_ _) | (with_reducible refine Below.drewN' _ ?_) | (with_reducible refine Below.drew ?_) | (with_reducible exact Ge.le) | go_size))) _))))
      (refine wpQuiet_nil ?_; rintro _ ⟨nq, rfl⟩)
      go_wp2
      go_ret
      exact ⟨rfl, by (repeat' (first | (with_reducible exact Below.refl _ _) | (with_reducible assumption) | (with_reducible refine Later.belowOf _ ?_ ?_) | (with_reducible refine Below.alloc ?_ ?_ _) | (with_reducible refine Below.setCell ?_ ?_ _) | (with_reducible refine Below.drewN' _ ?_) | (with_reducible refine Below.drew ?_) | (with_reducible exact Ge.le) | go_size))⟩

/-- **The order of two numbers' amounts.** -/
theorem order_any {K : Int} (s t : Bool) (A : Option Addr) (ka ca : Nat) (B : Option Addr) (kb cb : Nat) (m n : Nat) (e f : Int) (w : World) (ha : BigS w (.slice A ka ca) m) (hb : BigS w (.slice B kb cb) n) (hm : m < bp 5000) (hn : n < bp 5000)
    (e0 : -100000 ≤ e) (e1 : e ≤ 100000) (f0 : -100000 ≤ f) (f1 : f ≤ 100000) (he : 0 ≤ e + K) (hf : 0 ≤ f + K) :
    Calls Try.prog 153 #[(.agg #[.bool s, (.slice A ka ca), .int .i64 e]), (.agg #[.bool t, (.slice B kb cb), .int .i64 f])] w (IntRes (ordI (nv K s m e) (nv K t n f)) w) := by
  rw [← ordN_eq he hf]
  have l5 : bp 5000 ≤ bp 30000 := bp_le (by decide)
  refine orderN_any s t A ka ca B kb cb m n e f w ha hb (Nat.lt_of_lt_of_le hm l5) (Nat.lt_of_lt_of_le hn l5) ?_ e0 e1 f0 f1
  intro hbits
  have size : ∀ (m n : Nat) (e f : Int), m < bp 5000 → n < bp 5000 → (blen m : Int) + e = blen n + f → m * 2 ^ (e - min e f).toNat < bp 30000 := by
    intro m n e f hm hn hb
    by_cases hm0 : m = 0
    · subst hm0; rw [Nat.zero_mul]; exact bp_pos _
    · by_cases c : e ≤ f
      · rw [show (e - min e f).toNat = 0 by omega, Nat.pow_zero, Nat.mul_one]; exact Nat.lt_of_lt_of_le hm l5
      · have h1 := blen_lt m
        have h2 : blen n ≤ 160000 := by
          rw [bp_pw, pw_eq] at hn
          have := blen_le hn
          omega
        have a1 : m * 2 ^ (e - min e f).toNat < 2 ^ blen m * 2 ^ (e - min e f).toNat := Nat.mul_lt_mul_of_pos_right h1 (Nat.two_pow_pos _)
        rw [← Nat.pow_add, show blen m + (e - min e f).toNat = blen n by omega] at a1
        refine Nat.lt_of_lt_of_le a1 ?_
        rw [bp_pw, ← pw_eq]
        exact pw_le (by omega)
  refine ⟨size m n e f hm hn hbits, ?_⟩
  rw [show min e f = min f e by omega]
  exact size n m f e hn hm hbits.symm
end Go.Proofs.Ytjdccbigaahkeaa
