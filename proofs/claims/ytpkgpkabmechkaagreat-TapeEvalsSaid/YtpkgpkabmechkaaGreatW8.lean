/- Contracts: rounding. -/
import Derived.Test.YtpkgpkabmechkaaGreatW5
import Derived.Test.YtpkgpkabmechkaaGreatFlB
namespace Go.Proofs.YtpkgpkabmechkaaGreat
set_option linter.unusedSimpArgs false
set_option linter.unusedVariables false
open Go.RowKit
open Fl

theorem rungOf_clamp (N D : Nat) (dir : Int) : rungOf N D (min (max dir (-1)) 1) = rungOf N D dir := by
  unfold rungOf
  have e1 : (min (max dir (-1)) 1 < 0) ↔ dir < 0 := by omega
  have e2 : (0 < min (max dir (-1)) 1) ↔ 0 < dir := by omega
  simp only [e1, e2]

/-- V's length. -/
theorem lenI_spec {hi lo : Int} (h0 : 0 ≤ hi) (h1 : hi ≤ 18446744073709551615) (h2 : 0 ≤ lo) (h3 : lo ≤ 18446744073709551615) :
    ∃ L : Nat, lenI hi lo = L ∧ L ≤ 128 ∧ (hi * 18446744073709551616 + lo).toNat < 2 ^ L ∧ (0 < hi * 18446744073709551616 + lo → 1 ≤ L ∧ 2 ^ (L - 1) ≤ (hi * 18446744073709551616 + lo).toNat) := by
  obtain ⟨H, rfl⟩ := Int.eq_ofNat_of_zero_le h0
  obtain ⟨Lo, rfl⟩ := Int.eq_ofNat_of_zero_le h2
  have hV : ((H : Int) * 18446744073709551616 + (Lo : Int)).toNat = H * 18446744073709551616 + Lo := by omega
  rw [hV]
  unfold lenI
  rw [Int.toNat_natCast, Int.toNat_natCast]
  by_cases c : 0 < (H : Int)
  · rw [if_pos c]
    have b1 := blen_lt H
    have b2 := blen_ge (n := H) (by omega)
    have b3 := blen_pos (n := H) (by omega)
    have b4 := blen_le (n := H) (k := 64) (by omega)
    have e64 : (2 : Nat) ^ 64 = 18446744073709551616 := by decide
    refine ⟨64 + blen H, by omega, by omega, ?_, fun _ => ⟨by omega, ?_⟩⟩
    · rw [Nat.pow_add, e64]; omega
    · rw [show 64 + blen H - 1 = 64 + (blen H - 1) by omega, Nat.pow_add, e64]; omega
  · rw [if_neg c]
    have hH : H = 0 := by omega
    subst hH
    refine ⟨blen Lo, rfl, ?_, ?_, ?_⟩
    · have := blen_le (n := Lo) (k := 64) (by omega); omega
    · have := blen_lt Lo; omega
    · intro h
      have b2 := blen_ge (n := Lo) (by omega)
      have b3 := blen_pos (n := Lo) (by omega)
      exact ⟨by omega, by omega⟩

/-- What the bits and what is lost are, of N / D at the scale E. -/
def Cutd (N D E : Nat) (q l : Int) : Prop := LostIs l N D E q.toNat ∧ 0 ≤ q ∧ q ≤ 9007199254740991 ∧ (E = 0 ∨ 4503599627370496 ≤ q) ∧ 0 ≤ l ∧ l ≤ 3

theorem lostI_range (V : Int) (more : Bool) (n : Nat) : 0 ≤ lostI V more n ∧ lostI V more n ≤ 3 := by
  unfold lostI; repeat' split
  all_goals omega

theorem Cutd.made {N D E : Nat} {q l e dir : Int} (h : Cutd N D E q l) (hD : 0 < D) (he : e = (E : Int) - 1074) : madeR (q + incI l q.toNat dir) e dir = rungOf N D dir := by
  obtain ⟨h1, h2, h3, h4, h5, h6⟩ := h
  rw [← round_lost dir h1 hD (by unfold BIN; omega) (by unfold BIN; omega)]
  have hi := incI_le l q.toNat dir
  unfold madeR
  have e1 : (e + 1074).toNat = E := by omega
  have e2 : (q + (incI l q.toNat dir : Int)).toNat = q.toNat + incI l q.toNat dir := by omega
  rw [e1, e2]

theorem made_fin0 {N D : Nat} {q l e c : Int} (H : madeR (q + incI l q.toNat c) e c = rungOf N D c) (hi : incI l q.toNat c = 0) : madeR q e c = rungOf N D c := by
  rw [hi] at H; simpa using H
theorem made_fin1 {N D : Nat} {q l e c : Int} (H : madeR (q + incI l q.toNat c) e c = rungOf N D c) (hi : incI l q.toNat c = 1) : madeR (q + 1) e c = rungOf N D c := by
  rw [hi] at H; exact H

/-- One of three ways to the bits. -/
theorem cutd_of {V a b N D E : Nat} {more : Bool} {hi lo e S : Int} {L : Nat} (hA : Amount V more a b N D) (hab : e + 1074 = (a : Int) - b) (hm : more = true → 9007199254740992 ≤ (V : Int)) (hD : 0 < D)
    (h0 : 0 ≤ hi) (h1 : hi ≤ 18446744073709551615) (h2 : 0 ≤ lo) (h3 : lo ≤ 18446744073709551615) (hV : hi * 18446744073709551616 + lo = (V : Int)) (hz : V ≠ 0)
    (hL1 : L ≤ 128) (hL2 : V < 2 ^ L) (hL3 : 1 ≤ L ∧ 2 ^ (L - 1) ≤ V) (hS : max ((L : Int) - 53) (-1074 - e) = S) (hE : e + S = (E : Int) - 1074) :
    (128 < S → Cutd N D E 0 1) ∧ (1 ≤ S → S ≤ 128 → Cutd N D E (rightI hi lo S.toNat) (lostI (V : Int) more S.toNat)) ∧ (S ≤ 0 → more = false ∧ Cutd N D E (IntKind.u64.wrap (lo * 2 ^ (-S).toNat)) 0) := by
  have shift : 1 ≤ S → LostIs (lostI V more S.toNat) N D E (V / 2 ^ S.toNat) := fun hs => lost_shift hA (by omega) (by omega) hD
  have hup : ∀ s : Nat, (L : Int) - 53 ≤ s → V / 2 ^ s < 9007199254740992 := by
    intro s hs
    rw [Nat.div_lt_iff_lt_mul (Nat.two_pow_pos s)]
    have : 2 ^ L ≤ 2 ^ (53 + s) := Nat.pow_le_pow_right (by decide) (by omega)
    rw [Nat.pow_add] at this
    have e53 : (2 : Nat) ^ 53 = 9007199254740992 := by decide
    omega
  have hdn : 1 ≤ S → E = 0 ∨ 4503599627370496 ≤ V / 2 ^ S.toNat := by
    intro hs
    by_cases h : E = 0
    · exact Or.inl h
    · right
      rw [Nat.le_div_iff_mul_le (Nat.two_pow_pos _)]
      have : 2 ^ (52 + S.toNat) ≤ 2 ^ (L - 1) := Nat.pow_le_pow_right (by decide) (by omega)
      rw [Nat.pow_add] at this
      have e52 : (2 : Nat) ^ 52 = 4503599627370496 := by decide
      omega
  have hri : 1 ≤ S → rightI hi lo S.toNat = ((V / 2 ^ S.toNat : Nat) : Int) := by
    intro hs
    have := hup S.toNat (by omega)
    unfold rightI
    rw [hV, ← pow2_cast, ← Int.natCast_ediv]
    generalize V / 2 ^ S.toNat = k at *
    omega
  refine ⟨fun hs => ?_, fun hs hs2 => ?_, fun hs => ?_⟩
  · have e0 : V / 2 ^ S.toNat = 0 := by
      apply Nat.div_eq_of_lt
      exact Nat.lt_of_lt_of_le hL2 (Nat.pow_le_pow_right (by decide) (by omega))
    have hl : lostI V more S.toNat = 1 := by
      have hlt : V < 2 ^ (S.toNat - 1) := Nat.lt_of_lt_of_le hL2 (Nat.pow_le_pow_right (by decide) (by omega))
      unfold lostI
      rw [← pow2_cast, ← Int.natCast_ediv, ← Int.natCast_emod, Nat.div_eq_of_lt hlt, Nat.mod_eq_of_lt hlt]
      have : (V : Int) ≠ 0 := by omega
      simp [this]
      omega
    have h := shift (by omega)
    rw [hl, e0] at h
    have hd := hdn (by omega)
    rw [e0] at hd
    exact ⟨h, by omega, by omega, by omega, by omega, by omega⟩
  · have h := shift hs
    have hu := hup S.toNat (by omega)
    have hd := hdn hs
    have hl := lostI_range V more S.toNat
    rw [hri hs]
    unfold Cutd
    rw [Int.toNat_natCast]
    generalize V / 2 ^ S.toNat = k at *
    exact ⟨h, by omega, by omega, by omega, hl.1, hl.2⟩
  · have hmf : more = false := by
      cases hmm : more
      · rfl
      · have h9 := hm hmm
        exfalso
        have : 2 ^ L ≤ 2 ^ 53 := Nat.pow_le_pow_right (by decide) (by omega)
        have e53 : (2 : Nat) ^ 53 = 9007199254740992 := by decide
        omega
    refine ⟨hmf, ?_⟩
    subst hmf
    obtain ⟨t, ht⟩ : ∃ t : Nat, -S = t := ⟨(-S).toNat, by omega⟩
    have htn : (-S).toNat = t := by omega
    have hv53 : V * 2 ^ t < 9007199254740992 := by
      have : V * 2 ^ t < 2 ^ L * 2 ^ t := Nat.mul_lt_mul_of_pos_right hL2 (Nat.two_pow_pos _)
      rw [← Nat.pow_add] at this
      have h2 : 2 ^ (L + t) ≤ 2 ^ 53 := Nat.pow_le_pow_right (by decide) (by omega)
      have e53 : (2 : Nat) ^ 53 = 9007199254740992 := by decide
      omega
    have hVs : V < 9007199254740992 := by have := Nat.le_mul_of_pos_right V (Nat.two_pow_pos t); omega
    have hlo : lo = (V : Int) := by omega
    have hw : IntKind.u64.wrap (lo * 2 ^ (-S).toNat) = ((V * 2 ^ t : Nat) : Int) := by
      rw [wrap64u, htn, hlo, ← pow2_cast, ← Int.natCast_mul]
      omega
    rw [hw]
    have h := lost_none (E := E) (t := t) hA (by omega)
    have hd : E = 0 ∨ 4503599627370496 ≤ V * 2 ^ t := by
      by_cases h : E = 0
      · exact Or.inl h
      · right
        have : 2 ^ (L - 1) * 2 ^ t ≤ V * 2 ^ t := Nat.mul_le_mul_right _ hL3.2
        rw [← Nat.pow_add, show L - 1 + t = 52 by omega] at this
        have e52 : (2 : Nat) ^ 52 = 4503599627370496 := by decide
        omega
    refine ⟨by rw [Int.toNat_natCast]; exact h, by omega, by omega, by omega, by omega, by omega⟩

set_option maxHeartbeats 400000 in
theorem vshifted_far (neg more : Bool) (hi lo n : Int) (e : Int) (hn0 : 129 ≤ n) :
    Gives 227 #[(.agg #[.bool neg, .int .u64 hi, .int .u64 lo, .int .i64 e, .bool more]), .int .i64 n] (.tuple #[.int .u64 0, .int .i64 1]) := by
  intro w
  go_enter Tryz.func227, Tryz.ntmps227
  go_wp2
  go_ret2
  exact ⟨rfl, by (repeat' (first | (with_reducible exact Below.refl _ _) | (with_reducible assumption) | (with_reducible refine Later.belowOf _ ?_ ?_) | (with_reducible refine Below.alloc ?_ ?_ _) | (with_reducible refine Below.setCell ?_ ?_ _) | (with_reducible refine Below.drewN' _ ?_) | (with_reducible refine Below.drew ?_) | (with_reducible exact Ge.le) | go_size))⟩

set_option maxRecDepth 100000 in
set_option maxHeartbeats 8000000 in
theorem round_any (neg more : Bool) (hi lo e dir : Int) (N D a b : Nat) (h0 : 0 ≤ hi) (h1 : hi ≤ 18446744073709551615) (h2 : 0 ≤ lo) (h3 : lo ≤ 18446744073709551615) (he0 : -6000 ≤ e) (he1 : e ≤ 6000)
    (hA : Amount (hi * 18446744073709551616 + lo).toNat more a b N D) (hab : e + 1074 = (a : Int) - b) (hm : more = true → 9007199254740992 ≤ hi * 18446744073709551616 + lo) (hD : 0 < D) :
    Gives 199 #[(.agg #[.bool neg, .int .u64 hi, .int .u64 lo, .int .i64 e, .bool more]), .int .i64 dir] (.float .f64 (signP neg (rungOf N D (if neg then -dir else dir)))) := by
  intro w
  -- the side
  have hd : rungOf N D (if neg then -dir else dir) = rungOf N D (if neg then -(min (max dir (-1)) 1) else min (max dir (-1)) 1) := by
    rw [← rungOf_clamp]
    conv => rhs; rw [← rungOf_clamp]
    congr 1
    cases neg <;> simp <;> omega
  rw [hd]
  have hc3 : min (max dir (-1)) 1 = -1 ∨ min (max dir (-1)) 1 = 0 ∨ min (max dir (-1)) 1 = 1 := by omega
  clear hd
  obtain ⟨L, hL, hL1, hL2, hL3⟩ := lenI_spec h0 h1 h2 h3
  have a1 := vlen_any neg more hi lo e h0 h1 h2 h3
  rw [hL] at a1
  obtain ⟨V, hV⟩ : ∃ V : Nat, (hi * 18446744073709551616 + lo).toNat = V := ⟨_, rfl⟩
  have hVi : hi * 18446744073709551616 + lo = (V : Int) := by omega
  rw [hV] at hA hL2 hL3
  rw [hVi] at hm hL3
  by_cases hz : V = 0
  · have hmf : more = false := by cases more; rfl; have := hm rfl; omega
    subst hmf
    have hN : N = 0 := by
      have h : N * 2 ^ b = V * 2 ^ a * D := hA
      rw [hz, Nat.zero_mul, Nat.zero_mul] at h
      rcases Nat.mul_eq_zero.1 h with h | h
      · exact h
      · have := Nat.two_pow_pos b; omega
    rw [hN, rungOf_zero D hD, signP_zero]
    have z1 : hi = 0 := by omega
    have z2 : lo = 0 := by omega
    subst z1 z2
    clear hA hab hm hL hL1 hL2 hL3 a1 hV hVi hc3 h0 h1 h2 h3 he0 he1
    go_enter Tryz.func199, Tryz.ntmps199
    go_wp2
    go_ret
    exact ⟨rfl, by (repeat' (first | (with_reducible exact Below.refl _ _) | (with_reducible assumption) | (with_reducible refine Later.belowOf _ ?_ ?_) | (with_reducible refine Below.alloc ?_ ?_ _) | (with_reducible refine Below.setCell ?_ ?_ _) | (with_reducible refine Below.drewN' _ ?_) | (with_reducible refine Below.drew ?_) | (with_reducible exact Ge.le) | go_size))⟩
  · have hLV := hL3 (by omega)
    -- not nought
    have hnz : hi ≠ 0 ∨ lo ≠ 0 := by omega
    obtain ⟨S, hS⟩ : ∃ S : Int, max ((L : Int) - 53) (-1074 - e) = S := ⟨_, rfl⟩
    obtain ⟨E, hE⟩ : ∃ E : Nat, e + S = (E : Int) - 1074 := ⟨(e + S + 1074).toNat, by omega⟩
    obtain ⟨p1, p2, p3⟩ := cutd_of hA hab hm hD h0 h1 h2 h3 hVi hz hL1 hL2 hLV hS hE
    have made : ∀ q l dir : Int, Cutd N D E q l → madeR (q + incI l q.toNat dir) (e + S) dir = rungOf N D dir := fun q l dir h => h.made hD hE
    have a2 : 1 ≤ S → S ≤ 128 → Gives 227 #[(.agg #[.bool neg, .int .u64 hi, .int .u64 lo, .int .i64 e, .bool more]), .int .i64 S] (.tuple #[.int .u64 (rightI hi lo S.toNat), .int .i64 (lostI (V : Int) more S.toNat)]) := by
      intro hs1 hs2
      have := vshifted_any neg more hi lo S e h0 h1 h2 h3 hs1 hs2
      rwa [hVi] at this
    have s1 : -52 ≤ S := by omega
    have s2 : S ≤ 7000 := by omega
    have l1 : (0 : Int) ≤ L := by omega
    have l2 : (L : Int) ≤ 128 := by omega
    have es1 : -1074 ≤ e + S := by omega
    have es2 : e + S ≤ 20000 := by omega
    have esE : e + S = -1074 ∨ E ≠ 0 := by omega
    generalize (L : Int) = L0 at *
    have ME := Lib.hid made
    have P1 := Lib.hid p1
    have P2 := Lib.hid p2
    have P3 := Lib.hid p3
    have A2 := Lib.hid a2
    have EE := Lib.hid esE
    clear hA hab hm hL hL2 hL3 hL1 hLV hV hVi hz hE h0 h1 h2 h3 p1 p2 p3 made a2 esE
    go_enter Tryz.func199, Tryz.ntmps199
    go_upto_region 2 with (fail)
    go_cut [23] (fun v wc => v = .bool false ∧ wc = w.alloc (.cells #[.bool neg, .int .u64 hi, .int .u64 lo, .int .i64 e, .bool more] 164))
    case first =>
      by_cases hh : hi = 0
      · have hl : (lo == 0) = false := by rw [beq_eq_false_iff_ne]; omega
        subst hh
        go_wp2
        go_meet
        case rel => exact ⟨rfl, rfl⟩
      · have hl : (hi == 0) = false := by rw [beq_eq_false_iff_ne]; omega
        go_wp2
        go_meet
        case rel => exact ⟨rfl, rfl⟩
    case rest =>
      obtain ⟨rfl, rfl⟩ := hcut
      go_wp2_with (fail)
      refine wp_region_later (by kernel_rfl) (by kernel_rfl) ?_
      repeat (go_big_quiet_step ((go_at_call 226; (with_reducible exact a1.later _))))
      (refine wpQuiet_nil ?_; rintro _ ⟨nq, rfl⟩)
      clear a1 hS l1 l2
      go_upto_if 32 with (fail)
      go_cut [6, 7] (fun v6 v7 wc => ∃ (q l : Int) (k : Later nq.val), v6 = .int .u64 q ∧ v7 = .int .i64 l ∧ Hid (Cutd N D E q l) ∧ wc = k.val)
      case first =>
        by_cases c1 : S ≤ 0
        · obtain ⟨rfl, hc⟩ := P3.out c1
          have HC := Lib.hid hc
          clear hc P3 P1 P2 A2
          go_wp2
          go_meet
          case rel => exact ⟨_, _, ⟨nq.val, Below.refl _ _⟩, rfl, rfl, HC, rfl⟩
        · by_cases c2 : S ≤ 128
          · have hc := P2.out (by omega) c2
            have HC := Lib.hid hc
            have a2 := A2.out (by omega) c2
            clear hc P3 P1 P2 A2
            go_wp2_with (go_at_call 227; refine (a2.go _).mono ?_; rintro _ _ ⟨k, rfl, rfl⟩)
            go_meet
            case rel => exact ⟨_, _, k, rfl, rfl, HC, rfl⟩
          · have hc := P1.out (by omega)
            have HC := Lib.hid hc
            clear hc P3 P1 P2 A2
            have a3 := vshifted_far neg more hi lo S e (by omega)
            go_wp2_with (go_at_call 227; refine (a3.go _).mono ?_; rintro _ _ ⟨k, rfl, rfl⟩)
            go_meet
            case rel => exact ⟨_, _, k, rfl, rfl, HC, rfl⟩
      case rest =>
        clear P1 P2 P3 A2
        obtain ⟨q, l, k, rfl, rfl, HC, rfl⟩ := hcut
        have hq := HC.out
        obtain ⟨_, q0, q1, qE, l0, l1⟩ := hq
        have hm := fun d : Int => ME.out q l d HC.out
        have b0 : ∀ dd : Int, Gives 228 #[(.agg #[.bool neg, .int .u64 hi, .int .u64 lo, .int .i64 e, .bool more]), .int .u64 q, .int .i64 (e + S), .int .i64 dd] (.float .f64 (signP neg (madeR q (e + S) dd))) :=
          fun dd => made_any neg more hi lo e q (e + S) dd (by omega) (by omega) es1 es2 (by have := EE.out; omega)
        have b1 : ∀ dd : Int, Gives 228 #[(.agg #[.bool neg, .int .u64 hi, .int .u64 lo, .int .i64 e, .bool more]), .int .u64 (q + 1), .int .i64 (e + S), .int .i64 dd] (.float .f64 (signP neg (madeR (q + 1) (e + S) dd))) :=
          fun dd => made_any neg more hi lo e (q + 1) (e + S) dd (by omega) (by omega) es1 es2 (by have := EE.out; omega)
        have HM := Lib.hid hm
        have B0 := Lib.hid b0
        have B1 := Lib.hid b1
        clear hm b0 b1 ME HC EE qE es1 es2
        have hl : l = 0 ∨ l = 1 ∨ l = 2 ∨ l = 3 := by omega
        have hqo : (bits BinOp.and IntKind.u64 q 1 = 0 ∧ q.toNat % 2 = 0) ∨ (bits BinOp.and IntKind.u64 q 1 = 1 ∧ q.toNat % 2 = 1) := by rw [and_one q0 (by omega)]; omega
        clear l0 l1
        rcases hl with rfl | rfl | rfl | rfl
        · have hqp : True := trivial
          rcases hc3 with hc | hc | hc <;> cases neg
          all_goals
            rw [hc]
            go_wp2_with (go_at_call 228; first | ((with_reducible refine ((B0.out _).go _).mono ?_); rintro _ _ ⟨k2, rfl, rfl⟩) | ((with_reducible refine ((B1.out _).go _).mono ?_); rintro _ _ ⟨k2, rfl, rfl⟩))
            go_ret
            exact ⟨ret_float (by first | exact congrArg (signP _) (made_fin0 (HM.out _) (by unfold incI; simp [hqp])) | exact congrArg (signP _) (made_fin1 (HM.out _) (by unfold incI; simp [hqp]))), by (repeat' (first | (with_reducible exact Below.refl _ _) | (with_reducible assumption) | (with_reducible refine Later.belowOf _ ?_ ?_) | (with_reducible refine Below.alloc ?_ ?_ _) | (with_reducible refine Below.setCell ?_ ?_ _) | (with_reducible refine Below.drewN' _ ?_) | (with_reducible refine Below.drew ?_) | (with_reducible exact Ge.le) | go_size))⟩
        · have hqp : True := trivial
          rcases hc3 with hc | hc | hc <;> cases neg
          all_goals
            rw [hc]
            go_wp2_with (go_at_call 228; first | ((with_reducible refine ((B0.out _).go _).mono ?_); rintro _ _ ⟨k2, rfl, rfl⟩) | ((with_reducible refine ((B1.out _).go _).mono ?_); rintro _ _ ⟨k2, rfl, rfl⟩))
            go_ret
            exact ⟨ret_float (by first | exact congrArg (signP _) (made_fin0 (HM.out _) (by unfold incI; simp [hqp])) | exact congrArg (signP _) (made_fin1 (HM.out _) (by unfold incI; simp [hqp]))), by (repeat' (first | (with_reducible exact Below.refl _ _) | (with_reducible assumption) | (with_reducible refine Later.belowOf _ ?_ ?_) | (with_reducible refine Below.alloc ?_ ?_ _) | (with_reducible refine Below.setCell ?_ ?_ _) | (with_reducible refine Below.drewN' _ ?_) | (with_reducible refine Below.drew ?_) | (with_reducible exact Ge.le) | go_size))⟩
        · rcases hqo with ⟨hqo, hqp'⟩ | ⟨hqo, hqp'⟩
          all_goals
            have hqp := Lib.hid hqp'
            clear hqp'
            rcases hc3 with hc | hc | hc <;> cases neg
            all_goals
              rw [hc]
              go_wp2_with (go_at_call 228; first | ((with_reducible refine ((B0.out _).go _).mono ?_); rintro _ _ ⟨k2, rfl, rfl⟩) | ((with_reducible refine ((B1.out _).go _).mono ?_); rintro _ _ ⟨k2, rfl, rfl⟩))
              go_ret
              exact ⟨ret_float (by first | exact congrArg (signP _) (made_fin0 (HM.out _) (by unfold incI; simp [hqp.out])) | exact congrArg (signP _) (made_fin1 (HM.out _) (by unfold incI; simp [hqp.out]))), by (repeat' (first | (with_reducible exact Below.refl _ _) | (with_reducible assumption) | (with_reducible refine Later.belowOf _ ?_ ?_) | (with_reducible refine Below.alloc ?_ ?_ _) | (with_reducible refine Below.setCell ?_ ?_ _) | (with_reducible refine Below.drewN' _ ?_) | (with_reducible refine Below.drew ?_) | (with_reducible exact Ge.le) | go_size))⟩
        · have hqp : True := trivial
          rcases hc3 with hc | hc | hc <;> cases neg
          all_goals
            rw [hc]
            go_wp2_with (go_at_call 228; first | ((with_reducible refine ((B0.out _).go _).mono ?_); rintro _ _ ⟨k2, rfl, rfl⟩) | ((with_reducible refine ((B1.out _).go _).mono ?_); rintro _ _ ⟨k2, rfl, rfl⟩))
            go_ret
            exact ⟨ret_float (by first | exact congrArg (signP _) (made_fin0 (HM.out _) (by unfold incI; simp [hqp])) | exact congrArg (signP _) (made_fin1 (HM.out _) (by unfold incI; simp [hqp]))), by (repeat' (first | (with_reducible exact Below.refl _ _) | (with_reducible assumption) | (with_reducible refine Later.belowOf _ ?_ ?_) | (with_reducible refine Below.alloc ?_ ?_ _) | (with_reducible refine Below.setCell ?_ ?_ _) | (with_reducible refine Below.drewN' _ ?_) | (with_reducible refine Below.drew ?_) | (with_reducible exact Ge.le) | go_size))⟩

end Go.Proofs.YtpkgpkabmechkaaGreat

/- Contracts: floats taken apart. -/
namespace Go.Proofs.YtpkgpkabmechkaaGreat
set_option linter.unusedSimpArgs false
set_option linter.unusedVariables false
open Go.RowKit
open Fl

@[go_sem] theorem build_pa (a : Bool) (b c : Int) (w : World) : (Instr.build 155 #[(0, .bool a), (1, .int .u64 b), (2, .int .i64 c)]).run Tryz.prog w = .ok (.agg #[.bool a, .int .u64 b, .int .i64 c]) w := run_build w 155 _ _ (by kernel_rfl)
@[go_sem] theorem build_pa0 (w : World) : (Instr.build 155 #[]).run Tryz.prog w = .ok (.agg #[.bool false, .int .u64 0, .int .i64 0]) w := run_build w 155 _ _ (by kernel_rfl)

def pNeg (x : Nat) : Bool := sgn x && decide (rung x ≠ 0)
def pM (x : Nat) : Int := mag (rung x)
def pE (x : Nat) : Int := if rung x = 0 then 0 else -1074 + exn (rung x)


theorem or_bit {m : Int} (h0 : 0 ≤ m) (h1 : m ≤ 4503599627370495) : bits BinOp.or IntKind.u64 m 4503599627370496 = m + 4503599627370496 := by
  rw [u64_or _ _ h0 (by omega) (by omega) (by omega)]
  have e : (4503599627370496 : Int).toNat = 1 <<< 52 := by decide
  rw [e, Nat.or_comm, ← Nat.shiftLeft_add_eq_or_of_lt (by omega)]
  omega

theorem flt_zero {x : Nat} (h : nan x = false) : flt x 0 = pNeg x := by
  unfold flt pNeg
  have z : nan 0 = false := by decide
  have z2 : idx 0 = 0 := by decide
  rw [h, z, z2]
  unfold idx
  cases sgn x
  · simp
  · rw [Bool.eq_iff_iff]; simp <;> omega

set_option maxHeartbeats 4000000 in
theorem split_fin (x : Nat) (hx : x < 18446744073709551616) (hf : finB x = true) : Gives 224 #[(.float .f64 x)] (.tuple #[(.agg #[.bool (pNeg x), .int .u64 (pM x), .int .i64 (pE x)]), .bool true]) := by
  intro w
  have hr : rung x < 9218868437227405312 := by simpa [finB] using hf
  have hn : nan x = false := nan_false.2 (by unfold INFR; omega)
  have i1 := isInf0_any x hx
  rw [isInf0_fact hn, show infinB x = false by unfold infinB; simp; omega] at i1
  have f1 : feq x x = true := by rw [feq_self, hn]; rfl
  have f2 := flt_zero hn
  have e1 : IntKind.u64.wrap ((x : Int) * 4096) / 4096 = ((rung x % BIN : Nat) : Int) := by
    rw [wrap64u]; unfold rung BIN SW; omega
  have e2 : IntKind.u64.wrap ((x : Int) * 2) / 9007199254740992 = ((rung x / BIN : Nat) : Int) := by
    rw [wrap64u]; unfold rung BIN SW; omega
  have hB : ((rung x / BIN : Nat) : Int) ≤ 2046 := by unfold BIN; omega
  have hB0 : 0 ≤ ((rung x / BIN : Nat) : Int) := Int.natCast_nonneg _
  have hm0 : 0 ≤ ((rung x % BIN : Nat) : Int) := Int.natCast_nonneg _
  have hm1 : ((rung x % BIN : Nat) : Int) ≤ 4503599627370495 := by unfold BIN; omega
  have ho := or_bit hm0 hm1
  have hpM : pM x = if ((rung x / BIN : Nat) : Int) = 0 then ((rung x % BIN : Nat) : Int) else ((rung x % BIN : Nat) : Int) + 4503599627370496 := by
    unfold pM mag BIN; split <;> split <;> omega
  have hpE : pE x = if ((rung x / BIN : Nat) : Int) = 0 then (if ((rung x % BIN : Nat) : Int) = 0 then 0 else -1074) else ((rung x / BIN : Nat) : Int) - 1075 := by
    unfold pE exn BIN; split <;> split <;> (try split) <;> omega
  have hpN : ((rung x / BIN : Nat) : Int) = 0 → ((rung x % BIN : Nat) : Int) = 0 → pNeg x = false := by
    intro h1 h2
    unfold pNeg
    have : rung x = 0 := by unfold BIN at h1 h2; omega
    simp [this]
  generalize ((rung x / BIN : Nat) : Int) = B at *
  generalize ((rung x % BIN : Nat) : Int) = m at *
  have l : (x : Int) ≤ 18446744073709551615 := by omega
  have HM := Lib.hid hpM
  have HE := Lib.hid hpE
  have HN := Lib.hid hpN
  clear hr hn hpM hpE hpN hx hf
  by_cases c1 : B = 0
  · subst c1
    by_cases c2 : m = 0
    · subst c2
      have hM : pM x = 0 := by rw [HM.out]; rfl
      have hE : pE x = 0 := by rw [HE.out]; rfl
      have hN : pNeg x = false := HN.out rfl rfl
      rw [hM, hE, hN]
      clear HM HE HN hM hE hN
      go_enter Tryz.func224, Tryz.ntmps224
      go_wp2_with (first | (go_at_call 167; refine (i1.go _).mono ?_; rintro _ _ ⟨k, rfl, rfl⟩) | (go_at_call 176; refine ((isNaN_any _).go _).mono ?_; rintro _ _ ⟨k, rfl, rfl⟩))
      go_returns
      exact ⟨rfl, by (repeat' (first | (with_reducible exact Below.refl _ _) | (with_reducible assumption) | (with_reducible refine Later.belowOf _ ?_ ?_) | (with_reducible refine Below.alloc ?_ ?_ _) | (with_reducible refine Below.setCell ?_ ?_ _) | (with_reducible refine Below.drewN' _ ?_) | (with_reducible refine Below.drew ?_) | (with_reducible exact Ge.le) | go_size))⟩
    · have c2' : (m == 0) = false := by rw [beq_eq_false_iff_ne]; exact c2
      have hM : pM x = m := by rw [HM.out]; rfl
      have hE : pE x = -1074 := by rw [HE.out, if_pos rfl, if_neg c2]
      rw [hM, hE]
      clear HM HE HN hM hE c2
      go_enter Tryz.func224, Tryz.ntmps224
      go_wp2_with (first | (go_at_call 167; refine (i1.go _).mono ?_; rintro _ _ ⟨k, rfl, rfl⟩) | (go_at_call 176; refine ((isNaN_any _).go _).mono ?_; rintro _ _ ⟨k, rfl, rfl⟩))
      go_returns
      exact ⟨rfl, by (repeat' (first | (with_reducible exact Below.refl _ _) | (with_reducible assumption) | (with_reducible refine Later.belowOf _ ?_ ?_) | (with_reducible refine Below.alloc ?_ ?_ _) | (with_reducible refine Below.setCell ?_ ?_ _) | (with_reducible refine Below.drewN' _ ?_) | (with_reducible refine Below.drew ?_) | (with_reducible exact Ge.le) | go_size))⟩
  · have c1' : (B == 0) = false := by rw [beq_eq_false_iff_ne]; exact c1
    have hM : pM x = m + 4503599627370496 := by rw [HM.out, if_neg c1]
    have hE : pE x = B + -1074 - 1 := by rw [HE.out, if_neg c1]; omega
    rw [hM, hE]
    clear HM HE HN hM hE c1
    by_cases c2 : m = 0
    · subst c2
      go_enter Tryz.func224, Tryz.ntmps224
      go_wp2_with (first | (go_at_call 167; refine (i1.go _).mono ?_; rintro _ _ ⟨k, rfl, rfl⟩) | (go_at_call 176; refine ((isNaN_any _).go _).mono ?_; rintro _ _ ⟨k, rfl, rfl⟩))
      go_returns
      exact ⟨rfl, by (repeat' (first | (with_reducible exact Below.refl _ _) | (with_reducible assumption) | (with_reducible refine Later.belowOf _ ?_ ?_) | (with_reducible refine Below.alloc ?_ ?_ _) | (with_reducible refine Below.setCell ?_ ?_ _) | (with_reducible refine Below.drewN' _ ?_) | (with_reducible refine Below.drew ?_) | (with_reducible exact Ge.le) | go_size))⟩
    · have c2' : (m == 0) = false := by rw [beq_eq_false_iff_ne]; exact c2
      go_enter Tryz.func224, Tryz.ntmps224
      go_wp2_with (first | (go_at_call 167; refine (i1.go _).mono ?_; rintro _ _ ⟨k, rfl, rfl⟩) | (go_at_call 176; refine ((isNaN_any _).go _).mono ?_; rintro _ _ ⟨k, rfl, rfl⟩))
      go_returns
      exact ⟨rfl, by (repeat' (first | (with_reducible exact Below.refl _ _) | (with_reducible assumption) | (with_reducible refine Later.belowOf _ ?_ ?_) | (with_reducible refine Below.alloc ?_ ?_ _) | (with_reducible refine Below.setCell ?_ ?_ _) | (with_reducible refine Below.drewN' _ ?_) | (with_reducible refine Below.drew ?_) | (with_reducible exact Ge.le) | go_size))⟩

set_option maxHeartbeats 1000000 in
theorem split_non (x : Nat) (hx : x < 18446744073709551616) (hf : finB x = false) : Gives 224 #[(.float .f64 x)] (.tuple #[(.agg #[.bool false, .int .u64 0, .int .i64 0]), .bool false]) := by
  intro w
  have i1 := isInf0_any x hx
  rcases tof (nan x) with hn | hn
  · have f1 : feq x x = false := by rw [feq_self, hn]; rfl
    clear hf hx
    go_enter Tryz.func224, Tryz.ntmps224
    go_wp2_with (first | (go_at_call 167; refine (i1.go _).mono ?_; rintro _ _ ⟨k, rfl, rfl⟩) | (go_at_call 176; refine ((isNaN_any _).go _).mono ?_; rintro _ _ ⟨k, rfl, rfl⟩))
    go_returns
    exact ⟨rfl, by (repeat' (first | (with_reducible exact Below.refl _ _) | (with_reducible assumption) | (with_reducible refine Later.belowOf _ ?_ ?_) | (with_reducible refine Below.alloc ?_ ?_ _) | (with_reducible refine Below.setCell ?_ ?_ _) | (with_reducible refine Below.drewN' _ ?_) | (with_reducible refine Below.drew ?_) | (with_reducible exact Ge.le) | go_size))⟩
  · have f1 : feq x x = true := by rw [feq_self, hn]; rfl
    have : infinB x = true := by
      unfold infinB finB at *
      have := nan_false.1 hn
      unfold INFR at this
      simp at *; omega
    rw [isInf0_fact hn, this] at i1
    clear hf hx
    go_enter Tryz.func224, Tryz.ntmps224
    go_wp2_with (first | (go_at_call 167; refine (i1.go _).mono ?_; rintro _ _ ⟨k, rfl, rfl⟩) | (go_at_call 176; refine ((isNaN_any _).go _).mono ?_; rintro _ _ ⟨k, rfl, rfl⟩))
    go_returns
    exact ⟨rfl, by (repeat' (first | (with_reducible exact Below.refl _ _) | (with_reducible assumption) | (with_reducible refine Later.belowOf _ ?_ ?_) | (with_reducible refine Below.alloc ?_ ?_ _) | (with_reducible refine Below.setCell ?_ ?_ _) | (with_reducible refine Below.drewN' _ ?_) | (with_reducible refine Below.drew ?_) | (with_reducible exact Ge.le) | go_size))⟩

def qNeg (x : Nat) : Bool := if finB x then pNeg x else false
def qM (x : Nat) : Int := if finB x then pM x else 0
def qE (x : Nat) : Int := if finB x then pE x else 0

theorem split_any (x : Nat) (hx : x < 18446744073709551616) : Gives 224 #[(.float .f64 x)] (.tuple #[(.agg #[.bool (qNeg x), .int .u64 (qM x), .int .i64 (qE x)]), .bool (finB x)]) := by
  unfold qNeg qM qE
  cases h : finB x
  · exact split_non x hx h
  · exact split_fin x hx h

set_option maxHeartbeats 2000000 in
theorem both_any (a b : Nat) (ha : a < 18446744073709551616) (hb : b < 18446744073709551616) : Gives 196 #[(.float .f64 a), (.float .f64 b)] (.tuple #[(.agg #[.bool (qNeg a), .int .u64 (qM a), .int .i64 (qE a)]), (.agg #[.bool (qNeg b), .int .u64 (qM b), .int .i64 (qE b)]), .bool (finB a && finB b)]) := by
  intro w
  have a1 := split_any a ha
  have a2 := split_any b hb
  clear ha hb
  refine (byB (finB a) (fun hc0 => ?_) (fun hc0 => ?_))
  all_goals
    go_enter Tryz.func196, Tryz.ntmps196
    go_wp2_with (go_at_call 224; first | ((with_reducible refine (a1.go _).mono ?_); rintro _ _ ⟨k, rfl, rfl⟩) | ((with_reducible refine (a2.go _).mono ?_); rintro _ _ ⟨k, rfl, rfl⟩))
    go_region
    all_goals (go_wp2; go_returns; exact ⟨by simp [*], by (repeat' (first | (with_reducible exact Below.refl _ _) | (with_reducible assumption) | (with_reducible refine Later.belowOf _ ?_ ?_) | (with_reducible refine Below.alloc ?_ ?_ _) | (with_reducible refine Below.setCell ?_ ?_ _) | (with_reducible refine Below.drewN' _ ?_) | (with_reducible refine Below.drew ?_) | (with_reducible exact Ge.le) | go_size))⟩)
end Go.Proofs.YtpkgpkabmechkaaGreat
