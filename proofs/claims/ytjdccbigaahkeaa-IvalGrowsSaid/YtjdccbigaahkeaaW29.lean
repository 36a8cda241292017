/- Contracts: the reference's rounding. -/
import Derived.Test.YtjdccbigaahkeaaW28
namespace Go.Proofs.Ytjdccbigaahkeaa
set_option linter.unusedSimpArgs false
set_option linter.unusedVariables false
open Go.RowKit
open Fl

/-- x is the exact S / D: whether a number is not above it, whether it is it, is answered so. -/
structure Oracle (w : World) (x : Value) (S : Int) (D : Nat) : Prop where
  pos : 0 < D
  below : ∀ (w1 : World), Below w.heap.size w w1 → ∀ (s : Bool) (p : Nat) (g : Int) (R : Option Addr) (rk rc : Nat), BigS w1 (.slice R rk rc) p → p < bp 100 → -1075 ≤ g → g ≤ 1100 →
    Calls Try.prog 144 #[(.agg #[.bool s, (.slice R rk rc), .int .i64 g]), x] w1 (BoolRes (decide (nv 1075 s p g * D ≤ 2 * S)) w1)
  same : ∀ (w1 : World), Below w.heap.size w w1 → ∀ (s : Bool) (p : Nat) (g : Int) (R : Option Addr) (rk rc : Nat), BigS w1 (.slice R rk rc) p → p < bp 100 → -1075 ≤ g → g ≤ 1100 →
    Calls Try.prog 142 #[(.agg #[.bool s, (.slice R rk rc), .int .i64 g]), x] w1 (BoolRes (decide (nv 1075 s p g * D = 2 * S)) w1)

theorem Oracle.at {w w1 : World} {x : Value} {S : Int} {D : Nat} (h : Oracle w x S D) (hb : Below w.heap.size w w1) : Oracle w1 x S D :=
  ⟨h.pos, fun w2 h2 => h.below w2 (hb.trans (h2.mono hb.size)), fun w2 h2 => h.same w2 (hb.trans (h2.mono hb.size))⟩

/-- A quotient. -/
theorem oracleQ (sa sb : Bool) (ma mb : Nat) (ea eb L : Int) (A B : Option Addr) (ak ac bk bc : Nat) (w : World) (ha : BigS w (.slice A ak ac) ma) (hb : BigS w (.slice B bk bc) mb)
    (lma : ma < bp 2000) (lmb : mb < bp 100) (hmb : mb ≠ 0) (a0 : -20000 ≤ ea) (a1 : ea ≤ 20000) (b0 : -20000 ≤ eb) (b1 : eb ≤ 20000) (hL0 : 0 ≤ L) (hL1 : 0 ≤ eb + L) (hL2 : 0 ≤ ea + (1075 + L)) :
    Oracle w (.agg #[.bool sa, (.slice A ak ac), .int .i64 ea, .bool sb, (.slice B bk bc), .int .i64 eb, .bool false]) (qS (nv (1075 + L) sa ma ea) (nv L sb mb eb)) (2 * (nv L sb mb eb).natAbs) := by
  have hp : ∀ (p : Nat) (g : Int), -1075 ≤ g → 0 ≤ prodE p mb g eb + (1075 + L) := by intro p g hg; unfold prodE; split <;> omega
  have hnz : (nv L sb mb eb).natAbs ≠ 0 := by
    have := nv_pos L eb hmb
    unfold nv
    generalize mb * pw (eb + L).toNat = z at *
    cases sb
    · show (z : Int).natAbs ≠ 0; omega
    · show (-(z : Int)).natAbs ≠ 0; omega
  refine ⟨by omega, ?_, ?_⟩
  · intro w1 h s p g R rk rc hr lp g0 g1
    rw [← belowQ_eq (sgn_nv L sb mb eb).1, ← prod_amount s sb p mb g eb (by omega) hL1]
    exact belowQ_walk s sa sb p ma mb g ea eb (1075 + L) R A B rk rc ak ac bk bc w1 hr (ha.at h) (hb.at h) lp lma lmb (by omega) (by omega) a0 a1 b0 b1 (hp p g g0) hL2
  · intro w1 h s p g R rk rc hr lp g0 g1
    rw [← sameQ_eq, ← prod_amount s sb p mb g eb (by omega) hL1]
    exact sameQ_walk s sa sb p ma mb g ea eb (1075 + L) R A B rk rc ak ac bk bc w1 hr (ha.at h) (hb.at h) lp lma lmb (by omega) (by omega) a0 a1 b0 b1 (hp p g g0) hL2

/-- A root. -/
theorem oracleR (sa : Bool) (ma G0 : Nat) (ea : Int) (A : Option Addr) (ak ac : Nat) (w : World) (ha : BigS w (.slice A ak ac) ma)
    (lma : ma < bp 2000) (a0 : -1100 ≤ ea) (a1 : ea ≤ 20000) (hX : nv (1075 + 1075) sa ma ea = ((4 * G0 * pw 1074 : Nat) : Int)) :
    Oracle w (.agg #[.bool sa, (.slice A ak ac), .int .i64 ea, .bool false, (.slice none 0 0), .int .i64 0, .bool true]) (rootN G0) (rootD G0) := by
  have hp : ∀ (p : Nat) (g : Int), -1075 ≤ g → 0 ≤ prodE p p g g + (1075 + 1075) := by intro p g hg; unfold prodE; split <;> omega
  refine ⟨rootD_pos _, ?_, ?_⟩
  · intro w1 h s p g R rk rc hr lp g0 g1
    rw [← belowR_eq (sgn_nv 1075 s p g).2.1 hX, ← prod_amount s s p p g g (by omega) (by omega)]
    exact belowR_walk s sa p ma g ea (1075 + 1075) R A rk rc ak ac w1 hr (ha.at h) lp lma (by omega) (by omega) (by omega) a1 (hp p g g0) (by omega)
  · intro w1 h s p g R rk rc hr lp g0 g1
    rw [← sameR_eq (sgn_nv 1075 s p g).2.2 hX, ← prod_amount s s p p g g (by omega) (by omega)]
    exact sameR_walk s sa p ma g ea (1075 + 1075) R A rk rc ak ac w1 hr (ha.at h) lp lma (by omega) (by omega) (by omega) a1 (hp p g g0) (by omega)

/-- A place's number, held against it. -/
theorem nv_half {i : Int} (h1 : -9218868437227405311 ≤ i) (h2 : i ≤ 9218868437227405311) : nv 1075 (qNeg (bitsOf i)) (fM (bitsOf i)) (qE (bitsOf i)) = 2 * pv i := by
  have hf : finB (bitsOf i) = true := by
    have hb := nan_bits (show -9218868437227405312 ≤ i by omega) (show i ≤ 9218868437227405312 by omega)
    rw [finB_rung]
    have h3 := hb.2.1
    unfold idx at h3
    unfold INFR
    cases hs : sgn (bitsOf i) <;> rw [hs] at h3 <;> simp at h3 <;> omega
  have h := nv_float _ hf
  have hr := qE_range (bitsOf i)
  rw [val_bits (by omega) (by omega)] at h
  rw [← h]
  unfold nv
  have e : fM (bitsOf i) * pw (qE (bitsOf i) + 1075).toNat = 2 * (fM (bitsOf i) * pw (qE (bitsOf i) + 1074).toNat) := by
    rw [show (qE (bitsOf i) + 1075).toNat = (qE (bitsOf i) + 1074).toNat + 1 by omega, pw_add, pw_eq 1, Nat.pow_one, ← Nat.mul_assoc, Nat.mul_comm _ 2]
  rw [e]
  cases qNeg (bitsOf i) <;> simp <;> omega

def DownRes (S : Int) (D : Nat) (w : World) (E : Ending) (w' : World) : Prop := (∃ d, FloorAt S D d ∧ E = .returned (.int .i64 d)) ∧ Below w.heap.size w w'

def DownInv (S : Int) (D : Nat) (w1 : World) (a b : Value) (w : World) : Prop :=
  ∃ (lo hi : Int), a = .int .i64 lo ∧ b = .int .i64 hi ∧ -9218868437227405312 ≤ lo ∧ lo ≤ hi ∧ hi ≤ 9218868437227405311 ∧ (lo = -9218868437227405312 ∨ pv lo * D ≤ S) ∧ (hi = 9218868437227405311 ∨ S < pv (hi + 1) * D) ∧ ∃ q : Later w1, w = q.val

set_option maxHeartbeats 16000000 in
set_option maxRecDepth 100000 in
theorem down_any (S : Int) (D : Nat) (sa sb rt : Bool) (ea eb : Int) (A B : Option Addr) (ak ac bk bc : Nat) (w : World) (h : Oracle w (.agg #[.bool sa, (.slice A ak ac), .int .i64 ea, .bool sb, (.slice B bk bc), .int .i64 eb, .bool rt]) S D) :
    Calls Try.prog 141 #[(.agg #[.bool sa, (.slice A ak ac), .int .i64 ea, .bool sb, (.slice B bk bc), .int .i64 eb, .bool rt])] w (DownRes S D w) := by
  have H := Lib.hid h
  clear h
  go_enter Try.func141, Try.ntmps141
  go_wp2
  obtain ⟨w1, hw1⟩ : ∃ w1 : World, w1 = w.alloc (.cells #[.bool sa, .slice A ak ac, .int .i64 ea, .bool sb, .slice B bk bc, .int .i64 eb, .bool rt] 86) := ⟨_, rfl⟩
  have HW := Lib.hid hw1
  clear hw1
  go_loopw [3, 4] (fun a b wr => DownInv S D (w.alloc (.cells #[.bool sa, .slice A ak ac, .int .i64 ea, .bool sb, .slice B bk bc, .int .i64 eb, .bool rt] 86)) a b wr) (fun a b _ => (intOf b - intOf a).toNat)
  case atStart => exact ⟨_, _, rfl, rfl, by decide, by decide, by decide, Or.inl rfl, Or.inl rfl, ⟨_, Below.refl _ _⟩, rfl⟩
  case round =>
    obtain ⟨lo, hi, rfl, rfl, l1, l2, l3, f1, f2, q, rfl⟩ := hrel
    by_cases hlt : lo < hi
    · have hrng := mid_rng hlt l1 l3 rfl
      have F1 := Lib.hid f1
      have F2 := Lib.hid f2
      clear f1 f2
      have d1 := Int.mul_tdiv_add_tmod lo 2
      have d2 := Int.mul_tdiv_add_tmod hi 2
      have b1 : -1 ≤ lo.tmod 2 ∧ lo.tmod 2 ≤ 1 := by
        have h1 := Int.tmod_lt_of_pos lo (show (0 : Int) < 2 by decide)
        have h2 := Int.lt_tmod_of_pos lo (show (0 : Int) < 2 by decide)
        omega
      have b2 : -1 ≤ hi.tmod 2 ∧ hi.tmod 2 ≤ 1 := by
        have h1 := Int.tmod_lt_of_pos hi (show (0 : Int) < 2 by decide)
        have h2 := Int.lt_tmod_of_pos hi (show (0 : Int) < 2 by decide)
        omega
      have b3 : -1 ≤ (lo.tmod 2 + hi.tmod 2 + 1).tdiv 2 ∧ (lo.tmod 2 + hi.tmod 2 + 1).tdiv 2 ≤ 1 := by
        generalize lo.tmod 2 = r1 at *
        generalize hi.tmod 2 = r2 at *
        have : r1 + r2 = -2 ∨ r1 + r2 = -1 ∨ r1 + r2 = 0 ∨ r1 + r2 = 1 ∨ r1 + r2 = 2 := by omega
        rcases this with h | h | h | h | h <;> rw [h] <;> decide
      obtain ⟨q1, e1⟩ : ∃ q1, lo.tdiv 2 = q1 := ⟨_, rfl⟩
      obtain ⟨q2, e2⟩ : ∃ q2, hi.tdiv 2 = q2 := ⟨_, rfl⟩
      obtain ⟨r1, e3⟩ : ∃ r1, lo.tmod 2 = r1 := ⟨_, rfl⟩
      obtain ⟨r2, e4⟩ : ∃ r2, hi.tmod 2 = r2 := ⟨_, rfl⟩
      rw [e3, e4] at b3
      obtain ⟨t, e5⟩ : ∃ t, (r1 + r2 + 1).tdiv 2 = t := ⟨_, rfl⟩
      rw [e1, e2, e3, e4, e5] at hrng
      rw [e1, e3] at d1
      rw [e2, e4] at d2
      rw [e3] at b1
      rw [e4] at b2
      rw [e5] at b3
      have c1 : -5000000000000000000 ≤ q1 ∧ q1 ≤ 5000000000000000000 := by omega
      have c2 : -5000000000000000000 ≤ q2 ∧ q2 ≤ 5000000000000000000 := by omega
      obtain ⟨c11, c12⟩ := c1
      obtain ⟨c21, c22⟩ := c2
      obtain ⟨b11, b12⟩ := b1
      obtain ⟨b21, b22⟩ := b2
      obtain ⟨b31, b32⟩ := b3
      obtain ⟨m, hm⟩ : ∃ m, m = if q1 + q2 + t ≤ lo then lo + 1 else q1 + q2 + t := ⟨_, rfl⟩
      have hm1 : lo < m ∧ m ≤ hi := by rw [hm]; split <;> omega
      have at1 := at_any m (by omega) (by omega)
      have fl1 := fun w => NumRes.go (float_any (bitsOf m) (nan_bits (show -9218868437227405312 ≤ m by omega) (by omega)).2.2 w)
      have be1 := fun (w2 : World) (hb : Below w.heap.size w w2) (R : Option Addr) (rk rc : Nat) (hr : BigS w2 (.slice R rk rc) (fM (bitsOf m))) => BoolRes.go (H.out.below w2 hb (qNeg (bitsOf m)) (fM (bitsOf m)) (qE (bitsOf m)) R rk rc hr (Nat.lt_of_lt_of_le (fM_bp _) (bp_le (by decide))) (by have := qE_range (bitsOf m); omega) (by have := qE_range (bitsOf m); omega))
      rw [nv_half (by omega) (by omega), show (2 * pv m * (D : Int)) = 2 * (pv m * (D : Int)) by rw [Int.mul_assoc]] at be1
      have hdec : decide (2 * (pv m * (D : Int)) ≤ 2 * S) = decide (pv m * (D : Int) ≤ S) := by rw [Bool.eq_iff_iff]; simp only [decide_eq_true_eq]; omega
      rw [hdec] at be1
      clear hdec
      generalize bitsOf m = x at *
      generalize qNeg x = xs at *
      generalize fM x = xm at *
      generalize qE x = xe at *
      have FL1 := Lib.hid fl1
      have BE1 := Lib.hid be1
      have AT1 := Lib.hid at1
      have HM := Lib.hid hm
      have HD := Lib.hid (And.intro d1 d2)
      clear fl1 be1 at1 d1 d2
      by_cases hbe : pv m * (D : Int) ≤ S
      · have hb2 : decide (pv m * (D : Int) ≤ S) = true := by simpa using hbe
        rw [hb2] at BE1
        have HB := Lib.hid hbe
        clear hbe hb2
        by_cases hml : q1 + q2 + t ≤ lo
        · have e6 : lo + 1 = m := by rw [HM.out, if_pos hml]
          have e7 : q1 + q2 + t = lo := by omega
          have w6 : IntKind.i64.wrap (lo + 1) = m := by rw [e6]; exact IntWalk.i64_in _ ⟨by omega, by omega⟩
          have AT2 : Hid (Gives 98 #[.int .i64 (lo + 1)] (.float .f64 x)) := by rw [e6]; exact AT1
          have E6 := Lib.hid e6
          have H1 := Lib.hid hm1
          have m1 : -9218868437227405312 ≤ m := by omega
          have m2 : m ≤ 9218868437227405311 := by omega
          clear hrng hml hm1 e6 AT1
          go_wp2
          go_region_held3 (fun w' => w'.cell? ⟨w.heap.size, 0, none⟩ = some (.bool sa) ∧ w'.cell? ⟨w.heap.size, 1, none⟩ = some (.slice A ak ac) ∧ w'.cell? ⟨w.heap.size, 2, none⟩ = some (.int .i64 ea) ∧ w'.cell? ⟨w.heap.size, 3, none⟩ = some (.bool sb) ∧ w'.cell? ⟨w.heap.size, 4, none⟩ = some (.slice B bk bc) ∧ w'.cell? ⟨w.heap.size, 5, none⟩ = some (.int .i64 eb) ∧ w'.cell? ⟨w.heap.size, 6, none⟩ = some (.bool rt))
            (first | (go_simp; done) | go_keep)
            ((first | (go_at_call 98; refine (AT2.out.go _).mono ?_; rintro _ _ ⟨q7, rfl, rfl⟩) | (go_at_call 110; refine (FL1.out _).mono ?_; rintro _ _ ⟨A2, k2, c2, q2', hq3, rfl, rfl⟩; have hq3' := hq3.out) | (go_at_call 144; refine (BE1.out _ (by (repeat' (first | (with_reducible exact Below.refl _ _) | (with_reducible assumption) | (with_reducible refine Later.belowOf _ ?_ ?_) | (with_reducible refine Below.alloc ?_ ?_ _) | (with_reducible refine Below.setCell ?_ ?_ _) | (with_reducible refine Below.drewN' _ ?_) | (with_reducible refine Below.drew ?_) | (with_reducible exact Ge.le) | go_size))) _ _ _ (Big.stays (by (repeat (first | (with_reducible assumption) | (with_reducible refine Big.drew ?_) | (with_reducible refine Big.drewN ?_ _) | (with_reducible refine Big.alloc ?_ _) | (with_reducible refine Big.later ?_ _) | (with_reducible refine Big.setCell ?_ _ (by go_simp))))))).mono ?_; rintro _ _ ⟨q4, rfl, rfl⟩)))
          all_goals
            rename_i hHeld
            clear hHeld
            go_wp2
            have hm1 := H1.out
            have he6 := E6.out
            refine ⟨⟨m, hi, i64_eq (by omega), rfl, by omega, by omega, l3, Or.inr HB.out, F2.out, ⟨_, by (repeat' (first | (with_reducible exact Below.refl _ _) | (with_reducible assumption) | (with_reducible refine Later.belowOf _ ?_ ?_) | (with_reducible refine Below.alloc ?_ ?_ _) | (with_reducible refine Below.setCell ?_ ?_ _) | (with_reducible refine Below.drewN' _ ?_) | (with_reducible refine Below.drew ?_) | (with_reducible exact Ge.le) | go_size))⟩, rfl⟩, ?_⟩
            simp only [intOf]
            omega
        · have e6 : q1 + q2 + t = m := by rw [HM.out, if_neg hml]
          have H1 := Lib.hid hm1
          have hgt : lo < q1 + q2 + t := by omega
          have hge : q1 + q2 + t ≤ hi := by omega
          have AT2 : Hid (Gives 98 #[.int .i64 (q1 + q2 + t)] (.float .f64 x)) := by rw [e6]; exact AT1
          have E6 := Lib.hid e6
          clear hml hm1 hrng AT1 e6
          go_wp2
          go_region_held3 (fun w' => w'.cell? ⟨w.heap.size, 0, none⟩ = some (.bool sa) ∧ w'.cell? ⟨w.heap.size, 1, none⟩ = some (.slice A ak ac) ∧ w'.cell? ⟨w.heap.size, 2, none⟩ = some (.int .i64 ea) ∧ w'.cell? ⟨w.heap.size, 3, none⟩ = some (.bool sb) ∧ w'.cell? ⟨w.heap.size, 4, none⟩ = some (.slice B bk bc) ∧ w'.cell? ⟨w.heap.size, 5, none⟩ = some (.int .i64 eb) ∧ w'.cell? ⟨w.heap.size, 6, none⟩ = some (.bool rt))
            (first | (go_simp; done) | go_keep)
            ((first | (go_at_call 98; refine (AT2.out.go _).mono ?_; rintro _ _ ⟨q7, rfl, rfl⟩) | (go_at_call 110; refine (FL1.out _).mono ?_; rintro _ _ ⟨A2, k2, c2, q2', hq3, rfl, rfl⟩; have hq3' := hq3.out) | (go_at_call 144; refine (BE1.out _ (by (repeat' (first | (with_reducible exact Below.refl _ _) | (with_reducible assumption) | (with_reducible refine Later.belowOf _ ?_ ?_) | (with_reducible refine Below.alloc ?_ ?_ _) | (with_reducible refine Below.setCell ?_ ?_ _) | (with_reducible refine Below.drewN' _ ?_) | (with_reducible refine Below.drew ?_) | (with_reducible exact Ge.le) | go_size))) _ _ _ (Big.stays (by (repeat (first | (with_reducible assumption) | (with_reducible refine Big.drew ?_) | (with_reducible refine Big.drewN ?_ _) | (with_reducible refine Big.alloc ?_ _) | (with_reducible refine Big.later ?_ _) | (with_reducible refine Big.setCell ?_ _ (by go_simp))))))).mono ?_; rintro _ _ ⟨q4, rfl, rfl⟩)))
          all_goals
            rename_i hHeld
            clear hHeld
            go_wp2
            have hm1 := H1.out
            have he6 := E6.out
            refine ⟨⟨m, hi, i64_eq (by omega), rfl, by omega, by omega, l3, Or.inr HB.out, F2.out, ⟨_, by (repeat' (first | (with_reducible exact Below.refl _ _) | (with_reducible assumption) | (with_reducible refine Later.belowOf _ ?_ ?_) | (with_reducible refine Below.alloc ?_ ?_ _) | (with_reducible refine Below.setCell ?_ ?_ _) | (with_reducible refine Below.drewN' _ ?_) | (with_reducible refine Below.drew ?_) | (with_reducible exact Ge.le) | go_size))⟩, rfl⟩, ?_⟩
            simp only [intOf]
            omega
      · have hb2 : decide (pv m * (D : Int) ≤ S) = false := by simpa using hbe
        rw [hb2] at BE1
        have HB := Lib.hid hbe
        clear hbe hb2
        by_cases hml : q1 + q2 + t ≤ lo
        · have e6 : lo + 1 = m := by rw [HM.out, if_pos hml]
          have e7 : q1 + q2 + t = lo := by omega
          have w6 : IntKind.i64.wrap (lo + 1) = m := by rw [e6]; exact IntWalk.i64_in _ ⟨by omega, by omega⟩
          have AT2 : Hid (Gives 98 #[.int .i64 (lo + 1)] (.float .f64 x)) := by rw [e6]; exact AT1
          have E6 := Lib.hid e6
          have H1 := Lib.hid hm1
          have m1 : -9218868437227405312 ≤ m := by omega
          have m2 : m ≤ 9218868437227405311 := by omega
          clear hrng hml hm1 e6 AT1
          go_wp2
          go_region_held3 (fun w' => w'.cell? ⟨w.heap.size, 0, none⟩ = some (.bool sa) ∧ w'.cell? ⟨w.heap.size, 1, none⟩ = some (.slice A ak ac) ∧ w'.cell? ⟨w.heap.size, 2, none⟩ = some (.int .i64 ea) ∧ w'.cell? ⟨w.heap.size, 3, none⟩ = some (.bool sb) ∧ w'.cell? ⟨w.heap.size, 4, none⟩ = some (.slice B bk bc) ∧ w'.cell? ⟨w.heap.size, 5, none⟩ = some (.int .i64 eb) ∧ w'.cell? ⟨w.heap.size, 6, none⟩ = some (.bool rt))
            (first | (go_simp; done) | go_keep)
            ((first | (go_at_call 98; refine (AT2.out.go _).mono ?_; rintro _ _ ⟨q7, rfl, rfl⟩) | (go_at_call 110; refine (FL1.out _).mono ?_; rintro _ _ ⟨A2, k2, c2, q2', hq3, rfl, rfl⟩; have hq3' := hq3.out) | (go_at_call 144; refine (BE1.out _ (by (repeat' (first | (with_reducible exact Below.refl _ _) | (with_reducible assumption) | (with_reducible refine Later.belowOf _ ?_ ?_) | (with_reducible refine Below.alloc ?_ ?_ _) | (with_reducible refine Below.setCell ?_ ?_ _) | (with_reducible refine Below.drewN' _ ?_) | (with_reducible refine Below.drew ?_) | (with_reducible exact Ge.le) | go_size))) _ _ _ (Big.stays (by (repeat (first | (with_reducible assumption) | (with_reducible refine Big.drew ?_) | (with_reducible refine Big.drewN ?_ _) | (with_reducible refine Big.alloc ?_ _) | (with_reducible refine Big.later ?_ _) | (with_reducible refine Big.setCell ?_ _ (by go_simp))))))).mono ?_; rintro _ _ ⟨q4, rfl, rfl⟩)))
          all_goals
            rename_i hHeld
            clear hHeld
            go_wp2
            have hm1 := H1.out
            have he6 := E6.out
            refine ⟨⟨lo, m - 1, rfl, i64_eq (by omega), l1, by omega, by omega, F1.out, Or.inr ?_, ⟨_, by (repeat' (first | (with_reducible exact Below.refl _ _) | (with_reducible assumption) | (with_reducible refine Later.belowOf _ ?_ ?_) | (with_reducible refine Below.alloc ?_ ?_ _) | (with_reducible refine Below.setCell ?_ ?_ _) | (with_reducible refine Below.drewN' _ ?_) | (with_reducible refine Below.drew ?_) | (with_reducible exact Ge.le) | go_size))⟩, rfl⟩, ?_⟩
            · rw [show m - 1 + 1 = m by omega]
              exact HB.out
            · simp only [intOf]
              omega
        · have e6 : q1 + q2 + t = m := by rw [HM.out, if_neg hml]
          have H1 := Lib.hid hm1
          have hgt : lo < q1 + q2 + t := by omega
          have hge : q1 + q2 + t ≤ hi := by omega
          have AT2 : Hid (Gives 98 #[.int .i64 (q1 + q2 + t)] (.float .f64 x)) := by rw [e6]; exact AT1
          have E6 := Lib.hid e6
          clear hml hm1 hrng AT1 e6
          go_wp2
          go_region_held3 (fun w' => w'.cell? ⟨w.heap.size, 0, none⟩ = some (.bool sa) ∧ w'.cell? ⟨w.heap.size, 1, none⟩ = some (.slice A ak ac) ∧ w'.cell? ⟨w.heap.size, 2, none⟩ = some (.int .i64 ea) ∧ w'.cell? ⟨w.heap.size, 3, none⟩ = some (.bool sb) ∧ w'.cell? ⟨w.heap.size, 4, none⟩ = some (.slice B bk bc) ∧ w'.cell? ⟨w.heap.size, 5, none⟩ = some (.int .i64 eb) ∧ w'.cell? ⟨w.heap.size, 6, none⟩ = some (.bool rt))
            (first | (go_simp; done) | go_keep)
            ((first | (go_at_call 98; refine (AT2.out.go _).mono ?_; rintro _ _ ⟨q7, rfl, rfl⟩) | (go_at_call 110; refine (FL1.out _).mono ?_; rintro _ _ ⟨A2, k2, c2, q2', hq3, rfl, rfl⟩; have hq3' := hq3.out) | (go_at_call 144; refine (BE1.out _ (by (repeat' (first | (with_reducible exact Below.refl _ _) | (with_reducible assumption) | (with_reducible refine Later.belowOf _ ?_ ?_) | (with_reducible refine Below.alloc ?_ ?_ _) | (with_reducible refine Below.setCell ?_ ?_ _) | (with_reducible refine Below.drewN' _ ?_) | (with_reducible refine Below.drew ?_) | (with_reducible exact Ge.le) | go_size))) _ _ _ (Big.stays (by (repeat (first | (with_reducible assumption) | (with_reducible refine Big.drew ?_) | (with_reducible refine Big.drewN ?_ _) | (with_reducible refine Big.alloc ?_ _) | (with_reducible refine Big.later ?_ _) | (with_reducible refine Big.setCell ?_ _ (by go_simp))))))).mono ?_; rintro _ _ ⟨q4, rfl, rfl⟩)))
          all_goals
            rename_i hHeld
            clear hHeld
            go_wp2
            have hm1 := H1.out
            have he6 := E6.out
            refine ⟨⟨lo, m - 1, rfl, i64_eq (by omega), l1, by omega, by omega, F1.out, Or.inr ?_, ⟨_, by (repeat' (first | (with_reducible exact Below.refl _ _) | (with_reducible assumption) | (with_reducible refine Later.belowOf _ ?_ ?_) | (with_reducible refine Below.alloc ?_ ?_ _) | (with_reducible refine Below.setCell ?_ ?_ _) | (with_reducible refine Below.drewN' _ ?_) | (with_reducible refine Below.drew ?_) | (with_reducible exact Ge.le) | go_size))⟩, rfl⟩, ?_⟩
            · rw [show m - 1 + 1 = m by omega]
              exact HB.out
            · simp only [intOf]
              omega
    · obtain rfl : lo = hi := by omega
      have HF := Lib.hid (show FloorAt S D lo from ⟨l1, l3, f1, f2⟩)
      clear f1 f2 H
      go_wp2
      go_ret
      exact ⟨⟨lo, HF.out, rfl⟩, by (repeat' (first | (with_reducible exact Below.refl _ _) | (with_reducible assumption) | (with_reducible refine Later.belowOf _ ?_ ?_) | (with_reducible refine Below.alloc ?_ ?_ _) | (with_reducible refine Below.setCell ?_ ?_ _) | (with_reducible refine Below.drewN' _ ?_) | (with_reducible refine Below.drew ?_) | (with_reducible exact Ge.le) | go_size))⟩
end Go.Proofs.Ytjdccbigaahkeaa
