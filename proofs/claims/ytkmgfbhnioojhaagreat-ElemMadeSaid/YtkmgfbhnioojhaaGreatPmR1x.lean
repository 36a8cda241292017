/- Plain: rational values of the reference's numbers. -/
import Derived.Test.YtkmgfbhnioojhaaGreatPmW25
import Derived.Test.YtkmgfbhnioojhaaGreatPmW22
import Derived.Test.YtkmgfbhnioojhaaGreatPmFlC
namespace Go.Proofs.YtkmgfbhnioojhaaGreat
set_option linter.unusedSimpArgs false
set_option linter.unusedVariables false
open Go.RowKit
open Fl

/-- So many bits are kept, to a side. -/
def cutN (m : Nat) : Nat := blen m - 192
def cutM (s : Bool) (m : Nat) (down : Bool) : Nat := if blen m ≤ 192 then m else if down = s then m / 2 ^ cutN m + 1 else m / 2 ^ cutN m
def cutE (m : Nat) (e : Int) : Int := if blen m ≤ 192 then e else e + (cutN m : Nat)
end Go.Proofs.YtkmgfbhnioojhaaGreat

/- Contracts: the reference's whole numbers to the right. -/
namespace Go.Proofs.YtkmgfbhnioojhaaGreat
set_option linter.unusedSimpArgs false
set_option linter.unusedVariables false
open Go.RowKit
open Fl

theorem right_digit {d t s : Nat} (hs : s < 32) (hd : d < 4294967296) : (d + 4294967296 * (t % 4294967296)) / 2 ^ s % 4294967296 + 4294967296 * (t / 2 ^ s) = (d + 4294967296 * t) / 2 ^ s := by
  obtain ⟨P, hP⟩ : ∃ P, 2 ^ s = P := ⟨_, rfl⟩
  obtain ⟨Q, hQ⟩ : ∃ Q, 2 ^ (32 - s) = Q := ⟨_, rfl⟩
  have hPQ : P * Q = 4294967296 := by rw [← hP, ← hQ, ← Nat.pow_add, show s + (32 - s) = 32 by omega]
  have hP0 : 0 < P := by rw [← hP]; exact Nat.two_pow_pos s
  rw [hP]
  have ht : t = t % 4294967296 + 4294967296 * (t / 4294967296) := by omega
  generalize t % 4294967296 = u at *
  generalize t / 4294967296 = v at *
  have a1 : (d + 4294967296 * t) / P / 4294967296 = t / P := by
    rw [Nat.div_div_eq_div_mul, Nat.mul_comm P, ← Nat.div_div_eq_div_mul]
    congr 1; omega
  have a2 : (d + 4294967296 * t) / P % 4294967296 = (d + 4294967296 * u) / P % 4294967296 := by
    have : d + 4294967296 * t = (d + 4294967296 * u) + P * (4294967296 * (Q * v)) := by
      have h1 : P * (4294967296 * (Q * v)) = 4294967296 * (P * Q * v) := by
        simp only [Nat.mul_assoc, Nat.mul_left_comm]
      rw [h1, hPQ]; omega
    rw [this, Nat.add_mul_div_left _ _ hP0, Nat.add_mul_mod_self_left]
  omega
theorem or_32 {c d : Nat} (hc : c < 4294967296) (hd : d < 4294967296) : bits BinOp.or IntKind.u64 (c : Int) ((d * 4294967296 : Nat) : Int) = ((c + 4294967296 * d : Nat) : Int) := by
  rw [u64_or _ _ (Int.natCast_nonneg _) (by omega) (Int.natCast_nonneg _) (by omega), Int.toNat_natCast, Int.toNat_natCast]
  congr 1
  rw [Nat.or_comm, show d * 4294967296 = d <<< 32 by rw [Nat.shiftLeft_eq], ← Nat.shiftLeft_add_eq_or_of_lt (i := 32) (by simpa using hc)]
  rw [Nat.shiftLeft_eq]; omega
theorem drop_digit (l : List Nat) (k : Nat) (h : k < l.length) : n32 (l.drop k) = l.getD k 0 + 4294967296 * n32 (l.drop (k + 1)) := by
  rw [List.drop_eq_getElem_cons h]
  have : l.getD k 0 = l[k] := by simp [List.getD_eq_getElem?_getD, h]
  rw [this]; rfl
theorem low_digit (l : List Nat) (k : Nat) (hd : Dig l) : n32 (l.drop k) % 4294967296 = l.getD k 0 := by
  by_cases h : k < l.length
  · rw [drop_digit l k h]
    have := hd k
    omega
  · rw [List.drop_eq_nil_of_le (by omega)]
    simp [n32, List.getD_eq_getElem?_getD, List.getElem?_eq_none (show l.length ≤ k by omega)]
theorem right_all' (l : List Nat) (q s : Nat) (hd : Dig l) (hq : q ≤ l.length) : n32 l / (bp q * 2 ^ s) = n32 (l.drop q) / 2 ^ s := by
  rw [← Nat.div_div_eq_div_mul, n32_parts l q hq]
  congr 1
  have h1 := n32_lt (dig_take hd q)
  rw [List.length_take, Nat.min_eq_left hq] at h1
  rw [Nat.add_mul_div_left _ _ (bp_pos q), Nat.div_eq_of_lt h1, Nat.zero_add]

def RightInv (W : World) (a : List Nat) (q s : Nat) (out i : Value) (w : World) : Prop :=
  ∃ (k : Nat) (L : List Nat), i = .int .i64 k ∧ q + k ≤ a.length ∧ L.length = k ∧ Dig L ∧ n32 L + bp k * (n32 (a.drop (q + k)) / 2 ^ s) = n32 (a.drop q) / 2 ^ s ∧ Own W.heap.size w out L ∧ Below W.heap.size W w

set_option maxHeartbeats 8000000 in
set_option maxRecDepth 100000 in
theorem bright_any (va : Value) (a : List Nat) (n : Nat) (w : World) (ha : Rd w va a) (da : Dig a) (la : a.length ≤ 1000000) (hn : n ≤ 100000000) :
    Calls Tryz.prog 302 #[va, .int .i64 n] w (BigRes (n32 a / 2 ^ n) w) := by
  obtain ⟨q, hq⟩ : ∃ q : Nat, q = n / 32 := ⟨_, rfl⟩
  obtain ⟨s, hs⟩ : ∃ s : Nat, s = n % 32 := ⟨_, rfl⟩
  have hs32 : s < 32 := by omega
  have en : (2 : Nat) ^ n = bp q * 2 ^ s := by rw [left_pow]; congr 1; omega
  rw [en]
  have e1 : (n : Int) / 32 = (q : Int) := by omega
  have e2 : (n : Int) % 32 = (s : Int) := by omega
  have hq2 : (q : Int) ≤ 100000000 := by omega
  have hs2 : (s : Int) ≤ 31 := by omega
  have hn2 : (n : Int) ≤ 100000000 := by omega
  by_cases hlq : a.length ≤ q
  · have hz : n32 a / (bp q * 2 ^ s) = 0 := by
      refine Nat.div_eq_of_lt (Nat.lt_of_lt_of_le (n32_lt da) (Nat.le_trans (bp_le hlq) ?_))
      exact Nat.le_mul_of_pos_right _ (Nat.two_pow_pos s)
    rw [hz]
    obtain ⟨A, c, rfl, h1, h2, h3⟩ := ha
    have hl2 : (a.length : Int) ≤ (q : Int) := by omega
    clear hz en hq hs h3 da
    go_enter Tryz.func302, Tryz.ntmps302
    go_wp2
    go_ret
    exact ⟨⟨_, rfl, [], ⟨_, _, rfl, Nat.le_refl _, by decide, fun i hi => by simp at hi⟩, dig_nil, fun h => by simp at h, rfl⟩, by (repeat' first | (with_reducible first | exact Below.refl _ _ | assumption | refine Later.belowOf _ ?_ ?_ | refine Below.alloc ?_ ?_ _ | refine Below.setCell ?_ ?_ _ | refine Below.drewN' _ ?_ | refine Below.drew ?_ | exact Ge.le) | go_size)⟩
  · rcases ha.open with ⟨rfl, _⟩ | ⟨hl, b, off, c, rfl, h1, h2, hb, hc⟩
    · simp at hlq
    have hR := right_all' a q s da (by omega)
    rw [hR]
    have H := Lib.hid hc
    have DA := Lib.hid da
    have hlq2 : (q : Int) < (a.length : Int) := by omega
    have hal : (a.length : Int) ≤ 1000000 := by omega
    have hc2 : (a.length : Int) ≤ (c : Int) := by omega
    have hc3 : (c : Int) ≤ 9223372036854775807 := by omega
    have hq0 : (0 : Int) ≤ (q : Int) := by omega
    have hdz : decide (a.length ≤ q) = false := by rw [decide_eq_false_iff_not]; exact hlq
    clear hR en hq hs hc da hlq ha hn
    go_enter Tryz.func302, Tryz.ntmps302
    go_wp2
    go_loopw [5, 22] (fun out i wr => RightInv w a q s out i wr) (fun _ i _ => a.length - q - (intOf i).toNat)
    case atStart => exact ⟨0, [], rfl, by omega, rfl, dig_nil, by simp [n32, bp_zero], own_new w, (Below.refl _ _).alloc (Nat.le_refl _) _⟩
    case round =>
      obtain ⟨k, L, rfl, hk, hL, hD, hE, hown, hbel⟩ := hrel
      have hk2 : (k : Int) ≤ 1000000 := by omega
      by_cases hk1 : q + k < a.length
      · have c1 := H.out (q + k) hk1
        replace c1 := (hbel.cell (World.block_lt_of_cell? w _ c1)).trans c1
        rw [← Nat.add_assoc] at c1
        have x1 := DA.out (q + k)
        have hdd := drop_digit a (q + k) hk1
        have hlow := low_digit a (q + k + 1) DA.out
        have hk3 : (k : Int) < (a.length : Int) - (q : Int) := by omega
        by_cases hk4 : q + k + 1 < a.length
        · have c2 := H.out (q + k + 1) hk4
          replace c2 := (hbel.cell (World.block_lt_of_cell? w _ c2)).trans c2
          rw [show off + (q + k + 1) = off + q + (k + 1) by omega] at c2
          have y1 := DA.out (q + k + 1)
          generalize hx : a.getD (q + k) 0 = x at *
          generalize hy : a.getD (q + k + 1) 0 = y at *
          have hrd := right_digit (d := x) (t := n32 (a.drop (q + k + 1))) hs32 x1
          rw [hlow, ← hdd] at hrd
          have or1 := or_32 x1 y1
          obtain ⟨z, hz⟩ : ∃ z : Nat, z = x + 4294967296 * y := ⟨_, rfl⟩
          obtain ⟨t, ht⟩ : ∃ t : Nat, t = z / 2 ^ s := ⟨_, rfl⟩
          rw [← hz, ← ht] at hrd
          rw [← hz] at or1
          have or2 : bits BinOp.or IntKind.u64 (x : Int) ((y : Int) * 4294967296) = (z : Int) := by
            rw [← or1]; simp
          have sh2 : (z : Int) / 2 ^ s = (t : Int) := by rw [ht]; simp
          have ht2 : (t : Int) ≤ 18446744073709551615 := by
            have : t ≤ z := by rw [ht]; exact Nat.div_le_self _ _
            omega
          have x2 : (x : Int) ≤ 4294967295 := by omega
          have y2 : (y : Int) ≤ 4294967295 := by omega
          have z2 : (z : Int) ≤ 18446744073709551615 := by omega
          have hE2 : n32 (L ++ [t % 4294967296]) + bp (k + 1) * (n32 (a.drop (q + k + 1)) / 2 ^ s) = n32 (a.drop q) / 2 ^ s := by
            rw [← hE, ← hrd, n32_snoc, hL, bp_succ, Nat.mul_add]
            have : 4294967296 * bp k * (n32 (a.drop (q + k + 1)) / 2 ^ s) = bp k * (4294967296 * (n32 (a.drop (q + k + 1)) / 2 ^ s)) := by ac_rfl
            rw [this]; omega
          have HE := Lib.hid (show _ ∧ _ from ⟨hE2, hL⟩)
          have hk5 : (k : Int) + 1 < (a.length : Int) - (q : Int) := by omega
          have hL2 : L.length ≤ 3000000 := by omega
          clear hE2 hE hrd hdd hlow hx hy hz ht hL or1
          go_wp2_with (at_builtin; refine wpList_append_u32 wr rfl (.tmp 44) (.tmp 51) rfl w.heap.size _ L _ (t % 4294967296) rfl rfl hown (by omega) hL2 hbel.size ?_; intro v1 w1 hown1 hb1)
          go_wp2
          exact ⟨⟨k + 1, _, by go_num, by omega, by simp [HE.out.2], dig_snoc hD (Nat.mod_lt _ (by decide)), HE.out.1, hown1, hbel.trans hb1⟩, by simp [intOf]; omega⟩
        · have hy0 : n32 (a.drop (q + k + 1)) = 0 := by rw [List.drop_eq_nil_of_le (by omega)]; rfl
          generalize hx : a.getD (q + k) 0 = x at *
          have hrd := right_digit (d := x) (t := n32 (a.drop (q + k + 1))) hs32 x1
          rw [← hdd, hy0] at hrd
          obtain ⟨t, ht⟩ : ∃ t : Nat, t = x / 2 ^ s := ⟨_, rfl⟩
          have hrd2 : t % 4294967296 + 4294967296 * 0 = n32 (a.drop (q + k)) / 2 ^ s := by rw [← hrd, ht]; simp
          have sh2 : (x : Int) / 2 ^ s = (t : Int) := by rw [ht]; simp
          have ht2 : (t : Int) ≤ 4294967295 := by
            have : t ≤ x := by rw [ht]; exact Nat.div_le_self _ _
            omega
          have x2 : (x : Int) ≤ 4294967295 := by omega
          have hE2 : n32 (L ++ [t % 4294967296]) + bp (k + 1) * (n32 (a.drop (q + k + 1)) / 2 ^ s) = n32 (a.drop q) / 2 ^ s := by
            rw [← hE, ← hrd2, n32_snoc, hL, hy0]; simp
          have HE := Lib.hid (show _ ∧ _ from ⟨hE2, hL⟩)
          have hk5 : (k : Int) + 1 = (a.length : Int) - (q : Int) := by omega
          have hL2 : L.length ≤ 3000000 := by omega
          clear hE2 hE hrd hrd2 hdd hlow hx ht hL hy0
          go_wp2_with (at_builtin; refine wpList_append_u32 wr rfl (.tmp 44) (.tmp 51) rfl w.heap.size _ L _ (t % 4294967296) rfl rfl hown (by omega) hL2 hbel.size ?_; intro v1 w1 hown1 hb1)
          go_wp2
          exact ⟨⟨k + 1, _, by go_num, by omega, by simp [HE.out.2], dig_snoc hD (Nat.mod_lt _ (by decide)), HE.out.1, hown1, hbel.trans hb1⟩, by simp [intOf]; omega⟩
      · have hk4 : (k : Int) = (a.length : Int) - (q : Int) := by omega
        have hend : n32 L = n32 (a.drop q) / 2 ^ s := by
          have : n32 (a.drop (q + k)) = 0 := by rw [List.drop_eq_nil_of_le (by omega)]; rfl
          rw [← hE, this]; simp
        have HE := Lib.hid hend
        clear hend hE
        go_wp2_with (fail)
        go_at_call 94
        have ht := trim_any _ L wr (Own.rd hown) hD
        rw [HE.out] at ht
        refine ht.mono ?_
        rintro _ w' ⟨⟨v, rfl, hbig⟩, hb⟩
        go_wp2
        go_ret
        exact ⟨⟨_, rfl, hbig⟩, hbel.trans (hb.mono hbel.size)⟩
end Go.Proofs.YtkmgfbhnioojhaaGreat

/- Contracts: orreryref03.cut, pair. -/
namespace Go.Proofs.YtkmgfbhnioojhaaGreat
set_option linter.unusedSimpArgs false
set_option linter.unusedVariables false
open Go.RowKit
open Fl

theorem right_big {v : Value} {m : Nat} {w : World} (h : Big w v m) (hm : m < bp 30000) (n : Nat) (hn : n ≤ 100000000) : Calls Tryz.prog 302 #[v, .int .i64 n] w (BigRes (m / 2 ^ n) w) := by
  obtain ⟨l, h1, h2, h3, rfl⟩ := h
  exact bright_any v l n w h1 h2 (big_len h3 rfl hm) hn
def dirI (down : Bool) : Int := if down then -1 else 1
theorem blen_le_bp {m k : Nat} (h : m < bp k) : blen m ≤ 32 * k := by
  by_cases hm : m = 0
  · rw [hm, blen_zero]; omega
  have a := blen_ge hm
  have p := blen_pos hm
  have b : 2 ^ (blen m - 1) < 2 ^ (32 * k) := by
    refine Nat.lt_of_le_of_lt a (Nat.lt_of_lt_of_le h ?_)
    rw [bp_pw, pw_eq]; exact Nat.le_refl _
  have := (Nat.pow_lt_pow_iff_right (by decide)).1 b
  omega

set_option maxHeartbeats 4000000 in
set_option maxRecDepth 100000 in
theorem cut_any (s : Bool) (A : Option Addr) (ka ca : Nat) (m : Nat) (e : Int) (down : Bool) (w : World) (ha : BigS w (.slice A ka ca) m) (hm : m < bp 3000) (e0 : -1000000 ≤ e) (e1 : e ≤ 1000000) :
    Calls Tryz.prog 251 #[(.agg #[.bool s, (.slice A ka ca), .int .i64 e]), .int .i64 (dirI down)] w (NumRes s (cutM s m down) (cutE m e) w) := by
  have hm3 : m < bp 30000 := Nat.lt_of_lt_of_le hm (bp_le (by decide))
  have hbl : blen m ≤ 96000 := blen_le_bp hm
  have bi := fun (w1 : World) (h : Below w.heap.size w w1) => IntRes.go (bits_big (ha w1 h) hm3)
  have ri := fun (w1 : World) (h : Below w.heap.size w w1) (n : Nat) (hn : n ≤ 100000000) => BigRes.go (right_big (ha w1 h) hm3 n hn)
  have HA := Lib.hid ha
  by_cases h : blen m ≤ 192
  · unfold cutM cutE
    rw [if_pos h, if_pos h]
    have BI := Lib.hid bi
    generalize blen m = l at *
    have h2 : (l : Int) - 192 ≤ 0 := by omega
    clear bi ri ha hm hm3
    go_enter Tryz.func251, Tryz.ntmps251
    go_wp2_with (go_at_call 95; refine (BI.out _ (by (repeat' first | (with_reducible first | exact Below.refl _ _ | assumption | refine Later.belowOf _ ?_ ?_ | refine Below.alloc ?_ ?_ _ | refine Below.setCell ?_ ?_ _ | refine Below.drewN' _ ?_ | refine Below.drew ?_ | exact Ge.le) | go_size))).mono ?_; rintro _ _ ⟨q6, rfl, rfl⟩)
    go_returns
    exact ⟨⟨_, _, _, rfl, HA.out _ (by (repeat' first | (with_reducible first | exact Below.refl _ _ | assumption | refine Later.belowOf _ ?_ ?_ | refine Below.alloc ?_ ?_ _ | refine Below.setCell ?_ ?_ _ | refine Below.drewN' _ ?_ | refine Below.drew ?_ | exact Ge.le) | go_size))⟩, by (repeat' first | (with_reducible first | exact Below.refl _ _ | assumption | refine Later.belowOf _ ?_ ?_ | refine Below.alloc ?_ ?_ _ | refine Below.setCell ?_ ?_ _ | refine Below.drewN' _ ?_ | refine Below.drew ?_ | exact Ge.le) | go_size)⟩
  · unfold cutM cutE cutN
    rw [if_neg h, if_neg h]
    obtain ⟨n, hn⟩ : ∃ n, blen m - 192 = n := ⟨_, rfl⟩
    have hl : blen m = n + 192 := by omega
    have hn1 : (n : Int) ≤ 96000 := by omega
    have hn0 : ¬ (n : Int) ≤ 0 := by omega
    have r1 := fun (w1 : World) (h : Below w.heap.size w w1) => ri w1 h n (by omega)
    have hp : m / 2 ^ n < bp 30000 := Nat.lt_of_le_of_lt (Nat.div_le_self _ _) hm3
    have o1 := fun (w1 : World) => BigRes.go (of_any 1 (by decide) w1)
    rw [hl] at bi
    rw [hn]
    generalize m / 2 ^ n = p at *
    have BI := Lib.hid bi
    have RI := Lib.hid r1
    have OI := Lib.hid o1
    have HP := Lib.hid hp
    clear bi ri r1 o1 ha hm hm3 hp hl h hbl hn
    have arm : down = s ∨ ¬ down = s := Decidable.em _
    rcases arm with hds | hds
    · rw [if_pos hds]
      subst hds
      cases down
      all_goals
        simp only [dirI, Bool.false_eq_true, if_true, if_false]
        go_enter Tryz.func251, Tryz.ntmps251
        go_wp2_with (first | (go_at_call 95; refine (BI.out _ (by (repeat' first | (with_reducible first | exact Below.refl _ _ | assumption | refine Later.belowOf _ ?_ ?_ | refine Below.alloc ?_ ?_ _ | refine Below.setCell ?_ ?_ _ | refine Below.drewN' _ ?_ | refine Below.drew ?_ | exact Ge.le) | go_size))).mono ?_; rintro _ _ ⟨q6, rfl, rfl⟩) | (go_at_call 302; refine (RI.out _ (by (repeat' first | (with_reducible first | exact Below.refl _ _ | assumption | refine Later.belowOf _ ?_ ?_ | refine Below.alloc ?_ ?_ _ | refine Below.setCell ?_ ?_ _ | refine Below.drewN' _ ?_ | refine Below.drew ?_ | exact Ge.le) | go_size))).mono ?_; rintro _ _ ⟨A2, k2, c2, q2, hq2, hk3, hk4, rfl, rfl⟩; have hq2' := hq2.out) | (go_at_call 23; refine (OI.out _).mono ?_; rintro _ _ ⟨A5, k5, c5, q5, hq5, hk5, hk6, rfl, rfl⟩; have hq5' := hq5.out) | (go_at_call 162; refine (BigRes.go (plus_big (by (repeat (first | (with_reducible assumption) | (with_reducible refine Big.drew ?_) | (with_reducible refine Big.drewN ?_ _) | (with_reducible refine Big.alloc ?_ _) | (with_reducible refine Big.later ?_ _) | (with_reducible refine Big.setCell ?_ _ (by go_simp))))) (by (repeat (first | (with_reducible assumption) | (with_reducible refine Big.drew ?_) | (with_reducible refine Big.drewN ?_ _) | (with_reducible refine Big.alloc ?_ _) | (with_reducible refine Big.later ?_ _) | (with_reducible refine Big.setCell ?_ _ (by go_simp))))) HP.out (by decide +kernel))).mono ?_; rintro _ _ ⟨A7, k7, c7, q7, hq7, hk7, hk8, rfl, rfl⟩; have hq7' := hq7.out))
        go_returns
        exact ⟨⟨_, _, _, rfl, by (repeat (first | (with_reducible assumption) | (with_reducible refine Big.drew ?_) | (with_reducible refine Big.drewN ?_ _) | (with_reducible refine Big.alloc ?_ _) | (with_reducible refine Big.later ?_ _) | (with_reducible refine Big.setCell ?_ _ (by go_simp))))⟩, by (repeat' first | (with_reducible first | exact Below.refl _ _ | assumption | refine Later.belowOf _ ?_ ?_ | refine Below.alloc ?_ ?_ _ | refine Below.setCell ?_ ?_ _ | refine Below.drewN' _ ?_ | refine Below.drew ?_ | exact Ge.le) | go_size)⟩
    · rw [if_neg hds]
      have hd2 : down = !s := by cases down <;> cases s <;> first | rfl | exact absurd rfl hds
      subst hd2
      clear hds
      cases s
      all_goals
        simp only [dirI, Bool.not_true, Bool.not_false, Bool.false_eq_true, if_true, if_false]
        go_enter Tryz.func251, Tryz.ntmps251
        go_wp2_with (first | (go_at_call 95; refine (BI.out _ (by (repeat' first | (with_reducible first | exact Below.refl _ _ | assumption | refine Later.belowOf _ ?_ ?_ | refine Below.alloc ?_ ?_ _ | refine Below.setCell ?_ ?_ _ | refine Below.drewN' _ ?_ | refine Below.drew ?_ | exact Ge.le) | go_size))).mono ?_; rintro _ _ ⟨q6, rfl, rfl⟩) | (go_at_call 302; refine (RI.out _ (by (repeat' first | (with_reducible first | exact Below.refl _ _ | assumption | refine Later.belowOf _ ?_ ?_ | refine Below.alloc ?_ ?_ _ | refine Below.setCell ?_ ?_ _ | refine Below.drewN' _ ?_ | refine Below.drew ?_ | exact Ge.le) | go_size))).mono ?_; rintro _ _ ⟨A2, k2, c2, q2, hq2, hk3, hk4, rfl, rfl⟩; have hq2' := hq2.out))
        go_returns
        exact ⟨⟨_, _, _, rfl, by (repeat (first | (with_reducible assumption) | (with_reducible refine Big.drew ?_) | (with_reducible refine Big.drewN ?_ _) | (with_reducible refine Big.alloc ?_ _) | (with_reducible refine Big.later ?_ _) | (with_reducible refine Big.setCell ?_ _ (by go_simp))))⟩, by (repeat' first | (with_reducible first | exact Below.refl _ _ | assumption | refine Later.belowOf _ ?_ ?_ | refine Below.alloc ?_ ?_ _ | refine Below.setCell ?_ ?_ _ | refine Below.drewN' _ ?_ | refine Below.drew ?_ | exact Ge.le) | go_size)⟩
end Go.Proofs.YtkmgfbhnioojhaaGreat

/- Contracts: orreryref03.pair, Neg, Add. -/
namespace Go.Proofs.YtkmgfbhnioojhaaGreat
set_option linter.unusedSimpArgs false
set_option linter.unusedVariables false
open Go.RowKit
open Fl

def PairRes (s : Bool) (m : Nat) (e : Int) (t : Bool) (n : Nat) (f : Int) (w : World) (E : Ending) (w' : World) : Prop :=
  (∃ (A : Option Addr) (k c : Nat) (B : Option Addr) (l d : Nat), E = .returned (.agg #[.bool s, (.slice A k c), .int .i64 e, .bool t, (.slice B l d), .int .i64 f]) ∧ Big w' (.slice A k c) m ∧ Big w' (.slice B l d) n) ∧ Below w.heap.size w w'
theorem PairRes.go {g : FuncId} {args : Array Value} {s t : Bool} {m n : Nat} {e f : Int} {w : World} (h : Calls Tryz.prog g args w (PairRes s m e t n f w)) : Calls Tryz.prog g args w fun E w' => ∃ (A : Option Addr) (k c : Nat) (B : Option Addr) (l d : Nat) (q : Later w), Hid (Big q.val (.slice A k c) m) ∧ Hid (Big q.val (.slice B l d) n) ∧ E = .returned (.agg #[.bool s, (.slice A k c), .int .i64 e, .bool t, (.slice B l d), .int .i64 f]) ∧ w' = q.val :=
  h.mono fun _ w' ⟨⟨A, k, c, B, l, d, he, h1, h2⟩, hbl⟩ => ⟨A, k, c, B, l, d, ⟨w', hbl⟩, h1, h2, he, rfl⟩

@[go_sem] theorem build_pr (s : Bool) (A : Option Addr) (k c : Nat) (e : Int) (t : Bool) (B : Option Addr) (l d : Nat) (f : Int) (w : World) : (Instr.build 35 #[(0, (.agg #[.bool s, (.slice A k c), .int .i64 e])), (1, (.agg #[.bool t, (.slice B l d), .int .i64 f]))]).run Tryz.prog w = .ok (.agg #[.bool s, (.slice A k c), .int .i64 e, .bool t, (.slice B l d), .int .i64 f]) w := run_build w 35 _ _ (by kernel_rfl)

set_option maxHeartbeats 8000000 in
set_option maxRecDepth 100000 in
theorem pair_any (s t : Bool) (A : Option Addr) (ka ca : Nat) (B : Option Addr) (kb cb : Nat) (m n : Nat) (e f : Int) (w : World) (ha : BigS w (.slice A ka ca) m) (hb : BigS w (.slice B kb cb) n) (hm : m < bp 3000) (hn : n < bp 3000)
    (e0 : -1000000 ≤ e) (e1 : e ≤ 1000000) (f0 : -1000000 ≤ f) (f1 : f ≤ 1000000) :
    Calls Tryz.prog 178 #[(.agg #[.bool s, (.slice A ka ca), .int .i64 e]), (.agg #[.bool t, (.slice B kb cb), .int .i64 f])] w (PairRes s (cutM s m true) (cutE m e) t (cutM t n false) (cutE n f) w) := by
  have c1 := fun (w1 : World) (h : Below w.heap.size w w1) => NumRes.go (cut_any s A ka ca m e true w1 (ha.at h) hm e0 e1)
  have c2 := fun (w1 : World) (h : Below w.heap.size w w1) => NumRes.go (cut_any t B kb cb n f false w1 (hb.at h) hn f0 f1)
  simp only [dirI, Bool.false_eq_true, if_true, if_false] at c1 c2
  generalize cutM s m true = m' at *
  generalize cutM t n false = n' at *
  generalize cutE m e = e' at *
  generalize cutE n f = f' at *
  have C1 := Lib.hid c1
  have C2 := Lib.hid c2
  clear c1 c2 ha hb hm hn e0 e1 f0 f1
  go_enter Tryz.func178, Tryz.ntmps178
  go_wp2_with (fail)
  go_region_held3 (fun w' => w'.cell? ⟨w.heap.size, 0, none⟩ = some (.bool s) ∧ w'.cell? ⟨w.heap.size, 1, none⟩ = some (.slice A ka ca) ∧ w'.cell? ⟨w.heap.size, 2, none⟩ = some (.int .i64 e) ∧ w'.cell? ⟨w.heap.size + 1, 0, none⟩ = some (.bool t) ∧ w'.cell? ⟨w.heap.size + 1, 1, none⟩ = some (.slice B kb cb) ∧ w'.cell? ⟨w.heap.size + 1, 2, none⟩ = some (.int .i64 f))
    (first | (go_simp; done) | go_keep)
    ((first | (go_at_call 251; with_reducible refine (C1.out _ (by (repeat' first | (with_reducible first | exact Below.refl _ _ | assumption | refine Later.belowOf _ ?_ ?_ | refine Below.alloc ?_ ?_ _ | refine Below.setCell ?_ ?_ _ | refine Below.drewN' _ ?_ | refine Below.drew ?_ | exact Ge.le) | go_size))).mono ?_; rintro _ _ ⟨A2, k2, d2, q2, hq2, rfl, rfl⟩; have hq2' := hq2.out) | (go_at_call 251; with_reducible refine (C2.out _ (by (repeat' first | (with_reducible first | exact Below.refl _ _ | assumption | refine Later.belowOf _ ?_ ?_ | refine Below.alloc ?_ ?_ _ | refine Below.setCell ?_ ?_ _ | refine Below.drewN' _ ?_ | refine Below.drew ?_ | exact Ge.le) | go_size))).mono ?_; rintro _ _ ⟨A3, k3, d3, q3, hq3, rfl, rfl⟩; have hq3' := hq3.out)))
  all_goals
    rename_i hHeld
    clear hHeld
    go_wp2
    go_returns
    exact ⟨⟨_, _, _, _, _, _, rfl, by (repeat (first | (with_reducible assumption) | (with_reducible refine Big.drew ?_) | (with_reducible refine Big.drewN ?_ _) | (with_reducible refine Big.alloc ?_ _) | (with_reducible refine Big.later ?_ _) | (with_reducible refine Big.setCell ?_ _ (by go_simp)))), by (repeat (first | (with_reducible assumption) | (with_reducible refine Big.drew ?_) | (with_reducible refine Big.drewN ?_ _) | (with_reducible refine Big.alloc ?_ _) | (with_reducible refine Big.later ?_ _) | (with_reducible refine Big.setCell ?_ _ (by go_simp))))⟩, by (repeat' first | (with_reducible first | exact Below.refl _ _ | assumption | refine Later.belowOf _ ?_ ?_ | refine Below.alloc ?_ ?_ _ | refine Below.setCell ?_ ?_ _ | refine Below.drewN' _ ?_ | refine Below.drew ?_ | exact Ge.le) | go_size)⟩
end Go.Proofs.YtkmgfbhnioojhaaGreat

/- Contracts: sums and minus as they are worked out; orreryref03.Neg, Add, Of, Int. -/
namespace Go.Proofs.YtkmgfbhnioojhaaGreat
set_option linter.unusedSimpArgs false
set_option linter.unusedVariables false
open Go.RowKit
open Fl

/-- A number of the reference's. -/
structure Q where
  s : Bool
  m : Nat
  e : Int
  deriving DecidableEq
namespace Q
def neg (a : Q) : Q := ⟨!a.s && decide (0 < a.m), a.m, a.e⟩
def add (a b : Q) : Q :=
  if a.m = 0 then b else if b.m = 0 then a else
    if a.s = b.s then ⟨a.s, a.m * 2 ^ (a.e - min a.e b.e).toNat + b.m * 2 ^ (b.e - min a.e b.e).toNat, min a.e b.e⟩
    else if a.m * 2 ^ (a.e - min a.e b.e).toNat = b.m * 2 ^ (b.e - min a.e b.e).toNat then ⟨false, 0, 0⟩
    else if b.m * 2 ^ (b.e - min a.e b.e).toNat < a.m * 2 ^ (a.e - min a.e b.e).toNat then ⟨a.s, a.m * 2 ^ (a.e - min a.e b.e).toNat - b.m * 2 ^ (b.e - min a.e b.e).toNat, min a.e b.e⟩
    else ⟨b.s, b.m * 2 ^ (b.e - min a.e b.e).toNat - a.m * 2 ^ (a.e - min a.e b.e).toNat, min a.e b.e⟩
def mul (a b : Q) : Q := ⟨prodS a.s b.s a.m b.m, a.m * b.m, prodE a.m b.m a.e b.e⟩
def cut (a : Q) (down : Bool) : Q := ⟨a.s, cutM a.s a.m down, cutE a.m a.e⟩
/-- Small enough for all. -/
def Ok (a : Q) : Prop := a.m < bp 8 ∧ -30000 ≤ a.e ∧ a.e ≤ 30000
/-- What two such may come to before it is cut. -/
def Wide (a : Q) : Prop := a.m < bp 3000 ∧ -1000000 ≤ a.e ∧ a.e ≤ 1000000
end Q
theorem shift_lt {m : Nat} {k : Nat} (h : m < bp 8) (hk : k ≤ 60000) : m * 2 ^ k < bp 2000 := by
  obtain ⟨K, hK⟩ : ∃ K, 32 * 1875 = K := ⟨_, rfl⟩
  have h1 : 2 ^ k ≤ bp 1875 := by rw [bp_pw, pw_eq, hK]; exact Nat.pow_le_pow_right (by decide) (by omega)
  have h2 : m * 2 ^ k < bp 8 * bp 1875 := Nat.lt_of_lt_of_le (Nat.mul_lt_mul_of_pos_right h (Nat.two_pow_pos k)) (Nat.mul_le_mul_left _ h1)
  rw [← bp_add] at h2
  exact Nat.lt_of_lt_of_le h2 (bp_le (by decide))
theorem Q.add_wide {a b : Q} (ha : a.Ok) (hb : b.Ok) : (a.add b).Wide := by
  obtain ⟨a1, a2, a3⟩ := ha
  obtain ⟨b1, b2, b3⟩ := hb
  have w1 := Nat.lt_of_lt_of_le a1 (bp_le (show 8 ≤ 3000 by decide))
  have w2 := Nat.lt_of_lt_of_le b1 (bp_le (show 8 ≤ 3000 by decide))
  have s1 := shift_lt (k := (a.e - min a.e b.e).toNat) a1 (by omega)
  have s2 := shift_lt (k := (b.e - min a.e b.e).toNat) b1 (by omega)
  have l1 : bp 3000 = bp 1000 * bp 2000 := by rw [← bp_add]
  have l2 : 2 * bp 2000 ≤ bp 3000 := by
    rw [l1]; exact Nat.mul_le_mul_right _ (Nat.le_trans (by unfold bp; decide) (bp_le (show 1 ≤ 1000 by decide)))
  unfold Q.add Q.Wide
  generalize a.m * 2 ^ (a.e - min a.e b.e).toNat = x at *
  generalize b.m * 2 ^ (b.e - min a.e b.e).toNat = y at *
  have p := bp_pos 3000
  generalize bp 3000 = L at *
  generalize bp 2000 = M at *
  clear l1
  have g1 : -1000000 ≤ min a.e b.e := by omega
  have g2 : min a.e b.e ≤ 1000000 := by omega
  split
  · exact ⟨w2, by omega, by omega⟩
  split
  · exact ⟨w1, by omega, by omega⟩
  split
  · exact ⟨by show x + y < L; omega, g1, g2⟩
  split
  · exact ⟨p, by decide, by decide⟩
  split
  · exact ⟨by show x - y < L; omega, g1, g2⟩
  · exact ⟨by show y - x < L; omega, g1, g2⟩

theorem sumQ_any (a b : Q) (A : Option Addr) (ka ca : Nat) (B : Option Addr) (kb cb : Nat) (w : World) (ha : BigS w (.slice A ka ca) a.m) (hb : BigS w (.slice B kb cb) b.m) (oa : a.Ok) (ob : b.Ok) :
    Calls Tryz.prog 79 #[(.agg #[.bool a.s, (.slice A ka ca), .int .i64 a.e]), (.agg #[.bool b.s, (.slice B kb cb), .int .i64 b.e])] w (NumRes (a.add b).s (a.add b).m (a.add b).e w) := by
  obtain ⟨s, m, e⟩ := a
  obtain ⟨t, n, f⟩ := b
  obtain ⟨a1, a2, a3⟩ := oa
  obtain ⟨b1, b2, b3⟩ := ob
  simp only at *
  have h8 : bp 8 ≤ bp 30000 := bp_le (by decide)
  have h20 : bp 2000 ≤ bp 30000 := bp_le (by decide)
  have s1 := shift_lt (k := (e - min e f).toNat) a1 (by omega)
  have s2 := shift_lt (k := (f - min e f).toNat) b1 (by omega)
  have x1 := Nat.lt_of_lt_of_le a1 h8
  have x2 := Nat.lt_of_lt_of_le b1 h8
  have x3 := Nat.lt_of_lt_of_le s1 h20
  have x4 := Nat.lt_of_lt_of_le s2 h20
  clear h8 h20 s1 s2 a1 b1
  unfold Q.add
  simp only
  by_cases hm0 : m = 0
  · subst hm0
    rw [if_pos rfl]
    exact sum_zero1b s t A ka ca B kb cb n e f w ha hb
  rw [if_neg hm0]
  by_cases hn0 : n = 0
  · subst hn0
    rw [if_pos rfl]
    exact sum_zero2b s t A ka ca B kb cb m e f w ha hb hm0
  rw [if_neg hn0]
  obtain ⟨g, hg⟩ : ∃ g, min e f = g := ⟨_, rfl⟩
  rw [hg] at x3 x4 ⊢
  by_cases hst : s = t
  · subst hst
    rw [if_pos rfl]
    exact sum_same s A ka ca B kb cb m n e f g w hg ha hb hm0 hn0 x1 x2 x3 x4 (by omega) (by omega) (by omega) (by omega)
  rw [if_neg hst]
  by_cases h1 : m * 2 ^ (e - g).toNat = n * 2 ^ (f - g).toNat
  · rw [if_pos h1]
    exact sum_null s t A ka ca B kb cb m n e f g w hg ha hb hst h1 hm0 hn0 x1 x2 x3 x4 (by omega) (by omega) (by omega) (by omega)
  rw [if_neg h1]
  by_cases h2 : n * 2 ^ (f - g).toNat < m * 2 ^ (e - g).toNat
  · rw [if_pos h2]
    exact sum_gt s t A ka ca B kb cb m n e f g w hg ha hb hst h2 hm0 hn0 x1 x2 x3 x4 (by omega) (by omega) (by omega) (by omega)
  · rw [if_neg h2]
    exact sum_lt s t A ka ca B kb cb m n e f g w hg ha hb hst (by omega) hm0 hn0 x1 x2 x3 x4 (by omega) (by omega) (by omega) (by omega)

set_option maxHeartbeats 4000000 in
theorem minusQ_any (a : Q) (A : Option Addr) (ka ca : Nat) (w : World) (ha : BigS w (.slice A ka ca) a.m) :
    Calls Tryz.prog 80 #[(.agg #[.bool a.s, (.slice A ka ca), .int .i64 a.e])] w (NumRes a.neg.s a.neg.m a.neg.e w) := by
  obtain ⟨s, m, e⟩ := a
  unfold Q.neg
  simp only at *
  have HA := Lib.hid ha
  obtain ⟨A', k', c', h1, h2, h3⟩ := (ha w (Below.refl _ _)).len
  injection h1 with h1 h4 h5
  subst h1 h4 h5
  clear ha
  by_cases hm : m = 0
  · obtain rfl := h2.2 hm
    subst hm
    clear h2 h3
    cases s
    all_goals
      go_enter Tryz.func80, Tryz.ntmps80
      go_wp2
      go_returns
      exact ⟨⟨_, _, _, rfl, HA.out _ (by (repeat' first | (with_reducible first | exact Below.refl _ _ | assumption | refine Later.belowOf _ ?_ ?_ | refine Below.alloc ?_ ?_ _ | refine Below.setCell ?_ ?_ _ | refine Below.drewN' _ ?_ | refine Below.drew ?_ | exact Ge.le) | go_size))⟩, by (repeat' first | (with_reducible first | exact Below.refl _ _ | assumption | refine Later.belowOf _ ?_ ?_ | refine Below.alloc ?_ ?_ _ | refine Below.setCell ?_ ?_ _ | refine Below.drewN' _ ?_ | refine Below.drew ?_ | exact Ge.le) | go_size)⟩
  · have hk : (0 : Int) < (ka : Int) := by
      have : ka ≠ 0 := fun h => hm (h2.1 h)
      omega
    have hm2 : decide (0 < m) = true := by rw [decide_eq_true_eq]; omega
    rw [hm2]
    have hk2 : decide (0 < ka) = true := by rw [decide_eq_true_eq]; omega
    clear h2 h3 hm hm2
    cases s
    all_goals
      go_enter Tryz.func80, Tryz.ntmps80
      go_wp2
      go_returns
      exact ⟨⟨_, _, _, (by first | rfl | (rw [hk2]; rfl)), HA.out _ (by (repeat' first | (with_reducible first | exact Below.refl _ _ | assumption | refine Later.belowOf _ ?_ ?_ | refine Below.alloc ?_ ?_ _ | refine Below.setCell ?_ ?_ _ | refine Below.drewN' _ ?_ | refine Below.drew ?_ | exact Ge.le) | go_size))⟩, by (repeat' first | (with_reducible first | exact Below.refl _ _ | assumption | refine Later.belowOf _ ?_ ?_ | refine Below.alloc ?_ ?_ _ | refine Below.setCell ?_ ?_ _ | refine Below.drewN' _ ?_ | refine Below.drew ?_ | exact Ge.le) | go_size)⟩

/-- A pair of the reference's. -/
structure P2 where
  a : Q
  b : Q
  deriving DecidableEq
def PRes (p : P2) (w : World) (E : Ending) (w' : World) : Prop := PairRes p.a.s p.a.m p.a.e p.b.s p.b.m p.b.e w E w'
def P2.of (a b : Q) : P2 := ⟨a.cut true, b.cut false⟩
def P2.neg (x : P2) : P2 := ⟨x.b.neg, x.a.neg⟩
def P2.add (x y : P2) : P2 := P2.of (x.a.add y.a) (x.b.add y.b)
def P2.shift (x : P2) (n : Int) : P2 := ⟨⟨x.a.s, x.a.m, x.a.e + n⟩, ⟨x.b.s, x.b.m, x.b.e + n⟩⟩
def P2.Ok (x : P2) : Prop := x.a.Ok ∧ x.b.Ok
theorem pairQ_any (a b : Q) (A : Option Addr) (ka ca : Nat) (B : Option Addr) (kb cb : Nat) (w : World) (ha : BigS w (.slice A ka ca) a.m) (hb : BigS w (.slice B kb cb) b.m) (oa : a.Wide) (ob : b.Wide) :
    Calls Tryz.prog 178 #[(.agg #[.bool a.s, (.slice A ka ca), .int .i64 a.e]), (.agg #[.bool b.s, (.slice B kb cb), .int .i64 b.e])] w (PRes (P2.of a b) w) :=
  pair_any a.s b.s A ka ca B kb cb a.m b.m a.e b.e w ha hb oa.1 ob.1 oa.2.1 oa.2.2 ob.2.1 ob.2.2

set_option maxHeartbeats 8000000 in
set_option maxRecDepth 100000 in
theorem addP2_any (x y : P2) (A : Option Addr) (ka ca : Nat) (B : Option Addr) (kb cb : Nat) (C : Option Addr) (kc cc : Nat) (D : Option Addr) (kd cd : Nat) (w : World) (hA : BigS w (.slice A ka ca) x.a.m) (hB : BigS w (.slice B kb cb) x.b.m) (hC : BigS w (.slice C kc cc) y.a.m) (hD : BigS w (.slice D kd cd) y.b.m) (ox : x.Ok) (oy : y.Ok) :
    Calls Tryz.prog 99 #[(.agg #[.bool x.a.s, (.slice A ka ca), .int .i64 x.a.e, .bool x.b.s, (.slice B kb cb), .int .i64 x.b.e]), (.agg #[.bool y.a.s, (.slice C kc cc), .int .i64 y.a.e, .bool y.b.s, (.slice D kd cd), .int .i64 y.b.e])] w (PRes (x.add y) w) := by
  have c1 := fun (w1 : World) (h : Below w.heap.size w w1) => NumRes.go (sumQ_any x.a y.a A ka ca C kc cc w1 (hA.at h) (hC.at h) ox.1 oy.1)
  have c2 := fun (w1 : World) (h : Below w.heap.size w w1) => NumRes.go (sumQ_any x.b y.b B kb cb D kd cd w1 (hB.at h) (hD.at h) ox.2 oy.2)
  have c3 := fun (w1 : World) (A' : Option Addr) (k' c' : Nat) (B' : Option Addr) (l' d' : Nat) (h1 : Big w1 (.slice A' k' c') (x.a.add y.a).m) (h2 : Big w1 (.slice B' l' d') (x.b.add y.b).m) => PairRes.go (pairQ_any (x.a.add y.a) (x.b.add y.b) A' k' c' B' l' d' w1 h1.stays h2.stays (Q.add_wide ox.1 oy.1) (Q.add_wide ox.2 oy.2))
  have e0 : P2.of (x.a.add y.a) (x.b.add y.b) = x.add y := rfl
  rw [e0] at c3
  generalize x.add y = z at *
  generalize x.a.add y.a = p at *
  generalize x.b.add y.b = q at *
  obtain ⟨⟨xs, xm, xe⟩, ⟨xt, xn, xf⟩⟩ := x
  obtain ⟨⟨ys, ym, ye⟩, ⟨yt, yn, yf⟩⟩ := y
  obtain ⟨⟨zs, zm, ze⟩, ⟨zt, zn, zf⟩⟩ := z
  obtain ⟨ps, pm, pe⟩ := p
  obtain ⟨qs, qm, qe⟩ := q
  simp only at *
  have C1 := Lib.hid c1
  have C2 := Lib.hid c2
  have C3 := Lib.hid c3
  clear c1 c2 c3 hA hB hC hD ox oy e0
  unfold PRes
  simp only
  go_enter Tryz.func99, Tryz.ntmps99
  go_wp2_with (fail)
  go_region_held3 (fun w' => w'.cell? ⟨w.heap.size, 0, none⟩ = some (.bool xs) ∧ w'.cell? ⟨w.heap.size, 1, none⟩ = some (.slice A ka ca) ∧ w'.cell? ⟨w.heap.size, 2, none⟩ = some (.int .i64 xe) ∧ w'.cell? ⟨w.heap.size, 3, none⟩ = some (.bool xt) ∧ w'.cell? ⟨w.heap.size, 4, none⟩ = some (.slice B kb cb) ∧ w'.cell? ⟨w.heap.size, 5, none⟩ = some (.int .i64 xf) ∧ w'.cell? ⟨w.heap.size + 1, 0, none⟩ = some (.bool ys) ∧ w'.cell? ⟨w.heap.size + 1, 1, none⟩ = some (.slice C kc cc) ∧ w'.cell? ⟨w.heap.size + 1, 2, none⟩ = some (.int .i64 ye) ∧ w'.cell? ⟨w.heap.size + 1, 3, none⟩ = some (.bool yt) ∧ w'.cell? ⟨w.heap.size + 1, 4, none⟩ = some (.slice D kd cd) ∧ w'.cell? ⟨w.heap.size + 1, 5, none⟩ = some (.int .i64 yf))
    (first | (go_simp; done) | go_keep)
    ((first | (go_at_call 79; with_reducible refine (C1.out _ (by (repeat' first | (with_reducible first | exact Below.refl _ _ | assumption | refine Later.belowOf _ ?_ ?_ | refine Below.alloc ?_ ?_ _ | refine Below.setCell ?_ ?_ _ | refine Below.drewN' _ ?_ | refine Below.drew ?_ | exact Ge.le) | go_size))).mono ?_; rintro _ _ ⟨A2, k2, d2, q2, hq2, rfl, rfl⟩; have hq2' := hq2.out) | (go_at_call 79; with_reducible refine (C2.out _ (by (repeat' first | (with_reducible first | exact Below.refl _ _ | assumption | refine Later.belowOf _ ?_ ?_ | refine Below.alloc ?_ ?_ _ | refine Below.setCell ?_ ?_ _ | refine Below.drewN' _ ?_ | refine Below.drew ?_ | exact Ge.le) | go_size))).mono ?_; rintro _ _ ⟨A3, k3, d3, q3, hq3, rfl, rfl⟩; have hq3' := hq3.out) | (go_at_call 178; with_reducible refine (C3.out _ _ _ _ _ _ _ (by (repeat (first | (with_reducible assumption) | (with_reducible refine Big.drew ?_) | (with_reducible refine Big.drewN ?_ _) | (with_reducible refine Big.alloc ?_ _) | (with_reducible refine Big.later ?_ _) | (with_reducible refine Big.setCell ?_ _ (by go_simp))))) (by (repeat (first | (with_reducible assumption) | (with_reducible refine Big.drew ?_) | (with_reducible refine Big.drewN ?_ _) | (with_reducible refine Big.alloc ?_ _) | (with_reducible refine Big.later ?_ _) | (with_reducible refine Big.setCell ?_ _ (by go_simp)))))).mono ?_; rintro _ _ ⟨A4, k4, d4, B4, l4, e4, q4, hq4, hq5, rfl, rfl⟩; have hq4' := hq4.out; have hq5' := hq5.out)))
  all_goals
    rename_i hHeld
    clear hHeld
    go_wp2
    go_returns
    exact ⟨⟨_, _, _, _, _, _, rfl, by (repeat (first | (with_reducible assumption) | (with_reducible refine Big.drew ?_) | (with_reducible refine Big.drewN ?_ _) | (with_reducible refine Big.alloc ?_ _) | (with_reducible refine Big.later ?_ _) | (with_reducible refine Big.setCell ?_ _ (by go_simp)))), by (repeat (first | (with_reducible assumption) | (with_reducible refine Big.drew ?_) | (with_reducible refine Big.drewN ?_ _) | (with_reducible refine Big.alloc ?_ _) | (with_reducible refine Big.later ?_ _) | (with_reducible refine Big.setCell ?_ _ (by go_simp))))⟩, by (repeat' first | (with_reducible first | exact Below.refl _ _ | assumption | refine Later.belowOf _ ?_ ?_ | refine Below.alloc ?_ ?_ _ | refine Below.setCell ?_ ?_ _ | refine Below.drewN' _ ?_ | refine Below.drew ?_ | exact Ge.le) | go_size)⟩
end Go.Proofs.YtkmgfbhnioojhaaGreat

/- Contracts: orreryref03.Neg, Of, Int, Shift. -/
namespace Go.Proofs.YtkmgfbhnioojhaaGreat
set_option linter.unusedSimpArgs false
set_option linter.unusedVariables false
open Go.RowKit
open Fl

set_option maxHeartbeats 8000000 in
set_option maxRecDepth 100000 in
theorem negP2_any (x : P2) (A : Option Addr) (ka ca : Nat) (B : Option Addr) (kb cb : Nat) (w : World) (hA : BigS w (.slice A ka ca) x.a.m) (hB : BigS w (.slice B kb cb) x.b.m) :
    Calls Tryz.prog 24 #[(.agg #[.bool x.a.s, (.slice A ka ca), .int .i64 x.a.e, .bool x.b.s, (.slice B kb cb), .int .i64 x.b.e])] w (PRes x.neg w) := by
  have c1 := fun (w1 : World) (h : Below w.heap.size w w1) => NumRes.go (minusQ_any x.a A ka ca w1 (hA.at h))
  have c2 := fun (w1 : World) (h : Below w.heap.size w w1) => NumRes.go (minusQ_any x.b B kb cb w1 (hB.at h))
  unfold P2.neg
  generalize x.a.neg = p at *
  generalize x.b.neg = q at *
  obtain ⟨⟨xs, xm, xe⟩, ⟨xt, xn, xf⟩⟩ := x
  obtain ⟨ps, pm, pe⟩ := p
  obtain ⟨qs, qm, qe⟩ := q
  simp only at *
  have C1 := Lib.hid c1
  have C2 := Lib.hid c2
  clear c1 c2 hA hB
  unfold PRes
  simp only
  go_enter Tryz.func24, Tryz.ntmps24
  go_wp2_with (fail)
  go_region_held3 (fun w' => w'.cell? ⟨w.heap.size, 0, none⟩ = some (.bool xs) ∧ w'.cell? ⟨w.heap.size, 1, none⟩ = some (.slice A ka ca) ∧ w'.cell? ⟨w.heap.size, 2, none⟩ = some (.int .i64 xe) ∧ w'.cell? ⟨w.heap.size, 3, none⟩ = some (.bool xt) ∧ w'.cell? ⟨w.heap.size, 4, none⟩ = some (.slice B kb cb) ∧ w'.cell? ⟨w.heap.size, 5, none⟩ = some (.int .i64 xf))
    (first | (go_simp; done) | go_keep)
    ((first | (go_at_call 80; with_reducible refine (C1.out _ (by (repeat' first | (with_reducible first | exact Below.refl _ _ | assumption | refine Later.belowOf _ ?_ ?_ | refine Below.alloc ?_ ?_ _ | refine Below.setCell ?_ ?_ _ | refine Below.drewN' _ ?_ | refine Below.drew ?_ | exact Ge.le) | go_size))).mono ?_; rintro _ _ ⟨A2, k2, d2, q2, hq2, rfl, rfl⟩; have hq2' := hq2.out) | (go_at_call 80; with_reducible refine (C2.out _ (by (repeat' first | (with_reducible first | exact Below.refl _ _ | assumption | refine Later.belowOf _ ?_ ?_ | refine Below.alloc ?_ ?_ _ | refine Below.setCell ?_ ?_ _ | refine Below.drewN' _ ?_ | refine Below.drew ?_ | exact Ge.le) | go_size))).mono ?_; rintro _ _ ⟨A3, k3, d3, q3, hq3, rfl, rfl⟩; have hq3' := hq3.out)))
  all_goals
    rename_i hHeld
    clear hHeld
    go_wp2
    go_returns
    exact ⟨⟨_, _, _, _, _, _, rfl, by (repeat (first | (with_reducible assumption) | (with_reducible refine Big.drew ?_) | (with_reducible refine Big.drewN ?_ _) | (with_reducible refine Big.alloc ?_ _) | (with_reducible refine Big.later ?_ _) | (with_reducible refine Big.setCell ?_ _ (by go_simp)))), by (repeat (first | (with_reducible assumption) | (with_reducible refine Big.drew ?_) | (with_reducible refine Big.drewN ?_ _) | (with_reducible refine Big.alloc ?_ _) | (with_reducible refine Big.later ?_ _) | (with_reducible refine Big.setCell ?_ _ (by go_simp))))⟩, by (repeat' first | (with_reducible first | exact Below.refl _ _ | assumption | refine Later.belowOf _ ?_ ?_ | refine Below.alloc ?_ ?_ _ | refine Below.setCell ?_ ?_ _ | refine Below.drewN' _ ?_ | refine Below.drew ?_ | exact Ge.le) | go_size)⟩

set_option maxHeartbeats 4000000 in
set_option maxRecDepth 100000 in
theorem ofP2_any (a : Q) (A : Option Addr) (ka ca : Nat) (w : World) (hA : BigS w (.slice A ka ca) a.m) :
    Calls Tryz.prog 22 #[(.agg #[.bool a.s, (.slice A ka ca), .int .i64 a.e])] w (PRes ⟨a, a⟩ w) := by
  obtain ⟨s, m, e⟩ := a
  simp only at *
  have HA := Lib.hid hA
  clear hA
  unfold PRes
  simp only
  go_enter Tryz.func22, Tryz.ntmps22
  go_wp2
  go_returns
  exact ⟨⟨_, _, _, _, _, _, rfl, HA.out _ (by (repeat' first | (with_reducible first | exact Below.refl _ _ | assumption | refine Later.belowOf _ ?_ ?_ | refine Below.alloc ?_ ?_ _ | refine Below.setCell ?_ ?_ _ | refine Below.drewN' _ ?_ | refine Below.drew ?_ | exact Ge.le) | go_size)), HA.out _ (by (repeat' first | (with_reducible first | exact Below.refl _ _ | assumption | refine Later.belowOf _ ?_ ?_ | refine Below.alloc ?_ ?_ _ | refine Below.setCell ?_ ?_ _ | refine Below.drewN' _ ?_ | refine Below.drew ?_ | exact Ge.le) | go_size))⟩, by (repeat' first | (with_reducible first | exact Below.refl _ _ | assumption | refine Later.belowOf _ ?_ ?_ | refine Below.alloc ?_ ?_ _ | refine Below.setCell ?_ ?_ _ | refine Below.drewN' _ ?_ | refine Below.drew ?_ | exact Ge.le) | go_size)⟩

set_option maxHeartbeats 4000000 in
set_option maxRecDepth 100000 in
theorem intQ_any (n : Nat) (hn : n < 1000000000) (w : World) : Calls Tryz.prog 66 #[.int .i64 n] w (NumRes false n 0 w) := by
  have o1 := fun w => BigRes.go (of_any n (by omega) w)
  have O := Lib.hid o1
  have n0 : ¬ (n : Int) < 0 := by omega
  have n1 : (n : Int) ≤ 1000000000 := by omega
  clear o1 hn
  go_enter Tryz.func66, Tryz.ntmps66
  go_wp2_with (go_at_call 23; refine (O.out _).mono ?_; rintro _ _ ⟨A2, k2, c2, q2, hq3, hk3, hk4, rfl, rfl⟩)
  go_returns
  have hq3' := hq3.out
  exact ⟨⟨_, _, _, rfl, by (repeat (first | (with_reducible assumption) | (with_reducible refine Big.drew ?_) | (with_reducible refine Big.drewN ?_ _) | (with_reducible refine Big.alloc ?_ _) | (with_reducible refine Big.later ?_ _) | (with_reducible refine Big.setCell ?_ _ (by go_simp))))⟩, by (repeat' first | (with_reducible first | exact Below.refl _ _ | assumption | refine Later.belowOf _ ?_ ?_ | refine Below.alloc ?_ ?_ _ | refine Below.setCell ?_ ?_ _ | refine Below.drewN' _ ?_ | refine Below.drew ?_ | exact Ge.le) | go_size)⟩

set_option maxHeartbeats 4000000 in
set_option maxRecDepth 100000 in
theorem intP2_any (n : Nat) (hn : n < 1000000000) (w : World) : Calls Tryz.prog 98 #[.int .i64 n] w (PRes ⟨⟨false, n, 0⟩, ⟨false, n, 0⟩⟩ w) := by
  have o1 := fun w => NumRes.go (intQ_any n hn w)
  have o2 := fun (w1 : World) (A : Option Addr) (k c : Nat) (h : Big w1 (.slice A k c) n) => PairRes.go (ofP2_any ⟨false, n, 0⟩ A k c w1 h.stays)
  simp only at o2
  have O1 := Lib.hid o1
  have O2 := Lib.hid o2
  clear o1 o2
  unfold PRes
  simp only
  go_enter Tryz.func98, Tryz.ntmps98
  go_wp2_with (first | (go_at_call 66; refine (O1.out _).mono ?_; rintro _ _ ⟨A2, k2, c2, q2, hq2, rfl, rfl⟩; have hq2' := hq2.out) | (go_at_call 22; refine (O2.out _ _ _ _ (by (repeat (first | (with_reducible assumption) | (with_reducible refine Big.drew ?_) | (with_reducible refine Big.drewN ?_ _) | (with_reducible refine Big.alloc ?_ _) | (with_reducible refine Big.later ?_ _) | (with_reducible refine Big.setCell ?_ _ (by go_simp)))))).mono ?_; rintro _ _ ⟨A4, k4, d4, B4, l4, e4, q4, hq4, hq5, rfl, rfl⟩; have hq4' := hq4.out; have hq5' := hq5.out))
  go_returns
  exact ⟨⟨_, _, _, _, _, _, rfl, by (repeat (first | (with_reducible assumption) | (with_reducible refine Big.drew ?_) | (with_reducible refine Big.drewN ?_ _) | (with_reducible refine Big.alloc ?_ _) | (with_reducible refine Big.later ?_ _) | (with_reducible refine Big.setCell ?_ _ (by go_simp)))), by (repeat (first | (with_reducible assumption) | (with_reducible refine Big.drew ?_) | (with_reducible refine Big.drewN ?_ _) | (with_reducible refine Big.alloc ?_ _) | (with_reducible refine Big.later ?_ _) | (with_reducible refine Big.setCell ?_ _ (by go_simp))))⟩, by (repeat' first | (with_reducible first | exact Below.refl _ _ | assumption | refine Later.belowOf _ ?_ ?_ | refine Below.alloc ?_ ?_ _ | refine Below.setCell ?_ ?_ _ | refine Below.drewN' _ ?_ | refine Below.drew ?_ | exact Ge.le) | go_size)⟩

set_option maxHeartbeats 4000000 in
set_option maxRecDepth 100000 in
theorem shiftP2_any (x : P2) (n : Int) (A : Option Addr) (ka ca : Nat) (B : Option Addr) (kb cb : Nat) (w : World) (hA : BigS w (.slice A ka ca) x.a.m) (hB : BigS w (.slice B kb cb) x.b.m) (ox : x.Ok) (n0 : -20000 ≤ n) (n1 : n ≤ 20000) :
    Calls Tryz.prog 27 #[(.agg #[.bool x.a.s, (.slice A ka ca), .int .i64 x.a.e, .bool x.b.s, (.slice B kb cb), .int .i64 x.b.e]), .int .i64 n] w (PRes (x.shift n) w) := by
  obtain ⟨⟨_, o1, o2⟩, ⟨_, o3, o4⟩⟩ := ox
  obtain ⟨⟨xs, xm, xe⟩, ⟨xt, xn, xf⟩⟩ := x
  unfold P2.shift
  simp only at *
  have HA := Lib.hid hA
  have HB := Lib.hid hB
  clear hA hB
  unfold PRes
  simp only
  go_enter Tryz.func27, Tryz.ntmps27
  go_wp2
  go_returns
  exact ⟨⟨_, _, _, _, _, _, rfl, HA.out _ (by (repeat' first | (with_reducible first | exact Below.refl _ _ | assumption | refine Later.belowOf _ ?_ ?_ | refine Below.alloc ?_ ?_ _ | refine Below.setCell ?_ ?_ _ | refine Below.drewN' _ ?_ | refine Below.drew ?_ | exact Ge.le) | go_size)), HB.out _ (by (repeat' first | (with_reducible first | exact Below.refl _ _ | assumption | refine Later.belowOf _ ?_ ?_ | refine Below.alloc ?_ ?_ _ | refine Below.setCell ?_ ?_ _ | refine Below.drewN' _ ?_ | refine Below.drew ?_ | exact Ge.le) | go_size))⟩, by (repeat' first | (with_reducible first | exact Below.refl _ _ | assumption | refine Later.belowOf _ ?_ ?_ | refine Below.alloc ?_ ?_ _ | refine Below.setCell ?_ ?_ _ | refine Below.drewN' _ ?_ | refine Below.drew ?_ | exact Ge.le) | go_size)⟩
end Go.Proofs.YtkmgfbhnioojhaaGreat

/- Contract: orreryref03.Around. -/
namespace Go.Proofs.YtkmgfbhnioojhaaGreat
set_option linter.unusedSimpArgs false
set_option linter.unusedVariables false
open Go.RowKit
open Fl

@[go_sem] theorem build_nm12 (A : Option Addr) (k c : Nat) (e : Int) (w : World) : (Instr.build 33 #[(1, .slice A k c), (2, .int .i64 e)]).run Tryz.prog w = .ok (.agg #[.bool false, (.slice A k c), .int .i64 e]) w := run_build w 33 _ _ (by kernel_rfl)
def P2.around (x : P2) (e : Int) : P2 := P2.of (x.a.add ⟨true, 1, e⟩) (x.b.add ⟨false, 1, e⟩)
theorem ok_one {s : Bool} {e : Int} (h0 : -30000 ≤ e) (h1 : e ≤ 30000) : Q.Ok ⟨s, 1, e⟩ := ⟨show 1 < bp 8 by unfold bp; decide, h0, h1⟩

set_option maxHeartbeats 8000000 in
set_option maxRecDepth 100000 in
theorem aroundP2_any (x : P2) (e : Int) (A : Option Addr) (ka ca : Nat) (B : Option Addr) (kb cb : Nat) (w : World) (hA : BigS w (.slice A ka ca) x.a.m) (hB : BigS w (.slice B kb cb) x.b.m) (ox : x.Ok) (h0 : -30000 ≤ e) (h1 : e ≤ 30000) :
    Calls Tryz.prog 104 #[(.agg #[.bool x.a.s, (.slice A ka ca), .int .i64 x.a.e, .bool x.b.s, (.slice B kb cb), .int .i64 x.b.e]), .int .i64 e] w (PRes (x.around e) w) := by
  have o1 := fun w => BigRes.go (of_any 1 (by decide) w)
  have c0 := fun (w1 : World) (A' : Option Addr) (k' c' : Nat) (h : Big w1 (.slice A' k' c') 1) => NumRes.go (minusQ_any ⟨false, 1, e⟩ A' k' c' w1 h.stays)
  have c1 := fun (w1 : World) (h : Below w.heap.size w w1) (A' : Option Addr) (k' c' : Nat) (hd : Big w1 (.slice A' k' c') 1) => NumRes.go (sumQ_any x.a ⟨true, 1, e⟩ A ka ca A' k' c' w1 (hA.at h) hd.stays ox.1 (ok_one h0 h1))
  have c2 := fun (w1 : World) (h : Below w.heap.size w w1) (A' : Option Addr) (k' c' : Nat) (hd : Big w1 (.slice A' k' c') 1) => NumRes.go (sumQ_any x.b ⟨false, 1, e⟩ B kb cb A' k' c' w1 (hB.at h) hd.stays ox.2 (ok_one h0 h1))
  have c3 := fun (w1 : World) (A' : Option Addr) (k' c' : Nat) (B' : Option Addr) (l' d' : Nat) (h2 : Big w1 (.slice A' k' c') (x.a.add ⟨true, 1, e⟩).m) (h3 : Big w1 (.slice B' l' d') (x.b.add ⟨false, 1, e⟩).m) => PairRes.go (pairQ_any (x.a.add ⟨true, 1, e⟩) (x.b.add ⟨false, 1, e⟩) A' k' c' B' l' d' w1 h2.stays h3.stays (Q.add_wide ox.1 (ok_one h0 h1)) (Q.add_wide ox.2 (ok_one h0 h1)))
  have e0 : P2.of (x.a.add ⟨true, 1, e⟩) (x.b.add ⟨false, 1, e⟩) = x.around e := rfl
  have e1 : Q.neg ⟨false, 1, e⟩ = ⟨true, 1, e⟩ := by simp [Q.neg]
  rw [e0] at c3
  rw [e1] at c0
  generalize x.around e = z at *
  generalize x.a.add ⟨true, 1, e⟩ = p at *
  generalize x.b.add ⟨false, 1, e⟩ = q at *
  obtain ⟨⟨xs, xm, xe⟩, ⟨xt, xn, xf⟩⟩ := x
  obtain ⟨⟨zs, zm, ze⟩, ⟨zt, zn, zf⟩⟩ := z
  obtain ⟨ps, pm, pe⟩ := p
  obtain ⟨qs, qm, qe⟩ := q
  simp only at *
  have O1 := Lib.hid o1
  have C0 := Lib.hid c0
  have C1 := Lib.hid c1
  have C2 := Lib.hid c2
  have C3 := Lib.hid c3
  clear o1 c0 c1 c2 c3 hA hB ox e0 e1
  unfold PRes
  simp only
  go_enter Tryz.func104, Tryz.ntmps104
  go_wp2_with (go_at_call 23; refine (O1.out _).mono ?_; rintro _ _ ⟨A1, k1, d1, q1, hq1, hk1, hk2, rfl, rfl⟩; have hq1' := hq1.out)
  go_region_held3 (fun w' => w'.cell? ⟨w.heap.size, 0, none⟩ = some (.bool xs) ∧ w'.cell? ⟨w.heap.size, 1, none⟩ = some (.slice A ka ca) ∧ w'.cell? ⟨w.heap.size, 2, none⟩ = some (.int .i64 xe) ∧ w'.cell? ⟨w.heap.size, 3, none⟩ = some (.bool xt) ∧ w'.cell? ⟨w.heap.size, 4, none⟩ = some (.slice B kb cb) ∧ w'.cell? ⟨w.heap.size, 5, none⟩ = some (.int .i64 xf) ∧ w'.cell? ⟨q1.val.heap.size, 0, none⟩ = some (.bool false) ∧ w'.cell? ⟨q1.val.heap.size, 1, none⟩ = some (.slice A1 k1 d1) ∧ w'.cell? ⟨q1.val.heap.size, 2, none⟩ = some (.int .i64 e))
    (first | (go_simp; done) | go_keep)
    ((first | (go_at_call 80; with_reducible refine (C0.out _ _ _ _ (by (repeat (first | (with_reducible assumption) | (with_reducible refine Big.drew ?_) | (with_reducible refine Big.drewN ?_ _) | (with_reducible refine Big.alloc ?_ _) | (with_reducible refine Big.later ?_ _) | (with_reducible refine Big.setCell ?_ _ (by go_simp)))))).mono ?_; rintro _ _ ⟨A2, k2, d2, q2, hq2, rfl, rfl⟩; have hq2' := hq2.out) | (go_at_call 79; with_reducible refine (C1.out _ (by (repeat' first | (with_reducible first | exact Below.refl _ _ | assumption | refine Later.belowOf _ ?_ ?_ | refine Below.alloc ?_ ?_ _ | refine Below.setCell ?_ ?_ _ | refine Below.drewN' _ ?_ | refine Below.drew ?_ | exact Ge.le) | go_size)) _ _ _ (by (repeat (first | (with_reducible assumption) | (with_reducible refine Big.drew ?_) | (with_reducible refine Big.drewN ?_ _) | (with_reducible refine Big.alloc ?_ _) | (with_reducible refine Big.later ?_ _) | (with_reducible refine Big.setCell ?_ _ (by go_simp)))))).mono ?_; rintro _ _ ⟨A3, k3, d3, q3, hq3, rfl, rfl⟩; have hq3' := hq3.out) | (go_at_call 79; with_reducible refine (C2.out _ (by (repeat' first | (with_reducible first | exact Below.refl _ _ | assumption | refine Later.belowOf _ ?_ ?_ | refine Below.alloc ?_ ?_ _ | refine Below.setCell ?_ ?_ _ | refine Below.drewN' _ ?_ | refine Below.drew ?_ | exact Ge.le) | go_size)) _ _ _ (by (repeat (first | (with_reducible assumption) | (with_reducible refine Big.drew ?_) | (with_reducible refine Big.drewN ?_ _) | (with_reducible refine Big.alloc ?_ _) | (with_reducible refine Big.later ?_ _) | (with_reducible refine Big.setCell ?_ _ (by go_simp)))))).mono ?_; rintro _ _ ⟨A5, k5, d5, q5, hq5, rfl, rfl⟩; have hq5' := hq5.out) | (go_at_call 178; with_reducible refine (C3.out _ _ _ _ _ _ _ (by (repeat (first | (with_reducible assumption) | (with_reducible refine Big.drew ?_) | (with_reducible refine Big.drewN ?_ _) | (with_reducible refine Big.alloc ?_ _) | (with_reducible refine Big.later ?_ _) | (with_reducible refine Big.setCell ?_ _ (by go_simp))))) (by (repeat (first | (with_reducible assumption) | (with_reducible refine Big.drew ?_) | (with_reducible refine Big.drewN ?_ _) | (with_reducible refine Big.alloc ?_ _) | (with_reducible refine Big.later ?_ _) | (with_reducible refine Big.setCell ?_ _ (by go_simp)))))).mono ?_; rintro _ _ ⟨A4, k4, d4, B4, l4, e4, q4, hq4, hq6, rfl, rfl⟩; have hq4' := hq4.out; have hq6' := hq6.out)))
  all_goals
    rename_i hHeld
    clear hHeld
    go_wp2
    go_returns
    exact ⟨⟨_, _, _, _, _, _, rfl, by (repeat (first | (with_reducible assumption) | (with_reducible refine Big.drew ?_) | (with_reducible refine Big.drewN ?_ _) | (with_reducible refine Big.alloc ?_ _) | (with_reducible refine Big.later ?_ _) | (with_reducible refine Big.setCell ?_ _ (by go_simp)))), by (repeat (first | (with_reducible assumption) | (with_reducible refine Big.drew ?_) | (with_reducible refine Big.drewN ?_ _) | (with_reducible refine Big.alloc ?_ _) | (with_reducible refine Big.later ?_ _) | (with_reducible refine Big.setCell ?_ _ (by go_simp))))⟩, by (repeat' first | (with_reducible first | exact Below.refl _ _ | assumption | refine Later.belowOf _ ?_ ?_ | refine Below.alloc ?_ ?_ _ | refine Below.setCell ?_ ?_ _ | refine Below.drewN' _ ?_ | refine Below.drew ?_ | exact Ge.le) | go_size)⟩
end Go.Proofs.YtkmgfbhnioojhaaGreat

/- Plain: a division by a small whole number, digit by digit; what orreryref03.part works out. -/
namespace Go.Proofs.YtkmgfbhnioojhaaGreat
set_option linter.unusedSimpArgs false
set_option linter.unusedVariables false
open Go.RowKit
open Fl

theorem part_step {n d T : Nat} (hn : 0 < n) :
    (d + 4294967296 * T) / n = (T % n * 4294967296 + d) / n + 4294967296 * (T / n) ∧ (d + 4294967296 * T) % n = (T % n * 4294967296 + d) % n := by
  have h := Nat.div_add_mod T n
  have e : d + 4294967296 * T = (T % n * 4294967296 + d) + n * (4294967296 * (T / n)) := by
    have : n * (4294967296 * (T / n)) = 4294967296 * (n * (T / n)) := by ac_rfl
    rw [this]; omega
  rw [e]
  exact ⟨Nat.add_mul_div_left _ _ hn, Nat.add_mul_mod_self_left _ _ _⟩
theorem part_small {n d r : Nat} (hr : r < n) (hd : d < 4294967296) : (r * 4294967296 + d) / n < 4294967296 := by
  rw [Nat.div_lt_iff_lt_mul (by omega)]
  have : (r + 1) * 4294967296 ≤ n * 4294967296 := Nat.mul_le_mul_right _ hr
  rw [Nat.mul_comm 4294967296 n]
  omega
theorem drop_set {L : List Nat} {i x : Nat} (h : i < L.length) : n32 ((L.set i x).drop i) = x + 4294967296 * n32 (L.drop (i + 1)) := by
  rw [drop_digit _ i (by rw [List.length_set]; exact h), List.drop_set_of_lt (by omega)]
  congr 1
  simp [List.getD_eq_getElem?_getD, h]

theorem or_32b {c d : Nat} (hc : c < 4294967296) (hd : d < 4294967296) : bits BinOp.or IntKind.u64 ((d : Int) * 4294967296) (c : Int) = ((d * 4294967296 + c : Nat) : Int) := by
  have e : (d : Int) * 4294967296 = ((d * 4294967296 : Nat) : Int) := by simp
  rw [e, u64_or _ _ (Int.natCast_nonneg _) (by omega) (Int.natCast_nonneg _) (by omega), Int.toNat_natCast, Int.toNat_natCast]
  congr 1
  rw [show d * 4294967296 = d <<< 32 by rw [Nat.shiftLeft_eq], ← Nat.shiftLeft_add_eq_or_of_lt (i := 32) (by simpa using hc)]
def partUp (m : Nat) : Nat := if m = 0 then 0 else 224 - blen m
/-- A part of a number: by a small whole number, to a side. -/
def Q.part (a : Q) (n : Nat) (down : Bool) : Q :=
  let m := a.m * 2 ^ partUp a.m
  let q := m / n + (if 0 < m % n ∧ down = a.s then 1 else 0)
  ⟨a.s && decide (0 < q), q, a.e - (partUp a.m : Nat)⟩
def P2.over (x : P2) (n : Nat) : P2 := ⟨x.a.part n true, x.b.part n false⟩

/-- Round by round: all digits from i on are done. -/
def PartInv (W : World) (l : List Nat) (n : Nat) (r i : Value) (w : World) : Prop :=
  ∃ (k : Nat) (z : Int) (r0 : Nat) (L : List Nat), i = .int .i64 z ∧ z = (k : Int) - 1 ∧ r = .int .u64 r0 ∧ r0 = n32 (l.drop k) % n ∧ k ≤ l.length ∧ L.length = l.length ∧ Dig L ∧ n32 (L.drop k) = n32 (l.drop k) / n ∧
    Own W.heap.size w (.slice (some ⟨W.heap.size, 0, none⟩) l.length l.length) L ∧ Below W.heap.size W w
end Go.Proofs.YtkmgfbhnioojhaaGreat

/- Plain: a division bit by bit; what orreryref03.quotient and root work out. -/
namespace Go.Proofs.YtkmgfbhnioojhaaGreat
set_option linter.unusedSimpArgs false
set_option linter.unusedVariables false
open Go.RowKit
open Fl

set_option maxHeartbeats 1000000 in
theorem Big.set3 {w : World} {v : Value} {n b : Nat} {s : Bool} {A : Option Addr} {k c : Nat} {e : Int} (h : Big w v n) (c0 : w.cell? ⟨b, 0, none⟩ = some (.bool s)) (c1 : w.cell? ⟨b, 1, none⟩ = some (.slice A k c)) (c2 : w.cell? ⟨b, 2, none⟩ = some (.int .i64 e)) (x y z : Value) :
    Big (((w.setCell ⟨b, 0, none⟩ x).setCell ⟨b, 1, none⟩ y).setCell ⟨b, 2, none⟩ z) v n := by
  refine ((h.setCell x (by rw [c0]; rfl)).setCell y ?_).setCell z ?_
  · have : (w.setCell ⟨b, 0, none⟩ x).cell? ⟨b, 1, none⟩ = some (.slice A k c) := by simp [go_sem, c1]
    rw [this]; rfl
  · have : ((w.setCell ⟨b, 0, none⟩ x).setCell ⟨b, 1, none⟩ y).cell? ⟨b, 2, none⟩ = some (.int .i64 e) := by simp [go_sem, c2]
    rw [this]; rfl

def quoUp (a b : Nat) : Nat := 200 + blen b - blen a
/-- A quotient to a side. -/
def Q.quo (a b : Q) (down : Bool) : Q :=
  if a.m = 0 then a else
    let M := a.m * 2 ^ quoUp a.m b.m
    let q := M / b.m + (if 0 < M % b.m ∧ down = a.s then 1 else 0)
    ⟨a.s && decide (0 < q), q, a.e - b.e - (quoUp a.m b.m : Nat)⟩
/-- k more bits of a quotient are to come. -/
def DivSt (M b k R q : Nat) : Prop := R + q * 2 ^ k * b = M ∧ R < 2 ^ k * b
theorem div_start {M b : Nat} (hM : M ≠ 0) (hb : b ≠ 0) (h : blen b ≤ blen M) : DivSt M b (blen M - blen b + 1) M 0 := by
  refine ⟨by simp, ?_⟩
  have h1 := blen_lt M
  have h2 := blen_ge hb
  have h3 := blen_pos hb
  have e : 2 ^ (blen M - blen b + 1) * 2 ^ (blen b - 1) = 2 ^ blen M := by rw [← Nat.pow_add]; congr 1; omega
  have : 2 ^ blen M ≤ 2 ^ (blen M - blen b + 1) * b := by rw [← e]; exact Nat.mul_le_mul_left _ h2
  omega
theorem div_no {M b k R q : Nat} (h : DivSt M b (k + 1) R q) (hd : ¬ b * 2 ^ k ≤ R) : DivSt M b k R (q * 2 ^ 1) := by
  obtain ⟨h1, h2⟩ := h
  refine ⟨?_, ?_⟩
  · rw [← h1, Nat.mul_assoc q, ← Nat.pow_add, Nat.add_comm 1 k]
  · rw [Nat.mul_comm]; omega
theorem div_yes {M b k R q : Nat} (h : DivSt M b (k + 1) R q) (hd : b * 2 ^ k ≤ R) : DivSt M b k (R - b * 2 ^ k) (q * 2 ^ 1 + 1) := by
  obtain ⟨h1, h2⟩ := h
  have e : (q * 2 ^ 1 + 1) * 2 ^ k * b = q * 2 ^ (k + 1) * b + b * 2 ^ k := by
    rw [Nat.add_mul, Nat.add_mul, Nat.one_mul, Nat.mul_comm (2 ^ k) b, Nat.mul_assoc q, ← Nat.pow_add, Nat.add_comm 1 k]
  refine ⟨by rw [e]; omega, ?_⟩
  have e2 : 2 ^ (k + 1) * b = b * 2 ^ k + 2 ^ k * b := by
    rw [Nat.pow_succ, Nat.mul_comm b (2 ^ k), ← Nat.two_mul, Nat.mul_comm (2 ^ k) 2, Nat.mul_assoc]
  omega
theorem div_end {M b R q : Nat} (h : DivSt M b 0 R q) : q = M / b ∧ R = M % b := by
  obtain ⟨h1, h2⟩ := h
  simp only [Nat.pow_zero, Nat.mul_one, Nat.one_mul] at h1 h2
  have e : M = R + b * q := by rw [← h1, Nat.mul_comm]
  rw [e, Nat.add_mul_div_left _ _ (by omega), Nat.add_mul_mod_self_left, Nat.div_eq_of_lt h2, Nat.mod_eq_of_lt h2]
  omega
theorem blen_shift {m k : Nat} (h : m ≠ 0) : blen (m * 2 ^ k) = blen m + k := by
  have h1 := blen_lt m
  have h2 := blen_ge h
  have h3 := blen_pos h
  obtain ⟨j, hj⟩ : ∃ j, blen m = j + 1 := ⟨blen m - 1, by omega⟩
  rw [hj] at h1 h2 ⊢
  have := blen_unique (n := m * 2 ^ k) (k := j + k) (by rw [Nat.pow_add]; exact Nat.mul_le_mul_right _ (by simpa using h2)) (by
    rw [show j + k + 1 = (j + 1) + k by omega, Nat.pow_add]
    exact Nat.mul_lt_mul_of_pos_right h1 (Nat.two_pow_pos k))
  omega

def rootUp (m : Nat) (e : Int) : Nat := let n := 400 - blen m; if (e - n).tmod 2 ≠ 0 then n + 1 else n
/-- A root to a side. -/
def Q.root (a : Q) (down : Bool) : Q :=
  if a.m = 0 then a else
    let M := a.m * 2 ^ rootUp a.m a.e
    let r := isq M
    ⟨false, r + (if down = false ∧ r * r ≠ M then 1 else 0), (a.e - (rootUp a.m a.e : Nat)).tdiv 2⟩
where
  isq (M : Nat) : Nat := go M (blen M / 2 + 2) 0
  go (M : Nat) : Nat → Nat → Nat
    | 0, r => r
    | k + 1, r => if (r + 1 * 2 ^ k) * (r + 1 * 2 ^ k) ≤ M then go M k (r + 1 * 2 ^ k) else go M k r
def P2.div (x y : P2) : P2 :=
  P2.of (if x.a.s = true ∧ 0 < x.a.m then x.a.quo y.a true else x.a.quo y.b true) (if x.b.s = true ∧ 0 < x.b.m then x.b.quo y.b false else x.b.quo y.a false)
def P2.sqrt (x : P2) : P2 := P2.of (x.a.root true) (x.b.root false)
end Go.Proofs.YtkmgfbhnioojhaaGreat

/- Products and order of the reference's numbers; what a product of pairs is worked out as. -/
namespace Go.Proofs.YtkmgfbhnioojhaaGreat
set_option linter.unusedSimpArgs false
set_option linter.unusedVariables false
open Go.RowKit
open Fl

/-- What a product of two may be. -/
def Q.Mid (a : Q) : Prop := a.m < bp 16 ∧ -60000 ≤ a.e ∧ a.e ≤ 60000
theorem Q.mul_mid {a b : Q} (ha : a.Ok) (hb : b.Ok) : (a.mul b).Mid := by
  obtain ⟨a1, a2, a3⟩ := ha
  obtain ⟨b1, b2, b3⟩ := hb
  refine ⟨?_, ?_, ?_⟩
  · show a.m * b.m < bp 16
    have : bp 16 = bp 8 * bp 8 := by rw [← bp_add]
    rw [this]
    rcases Nat.eq_zero_or_pos b.m with h | h
    · rw [h, Nat.mul_zero]; exact Nat.mul_pos (bp_pos 8) (bp_pos 8)
    · exact Nat.lt_of_lt_of_le (Nat.mul_lt_mul_of_pos_right a1 h) (Nat.mul_le_mul_left _ (Nat.le_of_lt b1))
  · show -60000 ≤ prodE a.m b.m a.e b.e
    unfold prodE; split <;> omega
  · show prodE a.m b.m a.e b.e ≤ 60000
    unfold prodE; split <;> omega
theorem Q.mid_wide {a : Q} (h : a.Mid) : a.Wide := ⟨Nat.lt_of_lt_of_le h.1 (bp_le (by decide)), by have := h.2.1; omega, by have := h.2.2; omega⟩
def Q.ord (a b : Q) : Int := ordN a.s b.s a.m b.m a.e b.e
theorem mid_shift {m : Nat} {k : Nat} (h : m < bp 16) (hk : k ≤ 1024) : m * 2 ^ k < bp 30000 := by
  obtain ⟨K, hK⟩ : ∃ K, 32 * 32 = K := ⟨_, rfl⟩
  have h1 : 2 ^ k ≤ bp 32 := by rw [bp_pw, pw_eq, hK]; exact Nat.pow_le_pow_right (by decide) (by omega)
  have h2 : m * 2 ^ k < bp 16 * bp 32 := Nat.lt_of_lt_of_le (Nat.mul_lt_mul_of_pos_right h (Nat.two_pow_pos k)) (Nat.mul_le_mul_left _ h1)
  rw [← bp_add] at h2
  exact Nat.lt_of_lt_of_le h2 (bp_le (by decide))
theorem ordQ_any (a b : Q) (A : Option Addr) (ka ca : Nat) (B : Option Addr) (kb cb : Nat) (w : World) (ha : BigS w (.slice A ka ca) a.m) (hb : BigS w (.slice B kb cb) b.m) (oa : a.Mid) (ob : b.Mid) :
    Calls Tryz.prog 89 #[(.agg #[.bool a.s, (.slice A ka ca), .int .i64 a.e]), (.agg #[.bool b.s, (.slice B kb cb), .int .i64 b.e])] w (IntRes (a.ord b) w) := by
  obtain ⟨s, m, e⟩ := a
  obtain ⟨t, n, f⟩ := b
  obtain ⟨a1, a2, a3⟩ := oa
  obtain ⟨b1, b2, b3⟩ := ob
  simp only at *
  have l1 := blen_le_bp a1
  have l2 := blen_le_bp b1
  refine orderN_any s t A ka ca B kb cb m n e f w ha hb (Nat.lt_of_lt_of_le a1 (bp_le (by decide))) (Nat.lt_of_lt_of_le b1 (bp_le (by decide))) (fun h => ?_) (by omega) (by omega) (by omega) (by omega)
  exact ⟨mid_shift a1 (by omega), mid_shift b1 (by omega)⟩
theorem mulQ_any (a b : Q) (A : Option Addr) (ka ca : Nat) (B : Option Addr) (kb cb : Nat) (w : World) (ha : BigS w (.slice A ka ca) a.m) (hb : BigS w (.slice B kb cb) b.m) (oa : a.Ok) (ob : b.Ok) :
    Calls Tryz.prog 67 #[(.agg #[.bool a.s, (.slice A ka ca), .int .i64 a.e]), (.agg #[.bool b.s, (.slice B kb cb), .int .i64 b.e])] w (NumRes (a.mul b).s (a.mul b).m (a.mul b).e w) := by
  obtain ⟨s, m, e⟩ := a
  obtain ⟨t, n, f⟩ := b
  obtain ⟨a1, a2, a3⟩ := oa
  obtain ⟨b1, b2, b3⟩ := ob
  simp only at *
  exact product_any s t A ka ca B kb cb m n e f w ha hb (Nat.lt_of_lt_of_le a1 (bp_le (by decide))) (Nat.lt_of_lt_of_le b1 (bp_le (by decide))) (by omega) (by omega) (by omega) (by omega)

/-- The least and the greatest of what has come. -/
def loQ (p lo : Q) : Q := if p.ord lo < 0 then p else lo
def hiQ (p hi : Q) : Q := if 0 < p.ord hi then p else hi
def mulLo (x y : P2) : Nat → Q
  | 0 => x.a.mul y.a
  | 1 => loQ (x.a.mul y.b) (x.a.mul y.a)
  | 2 => loQ (x.b.mul y.a) (loQ (x.a.mul y.b) (x.a.mul y.a))
  | _ => loQ (x.b.mul y.b) (loQ (x.b.mul y.a) (loQ (x.a.mul y.b) (x.a.mul y.a)))
def mulHi (x y : P2) : Nat → Q
  | 0 => x.a.mul y.a
  | 1 => hiQ (x.a.mul y.b) (x.a.mul y.a)
  | 2 => hiQ (x.b.mul y.a) (hiQ (x.a.mul y.b) (x.a.mul y.a))
  | _ => hiQ (x.b.mul y.b) (hiQ (x.b.mul y.a) (hiQ (x.a.mul y.b) (x.a.mul y.a)))
def mulT (x y : P2) : Nat → Q
  | 0 => x.a.mul y.b
  | 1 => x.b.mul y.a
  | _ => x.b.mul y.b
def P2.mul (x y : P2) : P2 := P2.of (mulLo x y 3) (mulHi x y 3)
theorem loQ_mid {p lo : Q} (hp : p.Mid) (hl : lo.Mid) : (loQ p lo).Mid := by unfold loQ; split <;> assumption
theorem hiQ_mid {p hi : Q} (hp : p.Mid) (hl : hi.Mid) : (hiQ p hi).Mid := by unfold hiQ; split <;> assumption
end Go.Proofs.YtkmgfbhnioojhaaGreat

/- Contract: orreryref03.Mul. -/
namespace Go.Proofs.YtkmgfbhnioojhaaGreat
set_option linter.unusedSimpArgs false
set_option linter.unusedVariables false
open Go.RowKit
open Fl

/-- A block of a number of the reference's, its digits beside it. -/
structure NBox (W : World) (b : Nat) (q : Q) (A : Option Addr) (k c : Nat) : Prop where
  blk : W.heap[b]? = some (Obj.cells #[.bool q.s, .slice A k c, .int .i64 q.e] 33)
  big : Big W (.slice A k c) q.m
namespace NBox
variable {W W' : World} {b : Nat} {q : Q} {A : Option Addr} {k c : Nat}
theorem lt (h : NBox W b q A k c) : b < W.heap.size := (Array.getElem?_eq_some_iff.1 h.blk).1
theorem c0 (h : NBox W b q A k c) : W.cell? ⟨b, 0, none⟩ = some (.bool q.s) := by simp [World.cell?, h.blk]
theorem c1 (h : NBox W b q A k c) : W.cell? ⟨b, 1, none⟩ = some (.slice A k c) := by simp [World.cell?, h.blk]
theorem c2 (h : NBox W b q A k c) : W.cell? ⟨b, 2, none⟩ = some (.int .i64 q.e) := by simp [World.cell?, h.blk]
theorem fz (h : NBox W b q A k c) (j : Nat) (hj : j < 3) : W.frozen? ⟨b, j, none⟩ = false := by
  rcases j with _ | _ | _ | j
  all_goals first | (simp [World.frozen?, h.blk]; done) | omega
theorem below (h : NBox W b q A k c) (hb : Below W.heap.size W W') : NBox W' b q A k c := ⟨(hb.block b h.lt).trans h.blk, h.big.below hb⟩
/-- Another box is overwritten. -/
theorem other (h : NBox W b q A k c) {b' : Nat} {q' : Q} {A' : Option Addr} {k' c' : Nat} (h' : NBox W b' q' A' k' c') (hne : b' ≠ b) (x y z : Value) : NBox (((W.setCell ⟨b', 0, none⟩ x).setCell ⟨b', 1, none⟩ y).setCell ⟨b', 2, none⟩ z) b q A k c := by
  refine ⟨?_, Big.set3 h.big h'.c0 h'.c1 h'.c2 x y z⟩
  rw [Below.heap_setCell _ _ _ _ (fun e => hne e.symm), Below.heap_setCell _ _ _ _ (fun e => hne e.symm), Below.heap_setCell _ _ _ _ (fun e => hne e.symm)]
  exact h.blk
/-- A box is overwritten by a number that lies somewhere. -/
theorem set (h : NBox W b q A k c) {p : Q} {B : Option Addr} {l d : Nat} (hp : Big W (.slice B l d) p.m) : NBox (((W.setCell ⟨b, 0, none⟩ (.bool p.s)).setCell ⟨b, 1, none⟩ (.slice B l d)).setCell ⟨b, 2, none⟩ (.int .i64 p.e)) b p B l d := by
  refine ⟨?_, Big.set3 hp h.c0 h.c1 h.c2 _ _ _⟩
  have hl := h.lt
  have hb := h.blk
  unfold World.setCell
  simp [Array.getElem?_modify, hb]
end NBox

/-- The slice of the other three products. -/
structure Three (W : World) (b : Nat) (p1 p2 p3 : Q) (A1 A2 A3 : Option Addr) (k1 k2 k3 c1 c2 c3 : Nat) : Prop where
  blk : W.heap[b]? = some (Obj.cells #[.bool p1.s, .slice A1 k1 c1, .int .i64 p1.e, .bool p2.s, .slice A2 k2 c2, .int .i64 p2.e, .bool p3.s, .slice A3 k3 c3, .int .i64 p3.e] 33)
  g1 : Big W (.slice A1 k1 c1) p1.m
  g2 : Big W (.slice A2 k2 c2) p2.m
  g3 : Big W (.slice A3 k3 c3) p3.m
namespace Three
variable {W W' : World} {b : Nat} {p1 p2 p3 : Q} {A1 A2 A3 : Option Addr} {k1 k2 k3 c1 c2 c3 : Nat}
theorem lt (h : Three W b p1 p2 p3 A1 A2 A3 k1 k2 k3 c1 c2 c3) : b < W.heap.size := (Array.getElem?_eq_some_iff.1 h.blk).1
theorem below (h : Three W b p1 p2 p3 A1 A2 A3 k1 k2 k3 c1 c2 c3) (hb : Below W.heap.size W W') : Three W' b p1 p2 p3 A1 A2 A3 k1 k2 k3 c1 c2 c3 := ⟨(hb.block b h.lt).trans h.blk, h.g1.below hb, h.g2.below hb, h.g3.below hb⟩
theorem other (h : Three W b p1 p2 p3 A1 A2 A3 k1 k2 k3 c1 c2 c3) {b' : Nat} {q' : Q} {A' : Option Addr} {k' c' : Nat} (h' : NBox W b' q' A' k' c') (hne : b' ≠ b) (x y z : Value) : Three (((W.setCell ⟨b', 0, none⟩ x).setCell ⟨b', 1, none⟩ y).setCell ⟨b', 2, none⟩ z) b p1 p2 p3 A1 A2 A3 k1 k2 k3 c1 c2 c3 := by
  refine ⟨?_, Big.set3 h.g1 h'.c0 h'.c1 h'.c2 x y z, Big.set3 h.g2 h'.c0 h'.c1 h'.c2 x y z, Big.set3 h.g3 h'.c0 h'.c1 h'.c2 x y z⟩
  rw [Below.heap_setCell _ _ _ _ (fun e => hne e.symm), Below.heap_setCell _ _ _ _ (fun e => hne e.symm), Below.heap_setCell _ _ _ _ (fun e => hne e.symm)]
  exact h.blk
/-- The k-th of three. -/
def pick {α : Type} (a b c : α) : Nat → α
  | 0 => a
  | 1 => b
  | _ => c
theorem at' (h : Three W b p1 p2 p3 A1 A2 A3 k1 k2 k3 c1 c2 c3) {j : Nat} (hj : j < 3) :
    W.cell? ⟨b, j * 3, none⟩ = some (.bool (pick p1 p2 p3 j).s) ∧ W.cell? ⟨b, j * 3 + 1, none⟩ = some (.slice (pick A1 A2 A3 j) (pick k1 k2 k3 j) (pick c1 c2 c3 j)) ∧ W.cell? ⟨b, j * 3 + 2, none⟩ = some (.int .i64 (pick p1 p2 p3 j).e) ∧ Big W (.slice (pick A1 A2 A3 j) (pick k1 k2 k3 j) (pick c1 c2 c3 j)) (pick p1 p2 p3 j).m := by
  have hb := h.blk
  rcases j with _ | _ | _ | j
  · exact ⟨by simp [World.cell?, hb, pick], by simp [World.cell?, hb, pick], by simp [World.cell?, hb, pick], h.g1⟩
  · exact ⟨by simp [World.cell?, hb, pick], by simp [World.cell?, hb, pick], by simp [World.cell?, hb, pick], h.g2⟩
  · exact ⟨by simp [World.cell?, hb, pick], by simp [World.cell?, hb, pick], by simp [World.cell?, hb, pick], h.g3⟩
  · omega
end Three
theorem mulLo_step (x y : P2) {j : Nat} (h : j < 3) : mulLo x y (j + 1) = loQ (mulT x y j) (mulLo x y j) := by
  rcases j with _ | _ | _ | j
  all_goals first | omega | rfl
theorem mulHi_step (x y : P2) {j : Nat} (h : j < 3) : mulHi x y (j + 1) = hiQ (mulT x y j) (mulHi x y j) := by
  rcases j with _ | _ | _ | j
  all_goals first | omega | rfl
theorem mulT_pick (x y : P2) {j : Nat} (h : j < 3) : mulT x y j = Three.pick (x.a.mul y.b) (x.b.mul y.a) (x.b.mul y.b) j := by
  rcases j with _ | _ | _ | j
  all_goals first | omega | rfl
theorem mul_mids {x y : P2} (ox : x.Ok) (oy : y.Ok) : (∀ j, (mulT x y j).Mid) ∧ (∀ j, j ≤ 3 → (mulLo x y j).Mid ∧ (mulHi x y j).Mid) := by
  have a1 := Q.mul_mid ox.1 oy.1
  have a2 := Q.mul_mid ox.1 oy.2
  have a3 := Q.mul_mid ox.2 oy.1
  have a4 := Q.mul_mid ox.2 oy.2
  have hT : ∀ j, (mulT x y j).Mid := fun j => by
    rcases j with _ | _ | j
    · exact a2
    · exact a3
    · exact a4
  refine ⟨hT, fun j => ?_⟩
  induction j with
  | zero => intro _; exact ⟨a1, a1⟩
  | succ j ih =>
    intro h
    obtain ⟨h1, h2⟩ := ih (by omega)
    rw [mulLo_step x y (by omega), mulHi_step x y (by omega)]
    exact ⟨loQ_mid (hT j) h1, hiQ_mid (hT j) h2⟩
end Go.Proofs.YtkmgfbhnioojhaaGreat
