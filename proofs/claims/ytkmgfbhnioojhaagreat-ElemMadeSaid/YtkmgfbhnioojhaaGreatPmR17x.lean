/- Contract: orreryref03.root. -/
import Derived.Test.YtkmgfbhnioojhaaGreatPmR15x
namespace Go.Proofs.YtkmgfbhnioojhaaGreat
set_option linter.unusedSimpArgs false
set_option linter.unusedVariables false
open Go.RowKit
open Fl

def RootInv (W : World) (M K : Nat) (r z : Value) (wr : World) : Prop :=
  ∃ (k R : Nat) (A : Option Addr) (ka ca : Nat), z = .int .i64 ((k : Int) - 1) ∧ k ≤ K ∧ r = .slice A ka ca ∧ Big wr (.slice A ka ca) R ∧ Q.root.go M k R = Q.root.isq M ∧ R * R ≤ M ∧ Below W.heap.size W wr
theorem root_bounds {M R : Nat} (hM : M < bp 2000) (h : R * R ≤ M) {k : Nat} (hk : k ≤ 60000) : R < bp 2000 ∧ 1 * 2 ^ k < bp 2000 ∧ R + 1 * 2 ^ k < bp 30000 ∧ (R + 1 * 2 ^ k) * (R + 1 * 2 ^ k) < bp 30000 ∧ R * R < bp 30000 ∧ R + 1 < bp 30000 := by
  have h1 : R < bp 2000 := Nat.lt_of_le_of_lt (Nat.le_trans (Nat.le_mul_self R) h) hM
  have h2 : 1 * 2 ^ k < bp 2000 := shift_lt (m := 1) (Nat.lt_of_lt_of_le (show 1 < bp 1 by unfold bp; decide) (bp_le (by decide))) hk
  have l1 : bp 3000 = bp 1000 * bp 2000 := by rw [← bp_add]
  have l2 : 4 * bp 2000 ≤ bp 3000 := by
    rw [l1]; exact Nat.mul_le_mul_right _ (Nat.le_trans (by unfold bp; decide) (bp_le (show 1 ≤ 1000 by decide)))
  have l3 : bp 3000 * bp 3000 ≤ bp 30000 := by rw [← bp_add]; exact bp_le (by decide)
  have l4 : bp 3000 ≤ bp 30000 := bp_le (by decide)
  have h3 : R + 1 * 2 ^ k < bp 3000 := by
    generalize bp 3000 = a at *
    generalize bp 2000 = b at *
    clear l1 l3
    omega
  refine ⟨h1, h2, Nat.lt_of_lt_of_le h3 l4, Nat.lt_of_lt_of_le (Nat.mul_lt_mul'' h3 h3) l3, ?_, ?_⟩
  · exact Nat.lt_of_le_of_lt h (Nat.lt_of_lt_of_le hM (bp_le (by decide)))
  · generalize bp 3000 = a at *
    generalize bp 2000 = b at *
    generalize bp 30000 = c at *
    clear l1 l3 h
    omega
theorem root_go_yes {M k R : Nat} (h : Q.root.go M (k + 1) R = Q.root.isq M) (hc : (R + 1 * 2 ^ k) * (R + 1 * 2 ^ k) ≤ M) : Q.root.go M k (R + 1 * 2 ^ k) = Q.root.isq M := by
  rw [← h]; show _ = if _ then _ else _; rw [if_pos hc]
theorem root_go_no {M k R : Nat} (h : Q.root.go M (k + 1) R = Q.root.isq M) (hc : ¬ (R + 1 * 2 ^ k) * (R + 1 * 2 ^ k) ≤ M) : Q.root.go M k R = Q.root.isq M := by
  rw [← h]; show _ = if _ then _ else _; rw [if_neg hc]

set_option maxHeartbeats 16000000 in
set_option maxRecDepth 100000 in
theorem rootQ_any (a : Q) (down : Bool) (A : Option Addr) (ka ca : Nat) (w : World) (hA : BigS w (.slice A ka ca) a.m) (oa : a.Ok) :
    Calls Tryz.prog 253 #[(.agg #[.bool a.s, (.slice A ka ca), .int .i64 a.e]), .int .i64 (dirI down)] w (NumRes (a.root down).s (a.root down).m (a.root down).e w) := by
  obtain ⟨s, m, e⟩ := a
  obtain ⟨a1, a2, a3⟩ := oa
  have ha0 := blen_le_bp a1
  unfold Q.root
  simp only at *
  have hm3 : m < bp 30000 := Nat.lt_of_lt_of_le a1 (bp_le (by decide))
  have hk0 : ka = 0 ↔ m = 0 := by
    obtain ⟨A', k', c', h1, h2, h3⟩ := (hA w (Below.refl _ _)).len
    injection h1 with h1 h4 h5
    subst h4
    exact h2
  by_cases hm : m = 0
  · obtain rfl := hk0.2 hm
    subst hm
    rw [if_pos rfl]
    have HA := Lib.hid hA
    clear hA hk0 a1 hm3
    go_enter Tryz.func253, Tryz.ntmps253
    go_wp2
    go_returns
    exact ⟨⟨_, _, _, rfl, HA.out _ (by (repeat' first | (with_reducible first | exact Below.refl _ _ | assumption | refine Later.belowOf _ ?_ ?_ | refine Below.alloc ?_ ?_ _ | refine Below.setCell ?_ ?_ _ | refine Below.drewN' _ ?_ | refine Below.drew ?_ | exact Ge.le) | go_size))⟩, by (repeat' first | (with_reducible first | exact Below.refl _ _ | assumption | refine Later.belowOf _ ?_ ?_ | refine Below.alloc ?_ ?_ _ | refine Below.setCell ?_ ?_ _ | refine Below.drewN' _ ?_ | refine Below.drew ?_ | exact Ge.le) | go_size)⟩
  · rw [if_neg hm]
    simp only
    have hk1 : (0 : Int) < (ka : Int) := by
      have : ka ≠ 0 := fun h => hm (hk0.1 h)
      omega
    have hk5 : (ka : Int) ≠ 0 := by omega
    obtain ⟨up, hup⟩ : ∃ up, rootUp m e = up := ⟨_, rfl⟩
    rw [hup]
    have hn0 : ∃ n0 : Nat, 400 - blen m = n0 := ⟨_, rfl⟩
    obtain ⟨n0, hn0⟩ := hn0
    unfold rootUp at hup
    simp only [hn0] at hup
    have hn2 : n0 ≤ 400 := by omega
    have hn3 : (400 : Int) - blen m = n0 := by omega
    have hup2 : up = n0 ∨ up = n0 + 1 := by rw [← hup]; split <;> simp
    have up2 : up ≤ 401 := by omega
    have hM0 := shift_lt a1 (show up ≤ 60000 by omega)
    have hbM := blen_shift (k := up) hm
    have hKK : blen (m * 2 ^ up) / 2 + 2 ≤ 1000 := by rw [hbM]; omega
    have bi := fun (w1 : World) (h : Below w.heap.size w w1) => IntRes.go (bits_big (hA w1 h) hm3)
    have li := fun (w1 : World) (h : Below w.heap.size w w1) => BigRes.go (left_big (hA w1 h) hm3 up (by omega))
    obtain ⟨M, hMM⟩ : ∃ M, m * 2 ^ up = M := ⟨_, rfl⟩
    rw [hMM] at hM0 hbM hKK li ⊢
    have bm := fun (w1 : World) (A' : Option Addr) (k' c' : Nat) (h : Big w1 (.slice A' k' c') M) => IntRes.go (bits_big h (Nat.lt_of_lt_of_le hM0 (bp_le (by decide))))
    have hM9 : (blen M : Int) ≤ 1000 := by omega
    obtain ⟨bM, hbM2⟩ : ∃ b, blen M = b := ⟨_, rfl⟩
    rw [hbM2] at bm hM9 hKK hbM
    have HM := Lib.hid (show _ ∧ _ ∧ _ from ⟨hM0, hKK, hbM2⟩)
    have BI := Lib.hid bi
    have LI := Lib.hid li
    have BM := Lib.hid bm
    clear hM0 hKK hbM2 bi li bm hA hbM hMM hm hk0 a1 hm3
    generalize blen m = bl at *
    have key : ((e - (n0 : Int)).tmod 2 ≠ 0 ∧ (n0 : Int) + 1 = up) ∨ ((e - (n0 : Int)).tmod 2 = 0 ∧ n0 = up) := by
      by_cases h : (e - (n0 : Int)).tmod 2 ≠ 0
      · rw [if_pos h] at hup; exact .inl ⟨h, by omega⟩
      · rw [if_neg h] at hup; exact .inr ⟨by simpa using h, hup⟩
    clear hup hn0
    obtain ⟨N, hN⟩ : ∃ N, Q.root.isq M + (if down = false ∧ Q.root.isq M * Q.root.isq M ≠ M then 1 else 0) = N := ⟨_, rfl⟩
    rw [hN]
    have HN := Lib.hid hN
    clear hN
    rcases key with ⟨k1, k2⟩ | ⟨k1, k2⟩
    rotate_left
    focus subst k2
    rotate_left
    all_goals
      go_enter Tryz.func253, Tryz.ntmps253
      go_wp2_with (first | (go_at_call 95; with_reducible refine (BI.out _ (by (repeat' first | (with_reducible first | exact Below.refl _ _ | assumption | refine Later.belowOf _ ?_ ?_ | refine Below.alloc ?_ ?_ _ | refine Below.setCell ?_ ?_ _ | refine Below.drewN' _ ?_ | refine Below.drew ?_ | exact Ge.le) | go_size))).mono ?_; rintro _ _ ⟨q6, rfl, rfl⟩) | (go_at_call 95; with_reducible refine (BM.out _ _ _ _ (by (repeat (first | (with_reducible assumption) | (with_reducible refine Big.drew ?_) | (with_reducible refine Big.drewN ?_ _) | (with_reducible refine Big.alloc ?_ _) | (with_reducible refine Big.later ?_ _) | (with_reducible refine Big.setCell ?_ _ (by go_simp)))))).mono ?_; rintro _ _ ⟨q7, rfl, rfl⟩) | (go_at_call 243; with_reducible refine (LI.out _ (by (repeat' first | (with_reducible first | exact Below.refl _ _ | assumption | refine Later.belowOf _ ?_ ?_ | refine Below.alloc ?_ ?_ _ | refine Below.setCell ?_ ?_ _ | refine Below.drewN' _ ?_ | refine Below.drew ?_ | exact Ge.le) | go_size))).mono ?_; rintro _ _ ⟨A2, k2, c2, q2, hq2, hk3, hk4, rfl, rfl⟩; have hq2' := hq2.out))
      have hfar : Below w.heap.size w q7.val := by (repeat' first | (with_reducible first | exact Below.refl _ _ | assumption | refine Later.belowOf _ ?_ ?_ | refine Below.alloc ?_ ?_ _ | refine Below.setCell ?_ ?_ _ | refine Below.drewN' _ ?_ | refine Below.drew ?_ | exact Ge.le) | go_size)
      have f2 : q7.val.cell? ⟨w.heap.size, 2, none⟩ = some (.int .i64 e) := by go_simp
      have f4 : q7.val.cell? ⟨w.heap.size + 1, 0, none⟩ = some (.bool false) := by go_simp
      have f5 : q7.val.cell? ⟨w.heap.size + 1, 1, none⟩ = some (.slice none 0 0) := by go_simp
      have f6 : q7.val.cell? ⟨w.heap.size + 1, 2, none⟩ = some (.int .i64 0) := by go_simp
      have f7 : ∀ j, q7.val.frozen? ⟨w.heap.size + 1, j, none⟩ = false := fun j => by go_simp
      have gM : Big q7.val (.slice A2 k2 c2) M := by (repeat (first | (with_reducible assumption) | (with_reducible refine Big.drew ?_) | (with_reducible refine Big.drewN ?_ _) | (with_reducible refine Big.alloc ?_ _) | (with_reducible refine Big.later ?_ _) | (with_reducible refine Big.setCell ?_ _ (by go_simp))))
      have hsz : w.heap.size + 2 ≤ q7.val.heap.size := by
        have h1 := q6.below.size
        have h2 := q2.below.size
        have h3 := q7.below.size
        simp at h1 h2 h3
        omega
      go_loopw [7, 8] (fun r z wr => RootInv q7.val M 1000 r z wr) (fun _ z _ => (intOf z + 1).toNat)
      case atStart => exact ⟨bM / 2 + 2, 0, _, _, _, by go_num, HM.out.2.1, rfl, big_emptyR _ _, by rw [← HM.out.2.2]; rfl, by omega, Below.refl _ _⟩
      case round =>
        obtain ⟨k, R, A7, k7, c7, rfl, hkK, rfl, hR, hd, hRR, hbel⟩ := hrel
        replace f2 := cellBelowR hbel f2
        replace f4 := cellBelowR hbel f4
        replace f5 := cellBelowR hbel f5
        replace f6 := cellBelowR hbel f6
        replace f7 : ∀ j, wr.frozen? ⟨w.heap.size + 1, j, none⟩ = false := fun j => (hbel.frozen (p := ⟨w.heap.size + 1, j, none⟩) (by show w.heap.size + 1 < _; omega)).trans (f7 j)
        replace gM := gM.below hbel
        have hsr := hbel.size
        have bwr : Below w.heap.size w wr := hfar.trans (hbel.mono hfar.size)
        haveI gr1 : Ge wr (w.heap.size + 1) := ⟨by omega⟩
        haveI gr2 : Ge wr (w.heap.size + 1 + 1) := ⟨by omega⟩
        have hMb : M < bp 30000 := Nat.lt_of_lt_of_le HM.out.1 (bp_le (by decide))
        have OI := fun (w1 : World) => (show Calls Tryz.prog 23 #[.int .u64 1] w1 _ from BigRes.go (of_any 1 (by decide) w1))
        have one_bp : 1 < bp 30000 := Nat.lt_of_lt_of_le (show 1 < bp 1 by unfold bp; decide) (bp_le (by decide))
        by_cases hk : 0 < k
        · obtain ⟨j, rfl⟩ : ∃ j, k = j + 1 := ⟨k - 1, by omega⟩
          have hj1 : ((j + 1 : Nat) : Int) - 1 = j := by omega
          have hj2 : (0 : Int) ≤ (j : Int) := by omega
          have hj3 : (j : Int) ≤ 1000 := by omega
          rw [hj1]
          obtain ⟨b1, b2, b3, b4, b5, b6⟩ := root_bounds HM.out.1 hRR (k := j) (by omega)
          have b7 : 1 * 2 ^ j < bp 30000 := Nat.lt_of_lt_of_le b2 (bp_le (by decide))
          have b8 : R < bp 30000 := Nat.lt_of_lt_of_le b1 (bp_le (by decide))
          have LO := fun (w1 : World) (A9 : Option Addr) (k9 c9 : Nat) (h : Big w1 (.slice A9 k9 c9) 1) => BigRes.go (left_big h one_bp j (by omega))
          have PL := fun (w1 : World) (A9 : Option Addr) (k9 c9 : Nat) (h : Big w1 (.slice A7 k7 c7) R) (h2 : Big w1 (.slice A9 k9 c9) (1 * 2 ^ j)) => BigRes.go (plus_big h h2 b8 b7)
          have BY := fun (w1 : World) (A9 : Option Addr) (k9 c9 : Nat) (h : Big w1 (.slice A9 k9 c9) (R + 1 * 2 ^ j)) => BigRes.go (by_big h h b3 b3)
          have CM := fun (w1 : World) (A9 : Option Addr) (k9 c9 : Nat) (h : Big w1 (.slice A9 k9 c9) ((R + 1 * 2 ^ j) * (R + 1 * 2 ^ j))) (h2 : Big w1 (.slice A2 k2 c2) M) => IntRes.go (cmp_big h h2 b4 hMb)
          have HY := Lib.hid (show _ → _ from root_go_yes hd)
          have HNO := Lib.hid (show _ → _ from root_go_no hd)
          have HB := Lib.hid (show _ ∧ _ from ⟨hRR, hkK⟩)
          generalize R + 1 * 2 ^ j = T at *
          generalize 1 * 2 ^ j = P at *
          have hcmp : (cmpI (T * T) M ≤ 0 ∧ T * T ≤ M) ∨ (¬ cmpI (T * T) M ≤ 0 ∧ ¬ T * T ≤ M) := by
            unfold cmpI
            split
            · left; omega
            · split
              · right; omega
              · left; omega
          obtain ⟨TT, hTT⟩ : ∃ TT, T * T = TT := ⟨_, rfl⟩
          simp only [hTT] at BY CM hcmp HY HNO
          have HT := Lib.hid hTT
          generalize cmpI TT M = cm at *
          clear hTT
          clear hd hRR b1 b2 b3 b4 b5 b6 b7 b8 hkK hj1 hMb
          rcases hcmp with ⟨hcm, hc⟩ | ⟨hcm, hc⟩
          all_goals
            have HC := Lib.hid hc
            clear hc
            go_wp2_with (first
              | (go_at_call 23; with_reducible refine (OI _).mono ?_; rintro _ _ ⟨A12, k12, c12, q12, hq12, hl12, hm12, rfl, rfl⟩; have hq12' := hq12.out)
              | (go_at_call 243; with_reducible refine (LO _ _ _ _ (by (repeat (first | (with_reducible assumption) | (with_reducible refine Big.drew ?_) | (with_reducible refine Big.drewN ?_ _) | (with_reducible refine Big.alloc ?_ _) | (with_reducible refine Big.later ?_ _) | (with_reducible refine Big.setCell ?_ _ (by go_simp)))))).mono ?_; rintro _ _ ⟨A8, k8, c8, q8, hq8, hk8, hk9, rfl, rfl⟩; have hq8' := hq8.out)
              | (go_at_call 162; with_reducible refine (PL _ _ _ _ (by (repeat (first | (with_reducible assumption) | (with_reducible refine Big.drew ?_) | (with_reducible refine Big.drewN ?_ _) | (with_reducible refine Big.alloc ?_ _) | (with_reducible refine Big.later ?_ _) | (with_reducible refine Big.setCell ?_ _ (by go_simp))))) (by (repeat (first | (with_reducible assumption) | (with_reducible refine Big.drew ?_) | (with_reducible refine Big.drewN ?_ _) | (with_reducible refine Big.alloc ?_ _) | (with_reducible refine Big.later ?_ _) | (with_reducible refine Big.setCell ?_ _ (by go_simp)))))).mono ?_; rintro _ _ ⟨A13, k13, c13, q13, hq13, hl13, hm13, rfl, rfl⟩; have hq13' := hq13.out)
              | (go_at_call 131; with_reducible refine (BY _ _ _ _ (by (repeat (first | (with_reducible assumption) | (with_reducible refine Big.drew ?_) | (with_reducible refine Big.drewN ?_ _) | (with_reducible refine Big.alloc ?_ _) | (with_reducible refine Big.later ?_ _) | (with_reducible refine Big.setCell ?_ _ (by go_simp)))))).mono ?_; rintro _ _ ⟨A14, k14, c14, q14, hq14, hl14, hm14, rfl, rfl⟩; have hq14' := hq14.out)
              | (go_at_call 163; with_reducible refine (CM _ _ _ _ (by (repeat (first | (with_reducible assumption) | (with_reducible refine Big.drew ?_) | (with_reducible refine Big.drewN ?_ _) | (with_reducible refine Big.alloc ?_ _) | (with_reducible refine Big.later ?_ _) | (with_reducible refine Big.setCell ?_ _ (by go_simp))))) (by (repeat (first | (with_reducible assumption) | (with_reducible refine Big.drew ?_) | (with_reducible refine Big.drewN ?_ _) | (with_reducible refine Big.alloc ?_ _) | (with_reducible refine Big.later ?_ _) | (with_reducible refine Big.setCell ?_ _ (by go_simp)))))).mono ?_; rintro _ _ ⟨q10, rfl, rfl⟩))
            first
              | exact ⟨⟨j, T, _, _, _, by go_num, by have := HB.out.2; omega, rfl, by (repeat (first | (with_reducible assumption) | (with_reducible refine Big.drew ?_) | (with_reducible refine Big.drewN ?_ _) | (with_reducible refine Big.alloc ?_ _) | (with_reducible refine Big.later ?_ _) | (with_reducible refine Big.setCell ?_ _ (by go_simp)))), HY.out HC.out, by rw [HT.out]; exact HC.out, hbel.trans (Below.mono (by (repeat' first | (with_reducible first | exact Below.refl _ _ | assumption | refine Later.belowOf _ ?_ ?_ | refine Below.alloc ?_ ?_ _ | refine Below.setCell ?_ ?_ _ | refine Below.drewN' _ ?_ | refine Below.drew ?_ | exact Ge.le) | go_size)) hbel.size)⟩, by simp [intOf] <;> omega⟩
              | exact ⟨⟨j, R, _, _, _, by go_num, by have := HB.out.2; omega, rfl, by (repeat (first | (with_reducible assumption) | (with_reducible refine Big.drew ?_) | (with_reducible refine Big.drewN ?_ _) | (with_reducible refine Big.alloc ?_ _) | (with_reducible refine Big.later ?_ _) | (with_reducible refine Big.setCell ?_ _ (by go_simp)))), HNO.out HC.out, HB.out.1, hbel.trans (Below.mono (by (repeat' first | (with_reducible first | exact Below.refl _ _ | assumption | refine Later.belowOf _ ?_ ?_ | refine Below.alloc ?_ ?_ _ | refine Below.setCell ?_ ?_ _ | refine Below.drewN' _ ?_ | refine Below.drew ?_ | exact Ge.le) | go_size)) hbel.size)⟩, by simp [intOf] <;> omega⟩
        · obtain rfl : k = 0 := by omega
          have hd0 : R = Q.root.isq M := hd
          have hN := HN.out
          rw [← hd0] at hN
          obtain ⟨b1, b2, b3, b4, b5, b6⟩ := root_bounds HM.out.1 hRR (k := 0) (by omega)
          have b8 : R < bp 30000 := Nat.lt_of_lt_of_le b1 (bp_le (by decide))
          have BY := fun (w1 : World) (h : Big w1 (.slice A7 k7 c7) R) => BigRes.go (by_big h h b8 b8)
          have CM := fun (w1 : World) (A9 : Option Addr) (k9 c9 : Nat) (h : Big w1 (.slice A9 k9 c9) (R * R)) (h2 : Big w1 (.slice A2 k2 c2) M) => IntRes.go (cmp_big h h2 b5 hMb)
          have PL := fun (w1 : World) (B9 : Option Addr) (l9 d9 : Nat) (h : Big w1 (.slice A7 k7 c7) R) (h2 : Big w1 (.slice B9 l9 d9) 1) => BigRes.go (plus_big h h2 b8 one_bp)
          have hcmp : (cmpI (R * R) M ≠ 0 ∧ R * R ≠ M) ∨ (cmpI (R * R) M = 0 ∧ R * R = M) := by
            unfold cmpI
            split
            · left; omega
            · split
              · left; omega
              · right; omega
          have f70 := f7 0
          have f71 := f7 1
          have f72 := f7 2
          have hz0 : ((0 : Nat) : Int) - 1 = -1 := by omega
          generalize R * R = RR at *
          generalize cmpI RR M = cm at *
          clear hd hd0 hRR b1 b2 b3 b4 b5 b6 b8 hkK hMb HN f7
          cases down
          · rcases hcmp with ⟨hcm, hc⟩ | ⟨hcm, hc⟩
            focus rw [if_pos ⟨rfl, hc⟩] at hN
            rotate_left
            focus rw [if_neg (by simp [hc])] at hN
            rotate_left
            all_goals
              subst hN
              clear hc
              simp only [dirI, Bool.false_eq_true, if_true, if_false]
              go_wp2_with (first
                | (go_at_call 131; with_reducible refine (BY _ (by (repeat (first | (with_reducible assumption) | (with_reducible refine Big.drew ?_) | (with_reducible refine Big.drewN ?_ _) | (with_reducible refine Big.alloc ?_ _) | (with_reducible refine Big.later ?_ _) | (with_reducible refine Big.setCell ?_ _ (by go_simp)))))).mono ?_; rintro _ _ ⟨A14, k14, c14, q14, hq14, hl14, hm14, rfl, rfl⟩; have hq14' := hq14.out)
                | (go_at_call 163; with_reducible refine (CM _ _ _ _ (by (repeat (first | (with_reducible assumption) | (with_reducible refine Big.drew ?_) | (with_reducible refine Big.drewN ?_ _) | (with_reducible refine Big.alloc ?_ _) | (with_reducible refine Big.later ?_ _) | (with_reducible refine Big.setCell ?_ _ (by go_simp))))) (by (repeat (first | (with_reducible assumption) | (with_reducible refine Big.drew ?_) | (with_reducible refine Big.drewN ?_ _) | (with_reducible refine Big.alloc ?_ _) | (with_reducible refine Big.later ?_ _) | (with_reducible refine Big.setCell ?_ _ (by go_simp)))))).mono ?_; rintro _ _ ⟨q10, rfl, rfl⟩)
                | (go_at_call 23; with_reducible refine (OI _).mono ?_; rintro _ _ ⟨A12, k12, c12, q12, hq12, hl12, hm12, rfl, rfl⟩; have hq12' := hq12.out)
                | (go_at_call 162; with_reducible refine (PL _ _ _ _ (by (repeat (first | (with_reducible assumption) | (with_reducible refine Big.drew ?_) | (with_reducible refine Big.drewN ?_ _) | (with_reducible refine Big.alloc ?_ _) | (with_reducible refine Big.later ?_ _) | (with_reducible refine Big.setCell ?_ _ (by go_simp))))) (by (repeat (first | (with_reducible assumption) | (with_reducible refine Big.drew ?_) | (with_reducible refine Big.drewN ?_ _) | (with_reducible refine Big.alloc ?_ _) | (with_reducible refine Big.later ?_ _) | (with_reducible refine Big.setCell ?_ _ (by go_simp)))))).mono ?_; rintro _ _ ⟨A13, k13, c13, q13, hq13, hl13, hm13, rfl, rfl⟩; have hq13' := hq13.out))
              first
                | (have b13 : Below wr.heap.size wr q13.val := (by (repeat' first | (with_reducible first | exact Below.refl _ _ | assumption | refine Later.belowOf _ ?_ ?_ | refine Below.alloc ?_ ?_ _ | refine Below.setCell ?_ ?_ _ | refine Below.drewN' _ ?_ | refine Below.drew ?_ | exact Ge.le) | go_size)); have s0 := cellBelowR b13 f4; have s1 := cellBelowR b13 f5; have s2 := cellBelowR b13 f6; have bw13 := bwr.trans (b13.mono bwr.size); refine bodyPost_ret (v := (.agg #[.bool _, (.slice A13 k13 c13), .int .i64 _])) (by simp [results, Tryz.f253, go_sem, s0, s1, s2]) rfl ⟨⟨_, _, _, rfl, Big.set3 (n := R + 1) hq13' s0 s1 s2 _ _ _⟩, (((bw13.setCell (p := ⟨w.heap.size + 1, 0, none⟩) (by simp) _).setCell (p := ⟨w.heap.size + 1, 1, none⟩) (by simp) _).setCell (p := ⟨w.heap.size + 1, 2, none⟩) (by simp) _)⟩)
                | (have b13 : Below wr.heap.size wr q10.val := (by (repeat' first | (with_reducible first | exact Below.refl _ _ | assumption | refine Later.belowOf _ ?_ ?_ | refine Below.alloc ?_ ?_ _ | refine Below.setCell ?_ ?_ _ | refine Below.drewN' _ ?_ | refine Below.drew ?_ | exact Ge.le) | go_size)); have s0 := cellBelowR b13 f4; have s1 := cellBelowR b13 f5; have s2 := cellBelowR b13 f6; have hR2 := hR.below b13; have bw13 := bwr.trans (b13.mono bwr.size); refine bodyPost_ret (v := (.agg #[.bool _, (.slice A7 k7 c7), .int .i64 _])) (by simp [results, Tryz.f253, go_sem, s0, s1, s2]) rfl ⟨⟨_, _, _, rfl, Big.set3 (n := R) hR2 s0 s1 s2 _ _ _⟩, (((bw13.setCell (p := ⟨w.heap.size + 1, 0, none⟩) (by simp) _).setCell (p := ⟨w.heap.size + 1, 1, none⟩) (by simp) _).setCell (p := ⟨w.heap.size + 1, 2, none⟩) (by simp) _)⟩)
          · rw [if_neg (by simp)] at hN
            subst hN
            simp only [dirI, Bool.false_eq_true, if_true, if_false]
            go_wp2
            refine bodyPost_ret (v := (.agg #[.bool _, (.slice A7 k7 c7), .int .i64 _])) (by simp [results, Tryz.f253, go_sem, f4, f5, f6]) rfl ⟨⟨_, _, _, rfl, Big.set3 (n := R) hR f4 f5 f6 _ _ _⟩, (((bwr.setCell (p := ⟨w.heap.size + 1, 0, none⟩) (by simp) _).setCell (p := ⟨w.heap.size + 1, 1, none⟩) (by simp) _).setCell (p := ⟨w.heap.size + 1, 2, none⟩) (by simp) _)⟩
end Go.Proofs.YtkmgfbhnioojhaaGreat

/- Contract: orreryref03.Sqrt. -/
namespace Go.Proofs.YtkmgfbhnioojhaaGreat
set_option linter.unusedSimpArgs false
set_option linter.unusedVariables false
open Go.RowKit
open Fl

theorem isq_go_le (M : Nat) : ∀ (k r : Nat), r * r ≤ M → Q.root.go M k r * Q.root.go M k r ≤ M := by
  intro k
  induction k with
  | zero => intro r h; exact h
  | succ k ih =>
    intro r h
    show (if _ then _ else _) * (if _ then _ else _) ≤ M
    split
    · exact ih _ (by assumption)
    · exact ih _ h
theorem isq_le (M : Nat) : Q.root.isq M * Q.root.isq M ≤ M := isq_go_le M _ 0 (Nat.zero_le _)
theorem tdiv2_ge {z : Int} (h : -40000 ≤ z) (h2 : z ≤ 40000) : -40000 ≤ z.tdiv 2 ∧ z.tdiv 2 ≤ 40000 := by
  rcases Int.lt_or_le z 0 with hz | hz
  · have e : z = -(-z) := by omega
    rw [e, Int.neg_tdiv, Int.tdiv_eq_ediv_of_nonneg (by omega)]
    omega
  · rw [Int.tdiv_eq_ediv_of_nonneg hz]
    omega
theorem Q.root_wide {a : Q} {d : Bool} (ha : a.Ok) : (a.root d).Wide := by
  obtain ⟨a1, a2, a3⟩ := ha
  unfold Q.root
  split
  · exact ⟨Nat.lt_of_lt_of_le a1 (bp_le (by decide)), by omega, by omega⟩
  · have up2 : rootUp a.m a.e ≤ 401 := by unfold rootUp; simp only; split <;> omega
    have hM := shift_lt (k := rootUp a.m a.e) a1 (by omega)
    have l1 : bp 3000 = bp 1000 * bp 2000 := by rw [← bp_add]
    have l2 : 4 * bp 2000 ≤ bp 3000 := by
      rw [l1]; exact Nat.mul_le_mul_right _ (Nat.le_trans (by unfold bp; decide) (bp_le (show 1 ≤ 1000 by decide)))
    obtain ⟨r, hr⟩ : ∃ r, Q.root.isq (a.m * 2 ^ rootUp a.m a.e) = r := ⟨_, rfl⟩
    have h1 := isq_le (a.m * 2 ^ rootUp a.m a.e)
    have h3 : r ≤ r * r := Nat.le_mul_self r
    have he := tdiv2_ge (z := a.e - (rootUp a.m a.e : Nat)) (by omega) (by omega)
    simp only [hr] at *
    refine ⟨?_, ?_, ?_⟩
    · show r + (if _ then 1 else 0) < _
      clear hr l1 he up2
      generalize a.m * 2 ^ rootUp a.m a.e = M at *
      generalize r * r = rr at *
      generalize bp 2000 = c at *
      generalize bp 3000 = c3 at *
      split <;> omega
    · show -1000000 ≤ (a.e - _).tdiv 2
      omega
    · show (a.e - _).tdiv 2 ≤ 1000000
      omega

set_option maxHeartbeats 8000000 in
set_option maxRecDepth 100000 in
theorem sqrtP2_any (x : P2) (A : Option Addr) (ka ca : Nat) (B : Option Addr) (kb cb : Nat) (w : World) (hA : BigS w (.slice A ka ca) x.a.m) (hB : BigS w (.slice B kb cb) x.b.m) (ox : x.Ok) :
    Calls Tryz.prog 181 #[(.agg #[.bool x.a.s, (.slice A ka ca), .int .i64 x.a.e, .bool x.b.s, (.slice B kb cb), .int .i64 x.b.e])] w (PRes x.sqrt w) := by
  have c1 := fun (w1 : World) (h : Below w.heap.size w w1) => NumRes.go (rootQ_any x.a true A ka ca w1 (hA.at h) ox.1)
  have c2 := fun (w1 : World) (h : Below w.heap.size w w1) => NumRes.go (rootQ_any x.b false B kb cb w1 (hB.at h) ox.2)
  have c3 := fun (w1 : World) (A' : Option Addr) (k' c' : Nat) (B' : Option Addr) (l' d' : Nat) (h1 : Big w1 (.slice A' k' c') (x.a.root true).m) (h2 : Big w1 (.slice B' l' d') (x.b.root false).m) => PairRes.go (pairQ_any (x.a.root true) (x.b.root false) A' k' c' B' l' d' w1 h1.stays h2.stays (Q.root_wide ox.1) (Q.root_wide ox.2))
  have e0 : P2.of (x.a.root true) (x.b.root false) = x.sqrt := rfl
  rw [e0] at c3
  simp only [dirI, Bool.false_eq_true, if_true, if_false] at c1 c2
  generalize x.sqrt = z at *
  generalize x.a.root true = p at *
  generalize x.b.root false = q at *
  obtain ⟨⟨xs, xm, xe⟩, ⟨xt, xn, xf⟩⟩ := x
  obtain ⟨⟨zs, zm, ze⟩, ⟨zt, zn, zf⟩⟩ := z
  obtain ⟨ps, pm, pe⟩ := p
  obtain ⟨qs, qm, qe⟩ := q
  simp only at *
  have C1 := Lib.hid c1
  have C2 := Lib.hid c2
  have C3 := Lib.hid c3
  clear c1 c2 c3 hA hB ox e0
  unfold PRes
  simp only
  go_enter Tryz.func181, Tryz.ntmps181
  go_wp2_with (fail)
  go_region_held3 (fun w' => w'.cell? ⟨w.heap.size, 0, none⟩ = some (.bool xs) ∧ w'.cell? ⟨w.heap.size, 1, none⟩ = some (.slice A ka ca) ∧ w'.cell? ⟨w.heap.size, 2, none⟩ = some (.int .i64 xe) ∧ w'.cell? ⟨w.heap.size, 3, none⟩ = some (.bool xt) ∧ w'.cell? ⟨w.heap.size, 4, none⟩ = some (.slice B kb cb) ∧ w'.cell? ⟨w.heap.size, 5, none⟩ = some (.int .i64 xf))
    (first | (go_simp; done) | go_keep)
    ((first | (go_at_call 253; (with_reducible refine (C1.out _ (by (repeat' first | (with_reducible first | exact Below.refl _ _ | assumption | refine Later.belowOf _ ?_ ?_ | refine Below.alloc ?_ ?_ _ | refine Below.setCell ?_ ?_ _ | refine Below.drewN' _ ?_ | refine Below.drew ?_ | exact Ge.le) | go_size))).mono ?_); rintro _ _ ⟨A2, k2, d2, q2, hq2, rfl, rfl⟩; have hq2' := hq2.out) | (go_at_call 253; (with_reducible refine (C2.out _ (by (repeat' first | (with_reducible first | exact Below.refl _ _ | assumption | refine Later.belowOf _ ?_ ?_ | refine Below.alloc ?_ ?_ _ | refine Below.setCell ?_ ?_ _ | refine Below.drewN' _ ?_ | refine Below.drew ?_ | exact Ge.le) | go_size))).mono ?_); rintro _ _ ⟨A3, k3, d3, q3, hq3, rfl, rfl⟩; have hq3' := hq3.out) | (go_at_call 178; (with_reducible refine (C3.out _ _ _ _ _ _ _ (by (repeat (first | (with_reducible assumption) | (with_reducible refine Big.drew ?_) | (with_reducible refine Big.drewN ?_ _) | (with_reducible refine Big.alloc ?_ _) | (with_reducible refine Big.later ?_ _) | (with_reducible refine Big.setCell ?_ _ (by go_simp))))) (by (repeat (first | (with_reducible assumption) | (with_reducible refine Big.drew ?_) | (with_reducible refine Big.drewN ?_ _) | (with_reducible refine Big.alloc ?_ _) | (with_reducible refine Big.later ?_ _) | (with_reducible refine Big.setCell ?_ _ (by go_simp)))))).mono ?_); rintro _ _ ⟨A4, k4, d4, B4, l4, e4, q4, hq4, hq5, rfl, rfl⟩; have hq4' := hq4.out; have hq5' := hq5.out)))
  all_goals
    rename_i hHeld
    clear hHeld
    go_wp2
    go_returns
    exact ⟨⟨_, _, _, _, _, _, rfl, by (repeat (first | (with_reducible assumption) | (with_reducible refine Big.drew ?_) | (with_reducible refine Big.drewN ?_ _) | (with_reducible refine Big.alloc ?_ _) | (with_reducible refine Big.later ?_ _) | (with_reducible refine Big.setCell ?_ _ (by go_simp)))), by (repeat (first | (with_reducible assumption) | (with_reducible refine Big.drew ?_) | (with_reducible refine Big.drewN ?_ _) | (with_reducible refine Big.alloc ?_ _) | (with_reducible refine Big.later ?_ _) | (with_reducible refine Big.setCell ?_ _ (by go_simp))))⟩, by (repeat' first | (with_reducible first | exact Below.refl _ _ | assumption | refine Later.belowOf _ ?_ ?_ | refine Below.alloc ?_ ?_ _ | refine Below.setCell ?_ ?_ _ | refine Below.drewN' _ ?_ | refine Below.drew ?_ | exact Ge.le) | go_size)⟩
end Go.Proofs.YtkmgfbhnioojhaaGreat
