/- Contract: orreryref03.quotient. -/
import Derived.Test.YtkmgfbhnioojhaaGreatPmR1x
namespace Go.Proofs.YtkmgfbhnioojhaaGreat
set_option linter.unusedSimpArgs false
set_option linter.unusedVariables false
open Go.RowKit
open Fl

theorem cut_worldR {P : Program} {c : Code} {Q : Exit → Act → World → Prop} {a : Act} {w : World} (h : ∀ W, w = W → c.wp P Q a W) : c.wp P Q a w := h w rfl
theorem cellBelowR {w w' : World} {b o : Nat} {v : Value} (hb : Below w.heap.size w w') (h : w.cell? ⟨b, o, none⟩ = some v) : w'.cell? ⟨b, o, none⟩ = some v :=
  (hb.cell (World.block_lt_of_cell? w _ h)).trans h
theorem big_emptyR (w : World) (A : Option Addr) : Big w (.slice A 0 0) 0 := ⟨[], ⟨A, 0, rfl, Nat.le_refl _, by decide, fun i hi => by simp at hi⟩, dig_nil, fun h => by simp at h, rfl⟩
theorem twice_bp {M : Nat} (h : M < bp 2000) : 2 * M + 2 < bp 30000 := by
  have l1 : bp 3000 = bp 1000 * bp 2000 := by rw [← bp_add]
  have l2 : 4 * bp 2000 ≤ bp 3000 := by
    rw [l1]; exact Nat.mul_le_mul_right _ (Nat.le_trans (by unfold bp; decide) (bp_le (show 1 ≤ 1000 by decide)))
  have l3 := bp_le (show 3000 ≤ 30000 by decide)
  have l4 := bp_pos 2000
  generalize bp 3000 = a at *
  generalize bp 30000 = b at *
  generalize bp 2000 = c at *
  omega
theorem big_lenR {w : World} {A : Option Addr} {k c n : Nat} (h : Big w (.slice A k c) n) : k = 0 ↔ n = 0 := by
  obtain ⟨A', k', c', h1, h2, _⟩ := h.len
  injection h1 with _ h4 _
  subst h4
  exact h2
def QuoInv (W : World) (M b K : Nat) (r q z : Value) (wr : World) : Prop :=
  ∃ (k R n : Nat) (A : Option Addr) (ka ca : Nat) (B : Option Addr) (kb cb : Nat), z = .int .i64 ((k : Int) - 1) ∧ k ≤ K ∧ r = .slice A ka ca ∧ q = .slice B kb cb ∧ Big wr (.slice A ka ca) R ∧ Big wr (.slice B kb cb) n ∧ DivSt M b k R n ∧ Below W.heap.size W wr
theorem bits_laterR {v : Value} {m : Nat} {w : World} (h : Big w v m) (hm : m < bp 30000) (n : Later w) : Calls Tryz.prog 95 #[v] n.val fun e w'' => e = .returned (.int .i64 (blen m)) ∧ ∃ q : Later w, w'' = q.val :=
  (bits_big (h.below n.below) hm).mono fun _ w'' ⟨he, hb⟩ => ⟨he, ⟨w'', n.below.trans (hb.mono n.below.size)⟩, rfl⟩

set_option maxHeartbeats 16000000 in
set_option maxRecDepth 100000 in
theorem quoQ_any (a b : Q) (down : Bool) (A : Option Addr) (ka ca : Nat) (B : Option Addr) (kb cb : Nat) (w : World) (hA : BigS w (.slice A ka ca) a.m) (hB : BigS w (.slice B kb cb) b.m) (oa : a.Ok) (ob : b.Ok) (ha0 : blen a.m ≤ 200) (hb0 : b.m ≠ 0) :
    Calls Tryz.prog 177 #[(.agg #[.bool a.s, (.slice A ka ca), .int .i64 a.e]), (.agg #[.bool b.s, (.slice B kb cb), .int .i64 b.e]), .int .i64 (dirI down)] w (NumRes (a.quo b down).s (a.quo b down).m (a.quo b down).e w) := by
  obtain ⟨s, m, e⟩ := a
  obtain ⟨t, n, f⟩ := b
  obtain ⟨a1, a2, a3⟩ := oa
  obtain ⟨b1, b2, b3⟩ := ob
  have hb9 := blen_le_bp b1
  unfold Q.quo
  simp only at *
  have hm3 : m < bp 30000 := Nat.lt_of_lt_of_le a1 (bp_le (by decide))
  have hn3 : n < bp 30000 := Nat.lt_of_lt_of_le b1 (bp_le (by decide))
  have hk0 : ka = 0 ↔ m = 0 := by
    obtain ⟨A', k', c', h1, h2, h3⟩ := (hA w (Below.refl _ _)).len
    injection h1 with h1 h4 h5
    subst h4
    exact h2
  by_cases hm : m = 0
  · obtain rfl := hk0.2 hm
    subst hm
    rw [if_pos rfl]
    have HA := Lib.hid hA
    clear hA hB hk0 a1 b1 hm3 hn3
    go_enter Tryz.func177, Tryz.ntmps177
    go_wp2
    go_returns
    exact ⟨⟨_, _, _, rfl, HA.out _ (by (repeat' first | (with_reducible first | exact Below.refl _ _ | assumption | refine Later.belowOf _ ?_ ?_ | refine Below.alloc ?_ ?_ _ | refine Below.setCell ?_ ?_ _ | refine Below.drewN' _ ?_ | refine Below.drew ?_ | exact Ge.le) | go_size))⟩, by (repeat' first | (with_reducible first | exact Below.refl _ _ | assumption | refine Later.belowOf _ ?_ ?_ | refine Below.alloc ?_ ?_ _ | refine Below.setCell ?_ ?_ _ | refine Below.drewN' _ ?_ | refine Below.drew ?_ | exact Ge.le) | go_size)⟩
  · rw [if_neg hm]
    have hk1 : (0 : Int) < (ka : Int) := by
      have : ka ≠ 0 := fun h => hm (hk0.1 h)
      omega
    have hk5 : (ka : Int) ≠ 0 := by omega
    obtain ⟨up, hup⟩ : ∃ up, quoUp m n = up := ⟨_, rfl⟩
    rw [hup]
    have up2 : up ≤ 456 := by rw [← hup]; unfold quoUp; omega
    have key : ¬ (200 : Int) + blen n - blen m < 0 ∧ (200 : Int) + blen n - blen m = up := by
      unfold quoUp at hup; omega
    have hM0 := shift_lt a1 (show up ≤ 60000 by omega)
    have hbM := blen_shift (k := up) hm
    have hMne : m * 2 ^ up ≠ 0 := Nat.mul_ne_zero hm (Nat.ne_of_gt (Nat.two_pow_pos up))
    have hbb : blen n ≤ blen (m * 2 ^ up) := by rw [hbM]; unfold quoUp at hup; omega
    have hst := div_start hMne hb0 hbb
    have hKK : blen (m * 2 ^ up) - blen n + 1 ≤ 1000 := by rw [hbM]; omega
    have bi := fun (w1 : World) (h : Below w.heap.size w w1) => bits_laterR (hA w1 h) hm3
    have bj := fun (w1 : World) (h : Below w.heap.size w w1) => bits_laterR (hB w1 h) hn3
    have li := fun (w1 : World) (h : Below w.heap.size w w1) => BigRes.go (left_big (hA w1 h) hm3 up (by omega))
    obtain ⟨M, hMM⟩ : ∃ M, m * 2 ^ up = M := ⟨_, rfl⟩
    rw [hMM] at hM0 hbM hMne hbb hst hKK li ⊢
    obtain ⟨x, hx⟩ : ∃ x, (if 0 < M % n ∧ down = s then 1 else 0) = x := ⟨_, rfl⟩
    rw [hx]
    obtain ⟨N, hN⟩ : ∃ N, M / n + x = N := ⟨_, rfl⟩
    rw [hN]
    have HX := Lib.hid (show _ ∧ _ from ⟨hx, hN⟩)
    clear hx hN
    have HM2 := Lib.hid (twice_bp hM0)
    have HM := Lib.hid (show _ ∧ _ ∧ _ ∧ _ from ⟨hst, Nat.lt_of_lt_of_le hM0 (bp_le (show 2000 ≤ 30000 by decide)), hKK, hbb⟩)
    have BI := Lib.hid bi
    have BJ := Lib.hid bj
    have LI := Lib.hid li
    have HA := Lib.hid hA
    have HB := Lib.hid hB
    have HN := Lib.hid (show _ ∧ _ from ⟨b1, hb0⟩)
    clear hst hM0 hKK bi bj li hA hB hMM hMne hbM hup hk0 a1 hm3 b1
    generalize blen m = bm at *
    generalize hbn : blen n = bn at *
    have HBN := Lib.hid hbn
    clear hbn
    go_enter Tryz.func177, Tryz.ntmps177
    go_wp2_with (fail)
    refine cut_worldR (fun W0 hW0 => ?_)
    have bw0 : Below w.heap.size w W0 := by rw [← hW0]; (repeat' first | (with_reducible first | exact Below.refl _ _ | assumption | refine Later.belowOf _ ?_ ?_ | refine Below.alloc ?_ ?_ _ | refine Below.setCell ?_ ?_ _ | refine Below.drewN' _ ?_ | refine Below.drew ?_ | exact Ge.le) | go_size)
    have BI0 := BI.out W0 bw0
    have BJ0 := BJ.out W0 bw0
    have n1 : (0 : Int) ≤ bn := by omega
    have e0 : W0.cell? ⟨w.heap.size, 0, none⟩ = some (.bool s) := by rw [← hW0]; simp [go_sem]
    have e1 : W0.cell? ⟨w.heap.size, 1, none⟩ = some (.slice A ka ca) := by rw [← hW0]; simp [go_sem]
    have e2 : W0.cell? ⟨w.heap.size, 2, none⟩ = some (.int .i64 e) := by rw [← hW0]; simp [go_sem]
    have g0 : W0.cell? ⟨w.heap.size + 1, 0, none⟩ = some (.bool t) := by rw [← hW0]; simp [go_sem]
    have g1 : W0.cell? ⟨w.heap.size + 1, 1, none⟩ = some (.slice B kb cb) := by rw [← hW0]; simp [go_sem]
    have g2 : W0.cell? ⟨w.heap.size + 1, 2, none⟩ = some (.int .i64 f) := by rw [← hW0]; simp [go_sem]
    have r0 : W0.cell? ⟨w.heap.size + 2, 0, none⟩ = some (.bool false) := by rw [← hW0]; simp [go_sem]
    have r1 : W0.cell? ⟨w.heap.size + 2, 1, none⟩ = some (.slice none 0 0) := by rw [← hW0]; simp [go_sem]
    have r2 : W0.cell? ⟨w.heap.size + 2, 2, none⟩ = some (.int .i64 0) := by rw [← hW0]; simp [go_sem]
    have rz : ∀ j, j < 3 → W0.frozen? ⟨w.heap.size + 2, j, none⟩ = false := fun j _ => by rw [← hW0]; simp [go_sem]
    have hs0 : w.heap.size + 3 ≤ W0.heap.size := by rw [← hW0]; simp
    haveI ge1 : Ge W0 (w.heap.size + 1) := ⟨by omega⟩
    haveI ge2 : Ge W0 (w.heap.size + 1 + 1) := ⟨by omega⟩
    haveI ge3 : Ge W0 (w.heap.size + 1 + 1 + 1) := ⟨by omega⟩
    have HR := Lib.hid (show _ ∧ _ ∧ _ ∧ _ ∧ _ ∧ _ from ⟨bw0, r0, r1, r2, rz, hs0⟩)
    clear hW0 bw0 r0 r1 r2 rz hs0
    refine wp_region_later (by kernel_rfl) (by kernel_rfl) ?_
    repeat (go_big_quiet_step (first | (go_at_call 95; first | (with_reducible exact BI0 _) | (with_reducible exact BJ0 _))))
    (refine wpQuiet_nil ?_; rintro _ ⟨nq, rfl⟩)
    have BN0 := nq.below
    obtain ⟨k1, k2⟩ := key
    go_upto_region 8 with (go_at_call 243; refine (LI.out _ (HR.out.1.trans (nq.below.mono HR.out.1.size))).mono ?_; rintro _ _ ⟨A5, k5, c5, q5, hq5, hk5, hk6, rfl, rfl⟩; have hq5' := hq5.out)
    focus
      refine cut_worldR (fun W7 hW7 => ?_)
      have hb0 : Big W7 (.slice (some ⟨q5.val.heap.size, 0, none⟩) 0 0) 0 := big_emptyR _ _
      have hb5 : Big W7 (.slice A5 k5 c5) M := by rw [← hW7]; exact hq5'.alloc _
      have bn5 : Below nq.val.heap.size nq.val W7 := by rw [← hW7]; exact q5.below.alloc q5.below.size _
      have b07 : Below W0.heap.size W0 W7 := nq.below.trans (bn5.mono nq.below.size)
      have bw7 : Below w.heap.size w W7 := HR.out.1.trans (b07.mono HR.out.1.size)
      have e0 := cellBelowR b07 e0
      have e1 := cellBelowR b07 e1
      have e2 := cellBelowR b07 e2
      have g0 := cellBelowR b07 g0
      have g1 := cellBelowR b07 g1
      have g2 := cellBelowR b07 g2
      have hs7 := b07.size
      have hs0 := HR.out.2.2.2.2.2
      have BM := bits_laterR hb5 HM.out.2.1
      have BJ7 := BJ.out W7 bw7
      haveI gf1 : Ge W7 (w.heap.size + 1) := ⟨by omega⟩
      haveI gf2 : Ge W7 (w.heap.size + 1 + 1) := ⟨by omega⟩
      have HW := Lib.hid (show _ ∧ _ ∧ _ ∧ _ from ⟨b07, bw7, hb0, hb5⟩)
      generalize q5.val.heap.size = eb at *
      clear hW7 hb0 hb5 bn5 b07 bw7 hq5 hq5' BN0 BI0 BJ0 ge1 ge2 ge3 q5
      have hbM : (blen M : Int) ≤ 960000 := by have := blen_bp HM.out.2.1; omega
      have hbn2 : (bn : Int) ≤ 256 := by omega
      have hbM0 : (0 : Int) ≤ blen M := by omega
      refine wp_region_later (by kernel_rfl) (by kernel_rfl) ?_
      repeat (go_big_quiet_step (first | (go_at_call 95; first | (with_reducible exact BM _) | (with_reducible exact BJ7 _))))
      (refine wpQuiet_nil ?_; rintro _ ⟨nw, rfl⟩)
      go_wp2
      go_loopw [8, 9, 10] (fun r q z wr => QuoInv nw.val M n 1000 r q z wr) (fun _ _ z _ => (intOf z + 1).toNat)
      case atStart => exact ⟨blen M - bn + 1, M, 0, _, _, _, _, _, _, by have := HM.out.2.2.2; go_num, HM.out.2.2.1, rfl, rfl, HW.out.2.2.2.below nw.below, HW.out.2.2.1.below nw.below, HM.out.1, Below.refl _ _⟩
      case round =>
        obtain ⟨k, R, qn, A6, k6, c6, A7, k7, c7, rfl, hkK, rfl, rfl, hR, hq, hd, hbel⟩ := hrel
        have e0 := cellBelowR hbel (cellBelowR nw.below e0)
        have e2 := cellBelowR hbel (cellBelowR nw.below e2)
        have g1 := cellBelowR hbel (cellBelowR nw.below g1)
        have g2 := cellBelowR hbel (cellBelowR nw.below g2)
        have hsw := nw.below.size
        have hsr := hbel.size
        haveI gr1 : Ge wr (w.heap.size + 1) := ⟨by omega⟩
        haveI gr2 : Ge wr (w.heap.size + 1 + 1) := ⟨by omega⟩
        have bwr : Below w.heap.size w wr := HW.out.2.1.trans ((nw.below.trans (hbel.mono nw.below.size)).mono HW.out.2.1.size)
        have hkk : (k : Int) ≤ 1000 := by omega
        by_cases hk : 0 < k
        · obtain ⟨j, rfl⟩ : ∃ j, k = j + 1 := ⟨k - 1, by omega⟩
          have hj1 : ((j + 1 : Nat) : Int) - 1 = j := by omega
          have hj2 : (0 : Int) ≤ (j : Int) := by omega
          have hj3 : (j : Int) ≤ 1000 := by omega
          rw [hj1]
          have hd2 : n * 2 ^ j < bp 30000 := Nat.lt_of_lt_of_le (shift_lt HN.out.1 (by omega)) (bp_le (by decide))
          have hMb := HM.out.2.1
          have hR2 : R < bp 30000 := by have := hd.1; omega
          have hq2 : qn ≤ M := by
            have h1 := hd.1
            have h2 : qn ≤ qn * 2 ^ (j + 1) * n := by
              rw [Nat.mul_assoc]
              exact Nat.le_mul_of_pos_right _ (Nat.mul_pos (Nat.two_pow_pos _) (Nat.pos_of_ne_zero HN.out.2))
            omega
          have hq3 : qn < bp 30000 := by omega
          have LD := fun (w1 : World) (h : Below w.heap.size w w1) => BigRes.go (left_big (HB.out w1 h) (Nat.lt_of_lt_of_le HN.out.1 (bp_le (show 8 ≤ 30000 by decide))) j (by omega))
          have LQ := fun (w1 : World) (h : Big w1 (.slice A7 k7 c7) qn) => (show Calls Tryz.prog 243 #[.slice A7 k7 c7, .int .i64 1] w1 _ from BigRes.go (left_big h hq3 1 (by omega)))
          have CM := fun (w1 : World) (A8 : Option Addr) (k8 c8 : Nat) (h : Big w1 (.slice A8 k8 c8) (n * 2 ^ j)) (h2 : Big w1 (.slice A6 k6 c6) R) => IntRes.go (cmp_big h h2 hd2 hR2)
          have HQ2 := Lib.hid (show qn * 2 ^ 1 < bp 30000 from by have := HM2.out; omega)
          have one_bp : 1 < bp 30000 := Nat.lt_of_lt_of_le (show 1 < bp 1 by unfold bp; decide) (bp_le (by decide))
          have HD := Lib.hid hd
          have HJ := Lib.hid (show _ ∧ _ ∧ _ ∧ _ from ⟨hd2, hR2, hq3, hkK⟩)
          obtain ⟨dd, hdd⟩ : ∃ dd, n * 2 ^ j = dd := ⟨_, rfl⟩
          rw [hdd] at LD CM
          have HDD := Lib.hid hdd
          clear hd hd2 hMb hR2 hq2 hq3 hdd hj1
          by_cases hc : dd ≤ R
          · have hcm : cmpI dd R ≤ 0 := by unfold cmpI; split; omega; split <;> omega
            have OI := fun (w1 : World) => (show Calls Tryz.prog 23 #[.int .u64 1] w1 _ from BigRes.go (of_any 1 (by decide) w1))
            have LS := fun (w1 : World) (A8 : Option Addr) (k8 c8 : Nat) (h : Big w1 (.slice A6 k6 c6) R) (h2 : Big w1 (.slice A8 k8 c8) dd) => BigRes.go (less_big h h2 HJ.out.2.1 hc)
            have PL := fun (w1 : World) (A9 : Option Addr) (k9 c9 : Nat) (B9 : Option Addr) (l9 d9 : Nat) (h : Big w1 (.slice A9 k9 c9) (qn * 2 ^ 1)) (h2 : Big w1 (.slice B9 l9 d9) 1) => BigRes.go (plus_big h h2 HQ2.out one_bp)
            have HC := Lib.hid hc
            clear hc
            generalize cmpI dd R = cm at *
            go_wp2_with (first
              | (go_at_call 243; with_reducible refine (LD _ (by (repeat' first | (with_reducible first | exact Below.refl _ _ | assumption | refine Later.belowOf _ ?_ ?_ | refine Below.alloc ?_ ?_ _ | refine Below.setCell ?_ ?_ _ | refine Below.drewN' _ ?_ | refine Below.drew ?_ | exact Ge.le) | go_size))).mono ?_; rintro _ _ ⟨A8, k8, c8, q8, hq8, hk8, hk9, rfl, rfl⟩; have hq8' := hq8.out)
              | (go_at_call 243; with_reducible refine (LQ _ (by (repeat (first | (with_reducible assumption) | (with_reducible refine Big.drew ?_) | (with_reducible refine Big.drewN ?_ _) | (with_reducible refine Big.alloc ?_ _) | (with_reducible refine Big.later ?_ _) | (with_reducible refine Big.setCell ?_ _ (by go_simp)))))).mono ?_; rintro _ _ ⟨A9, k9, c9, q9, hq9, hl8, hl9, rfl, rfl⟩; have hq9' := hq9.out)
              | (go_at_call 163; with_reducible refine (CM _ _ _ _ (by (repeat (first | (with_reducible assumption) | (with_reducible refine Big.drew ?_) | (with_reducible refine Big.drewN ?_ _) | (with_reducible refine Big.alloc ?_ _) | (with_reducible refine Big.later ?_ _) | (with_reducible refine Big.setCell ?_ _ (by go_simp))))) (by (repeat (first | (with_reducible assumption) | (with_reducible refine Big.drew ?_) | (with_reducible refine Big.drewN ?_ _) | (with_reducible refine Big.alloc ?_ _) | (with_reducible refine Big.later ?_ _) | (with_reducible refine Big.setCell ?_ _ (by go_simp)))))).mono ?_; rintro _ _ ⟨q10, rfl, rfl⟩)
              | (go_at_call 164; with_reducible refine (LS _ _ _ _ (by (repeat (first | (with_reducible assumption) | (with_reducible refine Big.drew ?_) | (with_reducible refine Big.drewN ?_ _) | (with_reducible refine Big.alloc ?_ _) | (with_reducible refine Big.later ?_ _) | (with_reducible refine Big.setCell ?_ _ (by go_simp))))) (by (repeat (first | (with_reducible assumption) | (with_reducible refine Big.drew ?_) | (with_reducible refine Big.drewN ?_ _) | (with_reducible refine Big.alloc ?_ _) | (with_reducible refine Big.later ?_ _) | (with_reducible refine Big.setCell ?_ _ (by go_simp)))))).mono ?_; rintro _ _ ⟨A11, k11, c11, q11, hq11, hl11, hm11, rfl, rfl⟩; have hq11' := hq11.out)
              | (go_at_call 23; with_reducible refine (OI _).mono ?_; rintro _ _ ⟨A12, k12, c12, q12, hq12, hl12, hm12, rfl, rfl⟩; have hq12' := hq12.out)
              | (go_at_call 162; with_reducible refine (PL _ _ _ _ _ _ _ (by (repeat (first | (with_reducible assumption) | (with_reducible refine Big.drew ?_) | (with_reducible refine Big.drewN ?_ _) | (with_reducible refine Big.alloc ?_ _) | (with_reducible refine Big.later ?_ _) | (with_reducible refine Big.setCell ?_ _ (by go_simp))))) (by (repeat (first | (with_reducible assumption) | (with_reducible refine Big.drew ?_) | (with_reducible refine Big.drewN ?_ _) | (with_reducible refine Big.alloc ?_ _) | (with_reducible refine Big.later ?_ _) | (with_reducible refine Big.setCell ?_ _ (by go_simp)))))).mono ?_; rintro _ _ ⟨A13, k13, c13, q13, hq13, hl13, hm13, rfl, rfl⟩; have hq13' := hq13.out))
            exact ⟨⟨j, R - dd, qn * 2 ^ 1 + 1, _, _, _, _, _, _, rfl, by have := HJ.out.2.2.2; omega, rfl, rfl, by (repeat (first | (with_reducible assumption) | (with_reducible refine Big.drew ?_) | (with_reducible refine Big.drewN ?_ _) | (with_reducible refine Big.alloc ?_ _) | (with_reducible refine Big.later ?_ _) | (with_reducible refine Big.setCell ?_ _ (by go_simp)))), by (repeat (first | (with_reducible assumption) | (with_reducible refine Big.drew ?_) | (with_reducible refine Big.drewN ?_ _) | (with_reducible refine Big.alloc ?_ _) | (with_reducible refine Big.later ?_ _) | (with_reducible refine Big.setCell ?_ _ (by go_simp)))), by rw [← HDD.out]; exact div_yes HD.out (by rw [HDD.out]; exact HC.out), hbel.trans (Below.mono (by (repeat' first | (with_reducible first | exact Below.refl _ _ | assumption | refine Later.belowOf _ ?_ ?_ | refine Below.alloc ?_ ?_ _ | refine Below.setCell ?_ ?_ _ | refine Below.drewN' _ ?_ | refine Below.drew ?_ | exact Ge.le) | go_size)) hbel.size)⟩, by simp [intOf] <;> omega⟩
          · have hcm : ¬ cmpI dd R ≤ 0 := by unfold cmpI; rw [if_neg (by omega), if_pos (by omega)]; omega
            have HC := Lib.hid hc
            clear hc
            generalize cmpI dd R = cm at *
            go_wp2_with (first
              | (go_at_call 243; with_reducible refine (LD _ (by (repeat' first | (with_reducible first | exact Below.refl _ _ | assumption | refine Later.belowOf _ ?_ ?_ | refine Below.alloc ?_ ?_ _ | refine Below.setCell ?_ ?_ _ | refine Below.drewN' _ ?_ | refine Below.drew ?_ | exact Ge.le) | go_size))).mono ?_; rintro _ _ ⟨A8, k8, c8, q8, hq8, hk8, hk9, rfl, rfl⟩; have hq8' := hq8.out)
              | (go_at_call 243; with_reducible refine (LQ _ (by (repeat (first | (with_reducible assumption) | (with_reducible refine Big.drew ?_) | (with_reducible refine Big.drewN ?_ _) | (with_reducible refine Big.alloc ?_ _) | (with_reducible refine Big.later ?_ _) | (with_reducible refine Big.setCell ?_ _ (by go_simp)))))).mono ?_; rintro _ _ ⟨A9, k9, c9, q9, hq9, hl8, hl9, rfl, rfl⟩; have hq9' := hq9.out)
              | (go_at_call 163; with_reducible refine (CM _ _ _ _ (by (repeat (first | (with_reducible assumption) | (with_reducible refine Big.drew ?_) | (with_reducible refine Big.drewN ?_ _) | (with_reducible refine Big.alloc ?_ _) | (with_reducible refine Big.later ?_ _) | (with_reducible refine Big.setCell ?_ _ (by go_simp))))) (by (repeat (first | (with_reducible assumption) | (with_reducible refine Big.drew ?_) | (with_reducible refine Big.drewN ?_ _) | (with_reducible refine Big.alloc ?_ _) | (with_reducible refine Big.later ?_ _) | (with_reducible refine Big.setCell ?_ _ (by go_simp)))))).mono ?_; rintro _ _ ⟨q10, rfl, rfl⟩))
            exact ⟨⟨j, R, qn * 2 ^ 1, _, _, _, _, _, _, rfl, by have := HJ.out.2.2.2; omega, rfl, rfl, by (repeat (first | (with_reducible assumption) | (with_reducible refine Big.drew ?_) | (with_reducible refine Big.drewN ?_ _) | (with_reducible refine Big.alloc ?_ _) | (with_reducible refine Big.later ?_ _) | (with_reducible refine Big.setCell ?_ _ (by go_simp)))), by (repeat (first | (with_reducible assumption) | (with_reducible refine Big.drew ?_) | (with_reducible refine Big.drewN ?_ _) | (with_reducible refine Big.alloc ?_ _) | (with_reducible refine Big.later ?_ _) | (with_reducible refine Big.setCell ?_ _ (by go_simp)))), div_no HD.out (by rw [HDD.out]; exact HC.out), hbel.trans (Below.mono (by (repeat' first | (with_reducible first | exact Below.refl _ _ | assumption | refine Later.belowOf _ ?_ ?_ | refine Below.alloc ?_ ?_ _ | refine Below.setCell ?_ ?_ _ | refine Below.drewN' _ ?_ | refine Below.drew ?_ | exact Ge.le) | go_size)) hbel.size)⟩, by simp [intOf] <;> omega⟩
        · obtain rfl : k = 0 := by omega
          obtain ⟨hqe, hRe⟩ := div_end hd
          have hk6' := big_lenR hR
          have hk7' := big_lenR hq
          have hx := HX.out.1
          have hN := HX.out.2
          rw [← hRe] at hx
          rw [← hqe] at hN
          have b0r : Below W0.heap.size W0 wr := HW.out.1.trans ((nw.below.trans (hbel.mono nw.below.size)).mono HW.out.1.size)
          have r0 := cellBelowR b0r HR.out.2.1
          have r1 := cellBelowR b0r HR.out.2.2.1
          have r2 := cellBelowR b0r HR.out.2.2.2.1
          have rz : ∀ j, j < 3 → wr.frozen? ⟨w.heap.size + 2, j, none⟩ = false := fun j hj => (b0r.frozen (p := ⟨w.heap.size + 2, j, none⟩) (by show w.heap.size + 2 < _; omega)).trans (HR.out.2.2.2.2.1 j hj)
          have z0 := rz 0 (by omega)
          have z1 := rz 1 (by omega)
          have z2 := rz 2 (by omega)
          haveI gr3 : Ge wr (w.heap.size + 1 + 1 + 1) := ⟨by have := b0r.size; omega⟩
          have hz0 : ((0 : Nat) : Int) - 1 = -1 := by omega
          have hqb : qn < bp 30000 := by have := HM2.out; have h := Nat.div_le_self M n; omega
          clear hd hqe hRe rz hs7
          rcases Nat.eq_zero_or_pos R with hr | hr
          · subst hr
            obtain rfl := hk6'.2 rfl
            rw [if_neg (by simp)] at hx
            subst hx
            subst hN
            have hdk : 0 < k7 ↔ 0 < qn := by omega
            cases s
            all_goals
              go_wp2
              refine bodyPost_ret (v := (.agg #[.bool _, (.slice A7 k7 c7), .int .i64 _])) (by simp [results, Tryz.f177, go_sem, r0, r1, r2, hdk]) rfl ⟨⟨_, _, _, rfl, Big.set3 (n := qn) hq r0 r1 r2 _ _ _⟩, (((bwr.setCell (p := ⟨w.heap.size + 2, 0, none⟩) (by simp) _).setCell (p := ⟨w.heap.size + 2, 1, none⟩) (by simp) _).setCell (p := ⟨w.heap.size + 2, 2, none⟩) (by simp) _)⟩
          · have hr2 : (0 : Int) < (R : Int) := by omega
            have hk6p : (0 : Int) < (k6 : Int) := by
              have : k6 ≠ 0 := fun h => by have := hk6'.1 h; omega
              omega
            have OI := fun (w1 : World) => (show Calls Tryz.prog 23 #[.int .u64 1] w1 _ from BigRes.go (of_any 1 (by decide) w1))
            have one_bp : 1 < bp 30000 := Nat.lt_of_lt_of_le (show 1 < bp 1 by unfold bp; decide) (bp_le (by decide))
            have PL := fun (w1 : World) (B9 : Option Addr) (l9 d9 : Nat) (h : Big w1 (.slice A7 k7 c7) qn) (h2 : Big w1 (.slice B9 l9 d9) 1) => BigRes.go (plus_big h h2 hqb one_bp)
            cases down <;> cases s
            all_goals
              simp only [hr, true_and, reduceCtorEq, if_true, if_false] at hx
              subst hx
              subst hN
              simp only [dirI, Bool.false_eq_true, if_true, if_false]
              go_wp2_with (first
                | (go_at_call 23; with_reducible refine (OI _).mono ?_; rintro _ _ ⟨A12, k12, c12, q12, hq12, hl12, hm12, rfl, rfl⟩; have hq12' := hq12.out)
                | (go_at_call 162; with_reducible refine (PL _ _ _ _ (by (repeat (first | (with_reducible assumption) | (with_reducible refine Big.drew ?_) | (with_reducible refine Big.drewN ?_ _) | (with_reducible refine Big.alloc ?_ _) | (with_reducible refine Big.later ?_ _) | (with_reducible refine Big.setCell ?_ _ (by go_simp))))) (by (repeat (first | (with_reducible assumption) | (with_reducible refine Big.drew ?_) | (with_reducible refine Big.drewN ?_ _) | (with_reducible refine Big.alloc ?_ _) | (with_reducible refine Big.later ?_ _) | (with_reducible refine Big.setCell ?_ _ (by go_simp)))))).mono ?_; rintro _ _ ⟨A13, k13, c13, q13, hq13, hl13, hm13, rfl, rfl⟩; have hq13' := hq13.out; have hl13' := hl13.out))
              first
                | (have b13 : Below wr.heap.size wr q13.val := (by (repeat' first | (with_reducible first | exact Below.refl _ _ | assumption | refine Later.belowOf _ ?_ ?_ | refine Below.alloc ?_ ?_ _ | refine Below.setCell ?_ ?_ _ | refine Below.drewN' _ ?_ | refine Below.drew ?_ | exact Ge.le) | go_size)); have hdk : 0 < k13 := (by omega); have s0 := cellBelowR b13 r0; have s1 := cellBelowR b13 r1; have s2 := cellBelowR b13 r2; have bw13 := bwr.trans (b13.mono bwr.size); refine bodyPost_ret (v := (.agg #[.bool _, (.slice A13 k13 c13), .int .i64 _])) (by simp [results, Tryz.f177, go_sem, s0, s1, s2, hdk]) rfl ⟨⟨_, _, _, rfl, Big.set3 (n := qn + 1) hq13' s0 s1 s2 _ _ _⟩, (((bw13.setCell (p := ⟨w.heap.size + 2, 0, none⟩) (by simp) _).setCell (p := ⟨w.heap.size + 2, 1, none⟩) (by simp) _).setCell (p := ⟨w.heap.size + 2, 2, none⟩) (by simp) _)⟩)
                | (have hdk : 0 < k7 ↔ 0 < qn := (by omega); refine bodyPost_ret (v := (.agg #[.bool _, (.slice A7 k7 c7), .int .i64 _])) (by simp [results, Tryz.f177, go_sem, r0, r1, r2, hdk]) rfl ⟨⟨_, _, _, rfl, Big.set3 (n := qn) hq r0 r1 r2 _ _ _⟩, (((bwr.setCell (p := ⟨w.heap.size + 2, 0, none⟩) (by simp) _).setCell (p := ⟨w.heap.size + 2, 1, none⟩) (by simp) _).setCell (p := ⟨w.heap.size + 2, 2, none⟩) (by simp) _)⟩)
end Go.Proofs.YtkmgfbhnioojhaaGreat

/- Contract: orreryref03.Div. -/
namespace Go.Proofs.YtkmgfbhnioojhaaGreat
set_option linter.unusedSimpArgs false
set_option linter.unusedVariables false
open Go.RowKit
open Fl

theorem Q.quo_wide {a b : Q} {d : Bool} (ha : a.Ok) (hb : b.Ok) (ha0 : blen a.m ≤ 200) : (a.quo b d).Wide := by
  obtain ⟨a1, a2, a3⟩ := ha
  obtain ⟨b1, b2, b3⟩ := hb
  unfold Q.quo
  split
  · exact ⟨Nat.lt_of_lt_of_le a1 (bp_le (by decide)), by omega, by omega⟩
  · have up2 : quoUp a.m b.m ≤ 456 := by have := blen_le_bp b1; unfold quoUp; omega
    have hM := shift_lt (k := quoUp a.m b.m) a1 (by omega)
    have l1 : bp 3000 = bp 1000 * bp 2000 := by rw [← bp_add]
    have l2 : 4 * bp 2000 ≤ bp 3000 := by
      rw [l1]; exact Nat.mul_le_mul_right _ (Nat.le_trans (by unfold bp; decide) (bp_le (show 1 ≤ 1000 by decide)))
    have h1 := Nat.div_le_self (a.m * 2 ^ quoUp a.m b.m) b.m
    refine ⟨?_, ?_, ?_⟩
    · show _ / _ + (if _ then 1 else 0) < _
      generalize a.m * 2 ^ quoUp a.m b.m / b.m = q at *
      generalize a.m * 2 ^ quoUp a.m b.m = M at *
      generalize bp 2000 = c at *
      generalize bp 3000 = c3 at *
      clear l1
      split <;> omega
    · show -1000000 ≤ a.e - b.e - _
      omega
    · show a.e - b.e - _ ≤ 1000000
      omega
theorem sgn_ge (s : Bool) (m : Nat) : 0 ≤ sgnI s m ↔ ¬ (s = true ∧ 0 < m) := by
  unfold sgnI
  split
  · simp [*]
  · cases s <;> simp <;> omega

set_option maxHeartbeats 8000000 in
set_option maxRecDepth 100000 in
theorem divP2_any (x y : P2) (A : Option Addr) (ka ca : Nat) (B : Option Addr) (kb cb : Nat) (C : Option Addr) (kc cc : Nat) (D : Option Addr) (kd cd : Nat) (w : World) (hA : BigS w (.slice A ka ca) x.a.m) (hB : BigS w (.slice B kb cb) x.b.m) (hC : BigS w (.slice C kc cc) y.a.m) (hD : BigS w (.slice D kd cd) y.b.m) (ox : x.Ok) (oy : y.Ok) (f1 : blen x.a.m ≤ 200) (f2 : blen x.b.m ≤ 200) (hy1 : y.a.m ≠ 0) (hy2 : y.b.m ≠ 0) :
    Calls Tryz.prog 96 #[(.agg #[.bool x.a.s, (.slice A ka ca), .int .i64 x.a.e, .bool x.b.s, (.slice B kb cb), .int .i64 x.b.e]), (.agg #[.bool y.a.s, (.slice C kc cc), .int .i64 y.a.e, .bool y.b.s, (.slice D kd cd), .int .i64 y.b.e])] w (PRes (x.div y) w) := by
  have q1 := fun (w1 : World) (h : Below w.heap.size w w1) => NumRes.go (quoQ_any x.a y.a true A ka ca C kc cc w1 (hA.at h) (hC.at h) ox.1 oy.1 f1 hy1)
  have q2 := fun (w1 : World) (h : Below w.heap.size w w1) => NumRes.go (quoQ_any x.a y.b true A ka ca D kd cd w1 (hA.at h) (hD.at h) ox.1 oy.2 f1 hy2)
  have q3 := fun (w1 : World) (h : Below w.heap.size w w1) => NumRes.go (quoQ_any x.b y.b false B kb cb D kd cd w1 (hB.at h) (hD.at h) ox.2 oy.2 f2 hy2)
  have q4 := fun (w1 : World) (h : Below w.heap.size w w1) => NumRes.go (quoQ_any x.b y.a false B kb cb C kc cc w1 (hB.at h) (hC.at h) ox.2 oy.1 f2 hy1)
  have s1 := fun (w1 : World) (h : Below w.heap.size w w1) => IntRes.go (sign_any x.a.s (.slice A ka ca) x.a.m x.a.e w1 (hA.at h))
  have s2 := fun (w1 : World) (h : Below w.heap.size w w1) => IntRes.go (sign_any x.b.s (.slice B kb cb) x.b.m x.b.e w1 (hB.at h))
  have c3 := fun (p q : Q) (hp : p.Wide) (hq : q.Wide) (w1 : World) (A' : Option Addr) (k' c' : Nat) (B' : Option Addr) (l' d' : Nat) (h1 : Big w1 (.slice A' k' c') p.m) (h2 : Big w1 (.slice B' l' d') q.m) => PairRes.go (pairQ_any p q A' k' c' B' l' d' w1 h1.stays h2.stays hp hq)
  have t1 : (x.a.quo y.a true).Wide := Q.quo_wide ox.1 oy.1 f1
  have t2 : (x.a.quo y.b true).Wide := Q.quo_wide ox.1 oy.2 f1
  have t3 : (x.b.quo y.b false).Wide := Q.quo_wide ox.2 oy.2 f2
  have t4 : (x.b.quo y.a false).Wide := Q.quo_wide ox.2 oy.1 f2
  have g1 := sgn_ge x.a.s x.a.m
  have g2 := sgn_ge x.b.s x.b.m
  simp only [dirI, Bool.false_eq_true, if_true, if_false] at q1 q2 q3 q4
  unfold P2.div
  generalize x.a.quo y.a true = p1 at *
  generalize x.a.quo y.b true = p2 at *
  generalize x.b.quo y.b false = p3 at *
  generalize x.b.quo y.a false = p4 at *
  have key1 : (¬ 0 ≤ sgnI x.a.s x.a.m ∧ (if x.a.s = true ∧ 0 < x.a.m then p1 else p2) = p1) ∨ (0 ≤ sgnI x.a.s x.a.m ∧ (if x.a.s = true ∧ 0 < x.a.m then p1 else p2) = p2) := by
    by_cases h : x.a.s = true ∧ 0 < x.a.m
    · exact .inl ⟨fun h' => g1.1 h' h, if_pos h⟩
    · exact .inr ⟨g1.2 h, if_neg h⟩
  have key2 : (¬ 0 ≤ sgnI x.b.s x.b.m ∧ (if x.b.s = true ∧ 0 < x.b.m then p3 else p4) = p3) ∨ (0 ≤ sgnI x.b.s x.b.m ∧ (if x.b.s = true ∧ 0 < x.b.m then p3 else p4) = p4) := by
    by_cases h : x.b.s = true ∧ 0 < x.b.m
    · exact .inl ⟨fun h' => g2.1 h' h, if_pos h⟩
    · exact .inr ⟨g2.2 h, if_neg h⟩
  clear g1 g2
  generalize (if x.a.s = true ∧ 0 < x.a.m then p1 else p2) = P at *
  generalize (if x.b.s = true ∧ 0 < x.b.m then p3 else p4) = R at *
  generalize sgnI x.a.s x.a.m = sa at *
  generalize sgnI x.b.s x.b.m = sb at *
  have Q1 := Lib.hid q1
  have Q2 := Lib.hid q2
  have Q3 := Lib.hid q3
  have Q4 := Lib.hid q4
  have S1 := Lib.hid s1
  have S2 := Lib.hid s2
  have C3 := Lib.hid c3
  clear q1 q2 q3 q4 s1 s2 c3 hA hB hC hD ox oy f1 f2 hy1 hy2
  obtain ⟨⟨xs, xm, xe⟩, ⟨xt, xn, xf⟩⟩ := x
  obtain ⟨⟨ys, ym, ye⟩, ⟨yt, yn, yf⟩⟩ := y
  simp only at *
  unfold PRes
  rcases key1 with ⟨k1, rfl⟩ | ⟨k1, rfl⟩ <;> rcases key2 with ⟨k2, rfl⟩ | ⟨k2, rfl⟩
  all_goals
    go_enter Tryz.func96, Tryz.ntmps96
    go_wp2_with (first
      | (go_at_call 177; with_reducible refine (Q1.out _ (by (repeat' first | (with_reducible first | exact Below.refl _ _ | assumption | refine Later.belowOf _ ?_ ?_ | refine Below.alloc ?_ ?_ _ | refine Below.setCell ?_ ?_ _ | refine Below.drewN' _ ?_ | refine Below.drew ?_ | exact Ge.le) | go_size))).mono ?_; rintro _ _ ⟨A1, k1, d1, q1, hq1, rfl, rfl⟩; have hq1' := hq1.out)
      | (go_at_call 177; with_reducible refine (Q2.out _ (by (repeat' first | (with_reducible first | exact Below.refl _ _ | assumption | refine Later.belowOf _ ?_ ?_ | refine Below.alloc ?_ ?_ _ | refine Below.setCell ?_ ?_ _ | refine Below.drewN' _ ?_ | refine Below.drew ?_ | exact Ge.le) | go_size))).mono ?_; rintro _ _ ⟨A2, k2, d2, q2, hq2, rfl, rfl⟩; have hq2' := hq2.out)
      | (go_at_call 177; with_reducible refine (Q3.out _ (by (repeat' first | (with_reducible first | exact Below.refl _ _ | assumption | refine Later.belowOf _ ?_ ?_ | refine Below.alloc ?_ ?_ _ | refine Below.setCell ?_ ?_ _ | refine Below.drewN' _ ?_ | refine Below.drew ?_ | exact Ge.le) | go_size))).mono ?_; rintro _ _ ⟨A3, k3, d3, q3, hq3, rfl, rfl⟩; have hq3' := hq3.out)
      | (go_at_call 177; with_reducible refine (Q4.out _ (by (repeat' first | (with_reducible first | exact Below.refl _ _ | assumption | refine Later.belowOf _ ?_ ?_ | refine Below.alloc ?_ ?_ _ | refine Below.setCell ?_ ?_ _ | refine Below.drewN' _ ?_ | refine Below.drew ?_ | exact Ge.le) | go_size))).mono ?_; rintro _ _ ⟨A4, k4, d4, q4, hq4, rfl, rfl⟩; have hq4' := hq4.out)
      | (go_at_call 81; with_reducible refine (S1.out _ (by (repeat' first | (with_reducible first | exact Below.refl _ _ | assumption | refine Later.belowOf _ ?_ ?_ | refine Below.alloc ?_ ?_ _ | refine Below.setCell ?_ ?_ _ | refine Below.drewN' _ ?_ | refine Below.drew ?_ | exact Ge.le) | go_size))).mono ?_; rintro _ _ ⟨r1, rfl, rfl⟩)
      | (go_at_call 81; with_reducible refine (S2.out _ (by (repeat' first | (with_reducible first | exact Below.refl _ _ | assumption | refine Later.belowOf _ ?_ ?_ | refine Below.alloc ?_ ?_ _ | refine Below.setCell ?_ ?_ _ | refine Below.drewN' _ ?_ | refine Below.drew ?_ | exact Ge.le) | go_size))).mono ?_; rintro _ _ ⟨r2, rfl, rfl⟩)
      | (go_at_call 178; with_reducible refine (C3.out _ _ (by assumption) (by assumption) _ _ _ _ _ _ _ (by (repeat (first | (with_reducible assumption) | (with_reducible refine Big.drew ?_) | (with_reducible refine Big.drewN ?_ _) | (with_reducible refine Big.alloc ?_ _) | (with_reducible refine Big.later ?_ _) | (with_reducible refine Big.setCell ?_ _ (by go_simp))))) (by (repeat (first | (with_reducible assumption) | (with_reducible refine Big.drew ?_) | (with_reducible refine Big.drewN ?_ _) | (with_reducible refine Big.alloc ?_ _) | (with_reducible refine Big.later ?_ _) | (with_reducible refine Big.setCell ?_ _ (by go_simp)))))).mono ?_; rintro _ _ ⟨A7, k7, d7, B7, l7, e7, q7, hq7, hq8, rfl, rfl⟩; have hq7' := hq7.out; have hq8' := hq8.out))
    go_returns
    exact ⟨⟨_, _, _, _, _, _, rfl, by (repeat (first | (with_reducible assumption) | (with_reducible refine Big.drew ?_) | (with_reducible refine Big.drewN ?_ _) | (with_reducible refine Big.alloc ?_ _) | (with_reducible refine Big.later ?_ _) | (with_reducible refine Big.setCell ?_ _ (by go_simp)))), by (repeat (first | (with_reducible assumption) | (with_reducible refine Big.drew ?_) | (with_reducible refine Big.drewN ?_ _) | (with_reducible refine Big.alloc ?_ _) | (with_reducible refine Big.later ?_ _) | (with_reducible refine Big.setCell ?_ _ (by go_simp))))⟩, by (repeat' first | (with_reducible first | exact Below.refl _ _ | assumption | refine Later.belowOf _ ?_ ?_ | refine Below.alloc ?_ ?_ _ | refine Below.setCell ?_ ?_ _ | refine Below.drewN' _ ?_ | refine Below.drew ?_ | exact Ge.le) | go_size)⟩
end Go.Proofs.YtkmgfbhnioojhaaGreat
