/- Contract: orreryref03.part. -/
import Derived.Test.YtkmgfbhnioojhaaGreatPmR1x
namespace Go.Proofs.YtkmgfbhnioojhaaGreat
set_option linter.unusedSimpArgs false
set_option linter.unusedVariables false
open Go.RowKit
open Fl

theorem cellBelowP {w w' : World} {b o : Nat} {v : Value} (hb : Below w.heap.size w w') (h : w.cell? ⟨b, o, none⟩ = some v) : w'.cell? ⟨b, o, none⟩ = some v :=
  (hb.cell (World.block_lt_of_cell? w _ h)).trans h
theorem big_emptyP (w : World) (A : Option Addr) : Big w (.slice A 0 0) 0 := ⟨[], ⟨A, 0, rfl, Nat.le_refl _, by decide, fun i hi => by simp at hi⟩, dig_nil, fun h => by simp at h, rfl⟩
theorem bplus_made {v : Value} {L : List Nat} {w : World} {B : Option Addr} {l d : Nat} (h : Rd w v L) (hD : Dig L) (hl : L.length ≤ 1000000) (h2 : Big w (.slice B l d) 0) :
    Calls Tryz.prog 162 #[v, .slice B l d] w (BigRes (n32 L) w) := by
  obtain ⟨M, g1, g2, g3, g4⟩ := h2
  have := bplus_any v (.slice B l d) L M w h g1 hD g2 hl (big_len g3 g4 (bp_pos 30000))
  rwa [g4, Nat.add_zero] at this

set_option maxHeartbeats 60000000 in
set_option maxRecDepth 100000 in
theorem part_any (a : Q) (n : Nat) (down : Bool) (A : Option Addr) (ka ca : Nat) (w : World) (hA : BigS w (.slice A ka ca) a.m) (oa : a.Ok) (hb0 : blen a.m ≤ 224) (hn : 0 < n) (hn2 : n ≤ 1000000000) :
    Calls Tryz.prog 185 #[(.agg #[.bool a.s, (.slice A ka ca), .int .i64 a.e]), .int .i64 n, .int .i64 (dirI down)] w (NumRes (a.part n down).s (a.part n down).m (a.part n down).e w) := by
  obtain ⟨s, m, e⟩ := a
  obtain ⟨o1, o2, o3⟩ := oa
  unfold Q.part
  simp only at *
  have hm3 : m < bp 30000 := Nat.lt_of_lt_of_le o1 (bp_le (by decide))
  have hbl : blen m ≤ 256 := blen_le_bp o1
  obtain ⟨up, hup⟩ : ∃ up, partUp m = up := ⟨_, rfl⟩
  rw [hup]
  have up2 : up ≤ 224 := by rw [← hup]; unfold partUp; split <;> omega
  have bi := fun (w1 : World) (h : Below w.heap.size w w1) => IntRes.go (bits_big (hA w1 h) hm3)
  have li := fun (w1 : World) (h : Below w.heap.size w w1) => BigRes.go (left_big (hA w1 h) hm3 up (by omega))
  have hk0 : ka = 0 ↔ m = 0 := by
    obtain ⟨A', k', c', h1, h2, h3⟩ := (hA w (Below.refl _ _)).len
    injection h1 with h1 h4 h5
    subst h4
    exact h2
  have hM : m * 2 ^ up < bp 2000 := shift_lt o1 (by omega)
  obtain ⟨i0, hi, hz0, hz1, hz2⟩ := info_parts info107
  generalize hMM : m * 2 ^ up = M at *
  have HM := Lib.hid (Nat.lt_of_lt_of_le hM (bp_le (show 2000 ≤ 30000 by decide)))
  have key : (m = 0 ∧ ka = 0 ∧ up = 0 ∧ blen m = 0) ∨ (0 < ka ∧ up = 224 - blen m) := by
    unfold partUp at hup
    by_cases h : m = 0
    · rw [if_pos h] at hup
      exact .inl ⟨h, hk0.2 h, hup.symm, by rw [h]; exact blen_zero⟩
    · rw [if_neg h] at hup
      have : ka ≠ 0 := fun h' => h (hk0.1 h')
      exact .inr ⟨by omega, by omega⟩
  generalize blen m = bl at *
  have BI := Lib.hid bi
  have LI := Lib.hid li
  have HA := Lib.hid hA
  obtain ⟨x, hx⟩ : ∃ x, (if 0 < M % n ∧ down = s then 1 else 0) = x := ⟨_, rfl⟩
  rw [hx]
  obtain ⟨N, hN⟩ : ∃ N, M / n + x = N := ⟨_, rfl⟩
  rw [hN]
  have HX := Lib.hid hx
  have HN := Lib.hid hN
  have n2 : (n : Int) ≤ 1000000000 := by omega
  have n1 : (0 : Int) < (n : Int) := by omega
  clear bi li hA hk0 hM hm3 hup hMM o1 hx hN
  have key2 : (ka = 0 ∧ up = 0 ∧ bl = 0) ∨ (0 < (ka : Int) ∧ ((224 : Int) - bl = up) ∧ 0 ≤ (up : Int) ∧ (ka : Int) ≠ 0) := by omega
  clear key hb0
  rcases key2 with ⟨k2, k3, k4⟩ | ⟨k1, k3, k4, k5⟩
  focus
    subst k2 k3 k4
    have k9 : True := trivial
  rotate_left
  focus
    have k9 : ¬ ((up : Int) < 0 ∨ ((ka : Int) == 0) = true) := by
      rintro (hh | hh)
      · omega
      · simp at hh; omega
  rotate_left
  all_goals
    go_enter Tryz.func185, Tryz.ntmps185
    go_wp2_with (first | (exfalso; refine k9 ?_; assumption) | (at_make; refine wpList_make_full _ rfl _ _ 31 rfl q2.val.heap.size 107 i0 (.int .u32 0) 1 Tryz.underlying31 hi hz0 hz1 _ _ _ _ l.length rfl rfl rfl rfl (by rw [hz2]; omega) (by unfold maxLen; omega) (Nat.le_refl _) ?_; intro w1 hown1 hg1) | (go_at_call 95; with_reducible refine (BI.out _ (by (repeat' first | (with_reducible first | exact Below.refl _ _ | assumption | refine Later.belowOf _ ?_ ?_ | refine Below.alloc ?_ ?_ _ | refine Below.setCell ?_ ?_ _ | refine Below.drewN' _ ?_ | refine Below.drew ?_ | exact Ge.le) | go_size))).mono ?_; rintro _ _ ⟨q6, rfl, rfl⟩) | (go_at_call 243; (first | (with_reducible refine (LI.out _ (by (repeat' first | (with_reducible first | exact Below.refl _ _ | assumption | refine Later.belowOf _ ?_ ?_ | refine Below.alloc ?_ ?_ _ | refine Below.setCell ?_ ?_ _ | refine Below.drewN' _ ?_ | refine Below.drew ?_ | exact Ge.le) | go_size))).mono ?_) | (refine (LI.out _ (by (repeat' first | (with_reducible first | exact Below.refl _ _ | assumption | refine Later.belowOf _ ?_ ?_ | refine Below.alloc ?_ ?_ _ | refine Below.setCell ?_ ?_ _ | refine Below.drewN' _ ?_ | refine Below.drew ?_ | exact Ge.le) | go_size))).mono ?_));  rintro _ _ ⟨A2, k2, c2, q2, hq2, hk3, hk4, rfl, rfl⟩; obtain ⟨l, hl1, hl2, hl3, hl4⟩ := hq2.out; have hl5 := big_len hl3 hl4 HM.out; obtain ⟨A9, c9, h9, hl6, hl7, hl8⟩ := hl1; injection h9 with h9a h9b h9c; subst h9a h9b h9c))
    have hfar : Below w.heap.size w q2.val := by (repeat' first | (with_reducible first | exact Below.refl _ _ | assumption | refine Later.belowOf _ ?_ ?_ | refine Below.alloc ?_ ?_ _ | refine Below.setCell ?_ ?_ _ | refine Below.drewN' _ ?_ | refine Below.drew ?_ | exact Ge.le) | go_size)
    go_loopw [10, 11] (fun r i wr => PartInv q2.val l n r i wr) (fun _ i _ => (intOf i + 1).toNat)
    case atStart => exact ⟨l.length, _, 0, _, rfl, rfl, rfl, by simp [n32], Nat.le_refl _, List.length_replicate, dig_zeros _, by simp [n32], own_made hown1, (Below.refl _ _).grown hg1 (Nat.le_refl _) (fun k hk => by cases hk)⟩
    case round =>
      obtain ⟨k, z, r0, L, rfl, hz, rfl, hr0, hk, hL, hD, hE, hown, hbel⟩ := hrel
      by_cases hk1 : 0 < k
      · obtain ⟨j, rfl⟩ : ∃ j, k = j + 1 := ⟨k - 1, by omega⟩
        obtain rfl : z = (j : Int) := by omega
        obtain ⟨b2, off2, eB, c5⟩ := hl8 j (by omega)
        subst eB
        replace c5 := (hbel.cell (World.block_lt_of_cell? _ _ c5)).trans c5
        have y1 := hl2 j
        have c4 := Own.frozenAt hown hL j
        have c3 := Own.cellAt hown hL j (by omega)
        have hdd := drop_digit l j (by omega)
        have hst := part_step (n := n) (d := l.getD j 0) (T := n32 (l.drop (j + 1))) hn
        rw [← hdd, ← hr0] at hst
        generalize hd : l.getD j 0 = d at *
        have hrn : r0 < n := by rw [hr0]; exact Nat.mod_lt _ hn
        have hsm := part_small hrn y1
        have or1 := or_32b (c := d) (d := r0) y1 (by omega)
        obtain ⟨X, hX⟩ : ∃ X, r0 * 4294967296 + d = X := ⟨_, rfl⟩
        rw [hX] at or1 hst hsm
        obtain ⟨Y, hY⟩ : ∃ Y, X / n = Y := ⟨_, rfl⟩
        obtain ⟨Z, hZ⟩ : ∃ Z, X % n = Z := ⟨_, rfl⟩
        have hZn : Z < n := by rw [← hZ]; exact Nat.mod_lt _ hn
        have eY : (X : Int) / (n : Int) = (Y : Int) := by rw [← hY]; simp
        have eZ : (X : Int) % (n : Int) = (Z : Int) := by rw [← hZ]; simp
        have eY2 : (X : Int).tdiv (n : Int) = (Y : Int) := by rw [← hY]; rfl
        have eZ2 : (X : Int).tmod (n : Int) = (Z : Int) := by rw [← hZ]; rfl
        rw [hY] at hst hsm
        rw [hZ] at hst
        have x1 : (X : Int) ≤ 18446744073709551615 := by omega
        have y2 : (Y : Int) ≤ 4294967295 := by omega
        have z2 : (Z : Int) ≤ 1000000000 := by omega
        have d2 : (d : Int) ≤ 4294967295 := by omega
        have r2 : (r0 : Int) ≤ 1000000000 := by omega
        have j2 : (j : Int) ≤ 1000000 := by omega
        have j3 : (j : Int) < (l.length : Int) := by omega
        have HS := Lib.hid hst
        have HE := Lib.hid hE
        have HL := Lib.hid hL
        have HR0 := Lib.hid hr0
        clear hst hE hL hr0 hdd hX hY hZ hsm hd hrn hz
        go_wp2
        refine ⟨⟨j, _, Z, L.set j Y, rfl, by omega, by go_num, HS.out.2.symm, by omega, by rw [List.length_set]; exact HL.out, dig_set hD (by omega) _, ?_, ?_, ?_⟩, by simp [intOf] <;> omega⟩
        · rw [drop_set (by have := HL.out; omega), HE.out]; exact HS.out.1.symm
        · exact (Own.stored hown HL.out j rfl).1
        · exact Below.setCell hbel (Nat.le_refl _) _
      · obtain rfl : k = 0 := by omega
        have hz2 : z < 0 := by omega
        have hz3 : ¬ (0 : Int) ≤ z := by omega
        clear hz
        rw [List.drop_zero, List.drop_zero, hl4] at hE
        rw [List.drop_zero, hl4] at hr0
        have bwr : Below w.heap.size w wr := hfar.trans (hbel.mono hfar.size)
        have qb : Rd wr _ L := Own.rd hown
        have e9 : n32 L = M / n := hE
        have p0 := fun (w9 : World) (h9 : Below wr.heap.size wr w9) (A9 : Option Addr) (k9 c9 : Nat) (h2 : Big w9 (.slice A9 k9 c9) 0) => BigRes.go (bplus_made (qb.below h9) hD (by omega) h2)
        rw [e9] at p0
        have hq30 : M / n < bp 30000 := Nat.lt_of_le_of_lt (Nat.div_le_self _ _) HM.out
        have one_bp : 1 < bp 30000 := Nat.lt_of_lt_of_le (show 1 < bp 1 by unfold bp; decide) (bp_le (by decide))
        have P0 := Lib.hid p0
        have f0 : wr.cell? ⟨w.heap.size, 0, none⟩ = some (.bool s) := cellBelowP hbel (by go_simp)
        have f2 : wr.cell? ⟨w.heap.size, 2, none⟩ = some (.int .i64 e) := cellBelowP hbel (by go_simp)
        have g1 : w.heap.size + 2 ≤ q2.val.heap.size := by
          have h1 := q6.below.size
          have h2 := q2.below.size
          simp at h1 h2
          omega
        haveI gd : Ge wr (w.heap.size + 2) := ⟨Nat.le_trans g1 hbel.size⟩
        haveI gd1 : Ge wr (w.heap.size + 1) := ⟨by have := gd.le; omega⟩
        have f4 : wr.cell? ⟨w.heap.size + 1, 0, none⟩ = some (.bool false) := cellBelowP hbel (by go_simp)
        have f5 : wr.cell? ⟨w.heap.size + 1, 1, none⟩ = some (.slice none 0 0) := cellBelowP hbel (by go_simp)
        have f6 : wr.cell? ⟨w.heap.size + 1, 2, none⟩ = some (.int .i64 0) := cellBelowP hbel (by go_simp)
        have f7 : ∀ j, wr.frozen? ⟨w.heap.size + 1, j, none⟩ = false := fun j => by
          have h : q2.val.frozen? ⟨w.heap.size + 1, j, none⟩ = false := by go_simp
          exact (hbel.frozen (p := ⟨w.heap.size + 1, j, none⟩) (by show w.heap.size + 1 < _; omega)).trans h
        have f70 := f7 0
        have f71 := f7 1
        have f72 := f7 2
        have OI := fun (w1 : World) => (show Calls Tryz.prog 23 #[.int .u64 1] w1 _ from BigRes.go (of_any 1 (by decide) w1))
        have hx := HX.out
        have hN := HN.out
        rw [← hr0] at hx
        have r1 : r0 < n := by rw [hr0]; exact Nat.mod_lt _ hn
        have r2 : (r0 : Int) ≤ 1000000000 := by omega
        generalize M / n = Y at *
        have PL := fun (w1 : World) (A9 : Option Addr) (k9 c9 : Nat) (B9 : Option Addr) (l9 d9 : Nat) (h : Big w1 (.slice A9 k9 c9) Y) (h2 : Big w1 (.slice B9 l9 d9) 1) => BigRes.go (plus_big h h2 hq30 one_bp)
        have YB := Lib.hid hq30
        clear HX HN p0 e9 hq30 qb hE hr0 hown hD hL hk f7 BI LI HA HM one_bp hl2 hl3 hl4 hl5 hl6 hl7 hl8 hi hz0 hz1 hz2 hown1 hg1 hfar hbel
        rcases Nat.eq_zero_or_pos r0 with hr | hr
        · subst hr
          rw [if_neg (by simp)] at hx
          subst hx
          subst hN
          cases s
          all_goals
            go_wp2_with (go_at_call 162; with_reducible refine (P0.out _ (by (repeat' first | (with_reducible first | exact Below.refl _ _ | assumption | refine Later.belowOf _ ?_ ?_ | refine Below.alloc ?_ ?_ _ | refine Below.setCell ?_ ?_ _ | refine Below.drewN' _ ?_ | refine Below.drew ?_ | exact Ge.le) | go_size)) _ _ _ (by exact big_emptyP _ _)).mono ?_; rintro _ _ ⟨A7, k7, c7, q7, hq7, hk7, hk8, rfl, rfl⟩; have hq7' := hq7.out; have hk7' := hk7.out)
            have b13 : Below wr.heap.size wr q7.val := (by (repeat' first | (with_reducible first | exact Below.refl _ _ | assumption | refine Later.belowOf _ ?_ ?_ | refine Below.alloc ?_ ?_ _ | refine Below.setCell ?_ ?_ _ | refine Below.drewN' _ ?_ | refine Below.drew ?_ | exact Ge.le) | go_size))
            have hdk : 0 < k7 ↔ 0 < Y := by omega
            have s0 := cellBelowP b13 f4
            have s1 := cellBelowP b13 f5
            have s2 := cellBelowP b13 f6
            have bw13 := bwr.trans (b13.mono bwr.size)
            refine bodyPost_ret (v := (.agg #[.bool _, (.slice A7 k7 c7), .int .i64 _])) (by simp [results, Tryz.f185, go_sem, s0, s1, s2, hdk]) rfl ⟨⟨_, _, _, rfl, Big.set3 (n := Y) hq7' s0 s1 s2 _ _ _⟩, (((bw13.setCell (p := ⟨w.heap.size + 1, 0, none⟩) (Nat.le_succ _) _).setCell (p := ⟨w.heap.size + 1, 1, none⟩) (Nat.le_succ _) _).setCell (p := ⟨w.heap.size + 1, 2, none⟩) (Nat.le_succ _) _)⟩
        · have hr2 : (0 : Int) < (r0 : Int) := by omega
          cases down <;> cases s
          all_goals
            simp only [hr, true_and, reduceCtorEq, if_true, if_false] at hx
            subst hx
            subst hN
            simp only [dirI, Bool.false_eq_true, if_true, if_false]
            go_wp2_with (first
              | (go_at_call 162; with_reducible refine (P0.out _ (by (repeat' first | (with_reducible first | exact Below.refl _ _ | assumption | refine Later.belowOf _ ?_ ?_ | refine Below.alloc ?_ ?_ _ | refine Below.setCell ?_ ?_ _ | refine Below.drewN' _ ?_ | refine Below.drew ?_ | exact Ge.le) | go_size)) _ _ _ (by exact big_emptyP _ _)).mono ?_; rintro _ _ ⟨A7, k7, c7, q7, hq7, hk7, hk8, rfl, rfl⟩; have hq7' := hq7.out; have hk7' := hk7.out)
              | (go_at_call 23; with_reducible refine (OI _).mono ?_; rintro _ _ ⟨A5, k5, c5, q5, hq5, hk5, hk6, rfl, rfl⟩; have hq5' := hq5.out)
              | (go_at_call 162; with_reducible refine (PL _ _ _ _ _ _ _ (by (repeat (first | (with_reducible assumption) | (with_reducible refine Big.drew ?_) | (with_reducible refine Big.drewN ?_ _) | (with_reducible refine Big.alloc ?_ _) | (with_reducible refine Big.later ?_ _) | (with_reducible refine Big.setCell ?_ _ (by go_simp))))) (by (repeat (first | (with_reducible assumption) | (with_reducible refine Big.drew ?_) | (with_reducible refine Big.drewN ?_ _) | (with_reducible refine Big.alloc ?_ _) | (with_reducible refine Big.later ?_ _) | (with_reducible refine Big.setCell ?_ _ (by go_simp)))))).mono ?_; rintro _ _ ⟨A8, k8, c8, q8, hq8, hk9, hk10, rfl, rfl⟩; have hq8' := hq8.out; have hk9' := hk9.out))
            first
              | (have b13 : Below wr.heap.size wr q8.val := (by (repeat' first | (with_reducible first | exact Below.refl _ _ | assumption | refine Later.belowOf _ ?_ ?_ | refine Below.alloc ?_ ?_ _ | refine Below.setCell ?_ ?_ _ | refine Below.drewN' _ ?_ | refine Below.drew ?_ | exact Ge.le) | go_size)); have hdk : 0 < k8 := (by omega); have s0 := cellBelowP b13 f4; have s1 := cellBelowP b13 f5; have s2 := cellBelowP b13 f6; have bw13 := bwr.trans (b13.mono bwr.size); refine bodyPost_ret (v := (.agg #[.bool _, (.slice A8 k8 c8), .int .i64 _])) (by simp [results, Tryz.f185, go_sem, s0, s1, s2, hdk]) rfl ⟨⟨_, _, _, rfl, Big.set3 (n := Y + 1) hq8' s0 s1 s2 _ _ _⟩, (((bw13.setCell (p := ⟨w.heap.size + 1, 0, none⟩) (Nat.le_succ _) _).setCell (p := ⟨w.heap.size + 1, 1, none⟩) (Nat.le_succ _) _).setCell (p := ⟨w.heap.size + 1, 2, none⟩) (Nat.le_succ _) _)⟩)
              | (have b13 : Below wr.heap.size wr q7.val := (by (repeat' first | (with_reducible first | exact Below.refl _ _ | assumption | refine Later.belowOf _ ?_ ?_ | refine Below.alloc ?_ ?_ _ | refine Below.setCell ?_ ?_ _ | refine Below.drewN' _ ?_ | refine Below.drew ?_ | exact Ge.le) | go_size)); have hdk : 0 < k7 ↔ 0 < Y := (by omega); have s0 := cellBelowP b13 f4; have s1 := cellBelowP b13 f5; have s2 := cellBelowP b13 f6; have bw13 := bwr.trans (b13.mono bwr.size); refine bodyPost_ret (v := (.agg #[.bool _, (.slice A7 k7 c7), .int .i64 _])) (by simp [results, Tryz.f185, go_sem, s0, s1, s2, hdk]) rfl ⟨⟨_, _, _, rfl, Big.set3 (n := Y) hq7' s0 s1 s2 _ _ _⟩, (((bw13.setCell (p := ⟨w.heap.size + 1, 0, none⟩) (Nat.le_succ _) _).setCell (p := ⟨w.heap.size + 1, 1, none⟩) (Nat.le_succ _) _).setCell (p := ⟨w.heap.size + 1, 2, none⟩) (Nat.le_succ _) _)⟩)
end Go.Proofs.YtkmgfbhnioojhaaGreat
