/- Contracts: the reference's numbers: sums. -/
import Derived.Test.YtkmgfbhnioojhaaGreatPmW22
namespace Go.Proofs.YtkmgfbhnioojhaaGreat
set_option linter.unusedSimpArgs false
set_option linter.unusedVariables false
open Go.RowKit
open Fl

theorem LevelRes.go {f : FuncId} {args : Array Value} {s t : Bool} {m n : Nat} {e g : Int} {w : World} (h : Calls Tryz.prog f args w (LevelRes s t m n e g w)) : Calls Tryz.prog f args w fun E w' =>
    ∃ (A : Option Addr) (k c : Nat) (B : Option Addr) (l d : Nat) (q : Later w), Hid (Big q.val (.slice A k c) (m * 2 ^ (e - min e g).toNat)) ∧ Hid (Big q.val (.slice B l d) (n * 2 ^ (g - min e g).toNat)) ∧ E = .returned (.tuple #[(.agg #[.bool s, (.slice A k c), .int .i64 (min e g)]), (.agg #[.bool t, (.slice B l d), .int .i64 (min e g)])]) ∧ w' = q.val :=
  h.mono fun _ w' ⟨⟨A, k, c, B, l, d, he, h1, h2⟩, hbl⟩ => ⟨A, k, c, B, l, d, ⟨w', hbl⟩, h1, h2, he, rfl⟩

theorem BigS.at {w w1 : World} {v : Value} {n : Nat} (h : BigS w v n) (hb : Below w.heap.size w w1) : BigS w1 v n := fun w' hb' => h w' (hb.trans (hb'.mono hb.size))

set_option maxHeartbeats 4000000 in
set_option maxRecDepth 100000 in
theorem sum_same (s : Bool) (A : Option Addr) (ka ca : Nat) (B : Option Addr) (kb cb : Nat) (m n : Nat) (e f g : Int) (w : World) (hg : min e f = g) (ha : BigS w (.slice A ka ca) m) (hb : BigS w (.slice B kb cb) n) (hm0 : m ≠ 0) (hn0 : n ≠ 0) (hm : m < bp 30000) (hn : n < bp 30000)
    (hm2 : m * 2 ^ (e - g).toNat < bp 30000) (hn2 : n * 2 ^ (f - g).toNat < bp 30000) (e0 : -100000 ≤ e) (e1 : e ≤ 100000) (f0 : -100000 ≤ f) (f1 : f ≤ 100000) :
    Calls Tryz.prog 79 #[(.agg #[.bool s, (.slice A ka ca), .int .i64 e]), (.agg #[.bool s, (.slice B kb cb), .int .i64 f])] w (NumRes s (m * 2 ^ (e - g).toNat + n * 2 ^ (f - g).toNat) g w) := by
  have hka : ((ka : Int) == 0) = false := by
    obtain ⟨A', k', c', h1, h2, h3⟩ := (ha w (Below.refl _ _)).len
    injection h1 with h1 h4
    subst h4
    rw [beq_eq_false_iff_ne]; intro h; exact hm0 (h2.1 (by omega))
  have hkb : ((kb : Int) == 0) = false := by
    obtain ⟨A', k', c', h1, h2, h3⟩ := (hb w (Below.refl _ _)).len
    injection h1 with h1 h4
    subst h4
    rw [beq_eq_false_iff_ne]; intro h; exact hn0 (h2.1 (by omega))
  have hl := fun (w1 : World) (h : Below w.heap.size w w1) => LevelRes.go (level_any s s A ka ca B kb cb m n e f w1 (ha.at h) (hb.at h) hm hn e0 e1 f0 f1)
  rw [hg] at hl
  have HL := Lib.hid hl
  have HM2 := Lib.hid hm2
  have HN2 := Lib.hid hn2
  have HG := Lib.hid hg
  clear ha hb hm hn hm0 hn0 hl hm2 hn2 hg
  go_enter Tryz.func79, Tryz.ntmps79
  go_wp2_with (go_at_call 161; refine (HL.out _ (by (repeat' first | (with_reducible first | exact Below.refl _ _ | assumption | refine Later.belowOf _ ?_ ?_ | refine Below.alloc ?_ ?_ _ | refine Below.setCell ?_ ?_ _ | refine Below.drewN' _ ?_ | refine Below.drew ?_ | exact Ge.le) | go_size))).mono ?_; rintro _ _ ⟨A', k', c', B', l', d', q, hq1, hq2, rfl, rfl⟩)
  have hq1' := hq1.out
  have hq2' := hq2.out
  go_region_held3 (fun w' => w'.cell? ⟨q.val.heap.size, 0, none⟩ = some (.bool s) ∧ w'.cell? ⟨q.val.heap.size, 1, none⟩ = some (.slice A' k' c') ∧ w'.cell? ⟨q.val.heap.size, 2, none⟩ = some (.int .i64 g) ∧ w'.cell? ⟨q.val.heap.size + 1, 1, none⟩ = some (.slice B' l' d'))
    (first | (go_simp; done) | go_keep)
    ((go_at_call 162; refine (BigRes.go (plus_big (by (repeat (first | (with_reducible assumption) | (with_reducible refine Big.drew ?_) | (with_reducible refine Big.drewN ?_ _) | (with_reducible refine Big.alloc ?_ _) | (with_reducible refine Big.later ?_ _) | (with_reducible refine Big.setCell ?_ _ (by go_simp))))) (by (repeat (first | (with_reducible assumption) | (with_reducible refine Big.drew ?_) | (with_reducible refine Big.drewN ?_ _) | (with_reducible refine Big.alloc ?_ _) | (with_reducible refine Big.later ?_ _) | (with_reducible refine Big.setCell ?_ _ (by go_simp))))) HM2.out HN2.out)).mono ?_; rintro _ _ ⟨A2, k2, c2, q2, hq3, hk3, hk4, rfl, rfl⟩))
  all_goals
    rename_i hHeld
    clear hHeld
    go_wp2
    go_returns
    have hq3' := hq3.out
    exact ⟨⟨_, _, _, rfl, by (repeat (first | (with_reducible assumption) | (with_reducible refine Big.drew ?_) | (with_reducible refine Big.drewN ?_ _) | (with_reducible refine Big.alloc ?_ _) | (with_reducible refine Big.later ?_ _) | (with_reducible refine Big.setCell ?_ _ (by go_simp))))⟩, by (repeat' first | (with_reducible first | exact Below.refl _ _ | assumption | refine Later.belowOf _ ?_ ?_ | refine Below.alloc ?_ ?_ _ | refine Below.setCell ?_ ?_ _ | refine Below.drewN' _ ?_ | refine Below.drew ?_ | exact Ge.le) | go_size)⟩

set_option maxHeartbeats 4000000 in
set_option maxRecDepth 100000 in
theorem sum_null (s t : Bool) (A : Option Addr) (ka ca : Nat) (B : Option Addr) (kb cb : Nat) (m n : Nat) (e f g : Int) (w : World) (hg : min e f = g) (ha : BigS w (.slice A ka ca) m) (hb : BigS w (.slice B kb cb) n) (hst : s ≠ t) (hc : m * 2 ^ (e - g).toNat = n * 2 ^ (f - g).toNat) (hm0 : m ≠ 0) (hn0 : n ≠ 0) (hm : m < bp 30000) (hn : n < bp 30000)
    (hm2 : m * 2 ^ (e - g).toNat < bp 30000) (hn2 : n * 2 ^ (f - g).toNat < bp 30000) (e0 : -100000 ≤ e) (e1 : e ≤ 100000) (f0 : -100000 ≤ f) (f1 : f ≤ 100000) :
    Calls Tryz.prog 79 #[(.agg #[.bool s, (.slice A ka ca), .int .i64 e]), (.agg #[.bool t, (.slice B kb cb), .int .i64 f])] w (NumRes false 0 0 w) := by
  have hka : ((ka : Int) == 0) = false := by
    obtain ⟨A', k', c', h1, h2, h3⟩ := (ha w (Below.refl _ _)).len
    injection h1 with h1 h4
    subst h4
    rw [beq_eq_false_iff_ne]; intro h; exact hm0 (h2.1 (by omega))
  have hkb : ((kb : Int) == 0) = false := by
    obtain ⟨A', k', c', h1, h2, h3⟩ := (hb w (Below.refl _ _)).len
    injection h1 with h1 h4
    subst h4
    rw [beq_eq_false_iff_ne]; intro h; exact hn0 (h2.1 (by omega))
  have hl := fun (w1 : World) (h : Below w.heap.size w w1) => LevelRes.go (level_any s t A ka ca B kb cb m n e f w1 (ha.at h) (hb.at h) hm hn e0 e1 f0 f1)
  rw [hg] at hl
  have HL := Lib.hid hl
  have HM2 := Lib.hid hm2
  have HN2 := Lib.hid hn2
  have HG := Lib.hid hg
  clear ha hb hm hn hm0 hn0 hl hm2 hn2 hg
  have hci : cmpI (m * 2 ^ (e - g).toNat) (n * 2 ^ (f - g).toNat) = 0 := by unfold cmpI; rw [hc]; simp
  have hst2 : (s == t) = false := by cases s <;> cases t <;> first | rfl | exact absurd rfl hst
  have HC := Lib.hid hc
  have HCI := Lib.hid hci
  clear hc hst hci
  go_enter Tryz.func79, Tryz.ntmps79
  go_wp2_with (fail)
  go_at_call 161
  refine (HL.out _ (by (repeat' first | (with_reducible first | exact Below.refl _ _ | assumption | refine Later.belowOf _ ?_ ?_ | refine Below.alloc ?_ ?_ _ | refine Below.setCell ?_ ?_ _ | refine Below.drewN' _ ?_ | refine Below.drew ?_ | exact Ge.le) | go_size))).mono ?_
  rintro _ _ ⟨A', k', c', B', l', d', q, hq1, hq2, rfl, rfl⟩
  have hq1' := hq1.out
  have hq2' := hq2.out
  go_wp2_with (fail)
  go_at_call 163
  have hcmp := fun (w1 : World) (h1 : Big w1 (.slice A' k' c') (m * 2 ^ (e - g).toNat)) (h2 : Big w1 (.slice B' l' d') (n * 2 ^ (f - g).toNat)) => IntRes.go (cmp_big h1 h2 HM2.out HN2.out)
  rw [HCI.out] at hcmp
  refine (hcmp _ (by (repeat (first | (with_reducible assumption) | (with_reducible refine Big.drew ?_) | (with_reducible refine Big.drewN ?_ _) | (with_reducible refine Big.alloc ?_ _) | (with_reducible refine Big.later ?_ _) | (with_reducible refine Big.setCell ?_ _ (by go_simp))))) (by (repeat (first | (with_reducible assumption) | (with_reducible refine Big.drew ?_) | (with_reducible refine Big.drewN ?_ _) | (with_reducible refine Big.alloc ?_ _) | (with_reducible refine Big.later ?_ _) | (with_reducible refine Big.setCell ?_ _ (by go_simp)))))).mono ?_
  rintro _ _ ⟨q5, rfl, rfl⟩
  clear hcmp
  go_wp2
  go_returns
  exact ⟨⟨_, _, _, rfl, big_nil _⟩, by (repeat' first | (with_reducible first | exact Below.refl _ _ | assumption | refine Later.belowOf _ ?_ ?_ | refine Below.alloc ?_ ?_ _ | refine Below.setCell ?_ ?_ _ | refine Below.drewN' _ ?_ | refine Below.drew ?_ | exact Ge.le) | go_size)⟩

set_option maxHeartbeats 4000000 in
set_option maxRecDepth 100000 in
theorem sum_gt (s t : Bool) (A : Option Addr) (ka ca : Nat) (B : Option Addr) (kb cb : Nat) (m n : Nat) (e f g : Int) (w : World) (hg : min e f = g) (ha : BigS w (.slice A ka ca) m) (hb : BigS w (.slice B kb cb) n) (hst : s ≠ t) (hc : n * 2 ^ (f - g).toNat < m * 2 ^ (e - g).toNat) (hm0 : m ≠ 0) (hn0 : n ≠ 0) (hm : m < bp 30000) (hn : n < bp 30000)
    (hm2 : m * 2 ^ (e - g).toNat < bp 30000) (hn2 : n * 2 ^ (f - g).toNat < bp 30000) (e0 : -100000 ≤ e) (e1 : e ≤ 100000) (f0 : -100000 ≤ f) (f1 : f ≤ 100000) :
    Calls Tryz.prog 79 #[(.agg #[.bool s, (.slice A ka ca), .int .i64 e]), (.agg #[.bool t, (.slice B kb cb), .int .i64 f])] w (NumRes s (m * 2 ^ (e - g).toNat - n * 2 ^ (f - g).toNat) g w) := by
  have hka : ((ka : Int) == 0) = false := by
    obtain ⟨A', k', c', h1, h2, h3⟩ := (ha w (Below.refl _ _)).len
    injection h1 with h1 h4
    subst h4
    rw [beq_eq_false_iff_ne]; intro h; exact hm0 (h2.1 (by omega))
  have hkb : ((kb : Int) == 0) = false := by
    obtain ⟨A', k', c', h1, h2, h3⟩ := (hb w (Below.refl _ _)).len
    injection h1 with h1 h4
    subst h4
    rw [beq_eq_false_iff_ne]; intro h; exact hn0 (h2.1 (by omega))
  have hl := fun (w1 : World) (h : Below w.heap.size w w1) => LevelRes.go (level_any s t A ka ca B kb cb m n e f w1 (ha.at h) (hb.at h) hm hn e0 e1 f0 f1)
  rw [hg] at hl
  have HL := Lib.hid hl
  have HM2 := Lib.hid hm2
  have HN2 := Lib.hid hn2
  have HG := Lib.hid hg
  clear ha hb hm hn hm0 hn0 hl hm2 hn2 hg
  have hci : cmpI (m * 2 ^ (e - g).toNat) (n * 2 ^ (f - g).toNat) = 1 := by unfold cmpI; rw [if_neg (by omega), if_pos hc]
  have hst2 : (s == t) = false := by cases s <;> cases t <;> first | rfl | exact absurd rfl hst
  have HC := Lib.hid hc
  have HCI := Lib.hid hci
  clear hc hst hci
  go_enter Tryz.func79, Tryz.ntmps79
  go_wp2_with (fail)
  go_at_call 161
  refine (HL.out _ (by (repeat' first | (with_reducible first | exact Below.refl _ _ | assumption | refine Later.belowOf _ ?_ ?_ | refine Below.alloc ?_ ?_ _ | refine Below.setCell ?_ ?_ _ | refine Below.drewN' _ ?_ | refine Below.drew ?_ | exact Ge.le) | go_size))).mono ?_
  rintro _ _ ⟨A', k', c', B', l', d', q, hq1, hq2, rfl, rfl⟩
  have hq1' := hq1.out
  have hq2' := hq2.out
  go_wp2_with (fail)
  go_at_call 163
  have hcmp := fun (w1 : World) (h1 : Big w1 (.slice A' k' c') (m * 2 ^ (e - g).toNat)) (h2 : Big w1 (.slice B' l' d') (n * 2 ^ (f - g).toNat)) => IntRes.go (cmp_big h1 h2 HM2.out HN2.out)
  rw [HCI.out] at hcmp
  refine (hcmp _ (by (repeat (first | (with_reducible assumption) | (with_reducible refine Big.drew ?_) | (with_reducible refine Big.drewN ?_ _) | (with_reducible refine Big.alloc ?_ _) | (with_reducible refine Big.later ?_ _) | (with_reducible refine Big.setCell ?_ _ (by go_simp))))) (by (repeat (first | (with_reducible assumption) | (with_reducible refine Big.drew ?_) | (with_reducible refine Big.drewN ?_ _) | (with_reducible refine Big.alloc ?_ _) | (with_reducible refine Big.later ?_ _) | (with_reducible refine Big.setCell ?_ _ (by go_simp)))))).mono ?_
  rintro _ _ ⟨q5, rfl, rfl⟩
  clear hcmp
  go_wp2
  go_region_held3 (fun w' => w'.cell? ⟨q.val.heap.size, 0, none⟩ = some (.bool s) ∧ w'.cell? ⟨q.val.heap.size, 1, none⟩ = some (.slice A' k' c') ∧ w'.cell? ⟨q.val.heap.size, 2, none⟩ = some (.int .i64 g) ∧ w'.cell? ⟨q.val.heap.size + 1, 0, none⟩ = some (.bool t) ∧ w'.cell? ⟨q.val.heap.size + 1, 1, none⟩ = some (.slice B' l' d'))
    (first | (go_simp; done) | go_keep)
    ((go_at_call 164; refine (BigRes.go (less_big (by (repeat (first | (with_reducible assumption) | (with_reducible refine Big.drew ?_) | (with_reducible refine Big.drewN ?_ _) | (with_reducible refine Big.alloc ?_ _) | (with_reducible refine Big.later ?_ _) | (with_reducible refine Big.setCell ?_ _ (by go_simp))))) (by (repeat (first | (with_reducible assumption) | (with_reducible refine Big.drew ?_) | (with_reducible refine Big.drewN ?_ _) | (with_reducible refine Big.alloc ?_ _) | (with_reducible refine Big.later ?_ _) | (with_reducible refine Big.setCell ?_ _ (by go_simp))))) HM2.out (Nat.le_of_lt HC.out))).mono ?_; rintro _ _ ⟨A2, k2, c2, q2, hq3, hk3, hk4, rfl, rfl⟩))
  all_goals
    rename_i hHeld
    clear hHeld
    go_wp2
    go_returns
    have hq3' := hq3.out
    exact ⟨⟨_, _, _, rfl, by (repeat (first | (with_reducible assumption) | (with_reducible refine Big.drew ?_) | (with_reducible refine Big.drewN ?_ _) | (with_reducible refine Big.alloc ?_ _) | (with_reducible refine Big.later ?_ _) | (with_reducible refine Big.setCell ?_ _ (by go_simp))))⟩, by (repeat' first | (with_reducible first | exact Below.refl _ _ | assumption | refine Later.belowOf _ ?_ ?_ | refine Below.alloc ?_ ?_ _ | refine Below.setCell ?_ ?_ _ | refine Below.drewN' _ ?_ | refine Below.drew ?_ | exact Ge.le) | go_size)⟩

set_option maxHeartbeats 4000000 in
set_option maxRecDepth 100000 in
theorem sum_lt (s t : Bool) (A : Option Addr) (ka ca : Nat) (B : Option Addr) (kb cb : Nat) (m n : Nat) (e f g : Int) (w : World) (hg : min e f = g) (ha : BigS w (.slice A ka ca) m) (hb : BigS w (.slice B kb cb) n) (hst : s ≠ t) (hc : m * 2 ^ (e - g).toNat < n * 2 ^ (f - g).toNat) (hm0 : m ≠ 0) (hn0 : n ≠ 0) (hm : m < bp 30000) (hn : n < bp 30000)
    (hm2 : m * 2 ^ (e - g).toNat < bp 30000) (hn2 : n * 2 ^ (f - g).toNat < bp 30000) (e0 : -100000 ≤ e) (e1 : e ≤ 100000) (f0 : -100000 ≤ f) (f1 : f ≤ 100000) :
    Calls Tryz.prog 79 #[(.agg #[.bool s, (.slice A ka ca), .int .i64 e]), (.agg #[.bool t, (.slice B kb cb), .int .i64 f])] w (NumRes t (n * 2 ^ (f - g).toNat - m * 2 ^ (e - g).toNat) g w) := by
  have hka : ((ka : Int) == 0) = false := by
    obtain ⟨A', k', c', h1, h2, h3⟩ := (ha w (Below.refl _ _)).len
    injection h1 with h1 h4
    subst h4
    rw [beq_eq_false_iff_ne]; intro h; exact hm0 (h2.1 (by omega))
  have hkb : ((kb : Int) == 0) = false := by
    obtain ⟨A', k', c', h1, h2, h3⟩ := (hb w (Below.refl _ _)).len
    injection h1 with h1 h4
    subst h4
    rw [beq_eq_false_iff_ne]; intro h; exact hn0 (h2.1 (by omega))
  have hl := fun (w1 : World) (h : Below w.heap.size w w1) => LevelRes.go (level_any s t A ka ca B kb cb m n e f w1 (ha.at h) (hb.at h) hm hn e0 e1 f0 f1)
  rw [hg] at hl
  have HL := Lib.hid hl
  have HM2 := Lib.hid hm2
  have HN2 := Lib.hid hn2
  have HG := Lib.hid hg
  clear ha hb hm hn hm0 hn0 hl hm2 hn2 hg
  have hci : cmpI (m * 2 ^ (e - g).toNat) (n * 2 ^ (f - g).toNat) = (-1) := by unfold cmpI; rw [if_pos hc]
  have hst2 : (s == t) = false := by cases s <;> cases t <;> first | rfl | exact absurd rfl hst
  have HC := Lib.hid hc
  have HCI := Lib.hid hci
  clear hc hst hci
  go_enter Tryz.func79, Tryz.ntmps79
  go_wp2_with (fail)
  go_at_call 161
  refine (HL.out _ (by (repeat' first | (with_reducible first | exact Below.refl _ _ | assumption | refine Later.belowOf _ ?_ ?_ | refine Below.alloc ?_ ?_ _ | refine Below.setCell ?_ ?_ _ | refine Below.drewN' _ ?_ | refine Below.drew ?_ | exact Ge.le) | go_size))).mono ?_
  rintro _ _ ⟨A', k', c', B', l', d', q, hq1, hq2, rfl, rfl⟩
  have hq1' := hq1.out
  have hq2' := hq2.out
  go_wp2_with (fail)
  go_at_call 163
  have hcmp := fun (w1 : World) (h1 : Big w1 (.slice A' k' c') (m * 2 ^ (e - g).toNat)) (h2 : Big w1 (.slice B' l' d') (n * 2 ^ (f - g).toNat)) => IntRes.go (cmp_big h1 h2 HM2.out HN2.out)
  rw [HCI.out] at hcmp
  refine (hcmp _ (by (repeat (first | (with_reducible assumption) | (with_reducible refine Big.drew ?_) | (with_reducible refine Big.drewN ?_ _) | (with_reducible refine Big.alloc ?_ _) | (with_reducible refine Big.later ?_ _) | (with_reducible refine Big.setCell ?_ _ (by go_simp))))) (by (repeat (first | (with_reducible assumption) | (with_reducible refine Big.drew ?_) | (with_reducible refine Big.drewN ?_ _) | (with_reducible refine Big.alloc ?_ _) | (with_reducible refine Big.later ?_ _) | (with_reducible refine Big.setCell ?_ _ (by go_simp)))))).mono ?_
  rintro _ _ ⟨q5, rfl, rfl⟩
  clear hcmp
  go_wp2
  go_region_held3 (fun w' => w'.cell? ⟨q.val.heap.size, 0, none⟩ = some (.bool s) ∧ w'.cell? ⟨q.val.heap.size, 1, none⟩ = some (.slice A' k' c') ∧ w'.cell? ⟨q.val.heap.size, 2, none⟩ = some (.int .i64 g) ∧ w'.cell? ⟨q.val.heap.size + 1, 0, none⟩ = some (.bool t) ∧ w'.cell? ⟨q.val.heap.size + 1, 1, none⟩ = some (.slice B' l' d'))
    (first | (go_simp; done) | go_keep)
    ((go_at_call 164; refine (BigRes.go (less_big (by (repeat (first | (with_reducible assumption) | (with_reducible refine Big.drew ?_) | (with_reducible refine Big.drewN ?_ _) | (with_reducible refine Big.alloc ?_ _) | (with_reducible refine Big.later ?_ _) | (with_reducible refine Big.setCell ?_ _ (by go_simp))))) (by (repeat (first | (with_reducible assumption) | (with_reducible refine Big.drew ?_) | (with_reducible refine Big.drewN ?_ _) | (with_reducible refine Big.alloc ?_ _) | (with_reducible refine Big.later ?_ _) | (with_reducible refine Big.setCell ?_ _ (by go_simp))))) HN2.out (Nat.le_of_lt HC.out))).mono ?_; rintro _ _ ⟨A2, k2, c2, q2, hq3, hk3, hk4, rfl, rfl⟩))
  all_goals
    rename_i hHeld
    clear hHeld
    go_wp2
    go_returns
    have hq3' := hq3.out
    exact ⟨⟨_, _, _, rfl, by (repeat (first | (with_reducible assumption) | (with_reducible refine Big.drew ?_) | (with_reducible refine Big.drewN ?_ _) | (with_reducible refine Big.alloc ?_ _) | (with_reducible refine Big.later ?_ _) | (with_reducible refine Big.setCell ?_ _ (by go_simp))))⟩, by (repeat' first | (with_reducible first | exact Below.refl _ _ | assumption | refine Later.belowOf _ ?_ ?_ | refine Below.alloc ?_ ?_ _ | refine Below.setCell ?_ ?_ _ | refine Below.drewN' _ ?_ | refine Below.drew ?_ | exact Ge.le) | go_size)⟩


set_option maxHeartbeats 4000000 in
theorem sum_zero1b (s t : Bool) (A : Option Addr) (ka ca : Nat) (B : Option Addr) (kb cb : Nat) (n : Nat) (e f : Int) (w : World) (ha : BigS w (.slice A ka ca) 0) (hb : BigS w (.slice B kb cb) n) :
    Calls Tryz.prog 79 #[(.agg #[.bool s, (.slice A ka ca), .int .i64 e]), (.agg #[.bool t, (.slice B kb cb), .int .i64 f])] w (NumRes t n f w) := by
  obtain ⟨A', k', c', h1, h2, h3⟩ := (ha w (Below.refl _ _)).len
  injection h1 with h1 h4
  subst h4
  obtain rfl := h2.2 rfl
  have HB := Lib.hid hb
  clear ha hb h1 h2 h3
  go_enter Tryz.func79, Tryz.ntmps79
  go_wp2
  go_returns
  exact ⟨⟨_, _, _, rfl, HB.out _ (by (repeat' first | (with_reducible first | exact Below.refl _ _ | assumption | refine Later.belowOf _ ?_ ?_ | refine Below.alloc ?_ ?_ _ | refine Below.setCell ?_ ?_ _ | refine Below.drewN' _ ?_ | refine Below.drew ?_ | exact Ge.le) | go_size))⟩, by (repeat' first | (with_reducible first | exact Below.refl _ _ | assumption | refine Later.belowOf _ ?_ ?_ | refine Below.alloc ?_ ?_ _ | refine Below.setCell ?_ ?_ _ | refine Below.drewN' _ ?_ | refine Below.drew ?_ | exact Ge.le) | go_size)⟩
set_option maxHeartbeats 4000000 in
theorem sum_zero2b (s t : Bool) (A : Option Addr) (ka ca : Nat) (B : Option Addr) (kb cb : Nat) (m : Nat) (e f : Int) (w : World) (ha : BigS w (.slice A ka ca) m) (hb : BigS w (.slice B kb cb) 0) (hm0 : m ≠ 0) :
    Calls Tryz.prog 79 #[(.agg #[.bool s, (.slice A ka ca), .int .i64 e]), (.agg #[.bool t, (.slice B kb cb), .int .i64 f])] w (NumRes s m e w) := by
  have hka : ((ka : Int) == 0) = false := by
    obtain ⟨A', k', c', h1, h2, h3⟩ := (ha w (Below.refl _ _)).len
    injection h1 with h1 h4
    subst h4
    rw [beq_eq_false_iff_ne]; intro h; exact hm0 (h2.1 (by omega))
  obtain ⟨A', k', c', h1, h2, h3⟩ := (hb w (Below.refl _ _)).len
  injection h1 with h1 h4
  subst h4
  obtain rfl := h2.2 rfl
  have HA := Lib.hid ha
  clear ha hb h1 h2 h3 hm0
  go_enter Tryz.func79, Tryz.ntmps79
  go_wp2
  go_returns
  exact ⟨⟨_, _, _, rfl, HA.out _ (by (repeat' first | (with_reducible first | exact Below.refl _ _ | assumption | refine Later.belowOf _ ?_ ?_ | refine Below.alloc ?_ ?_ _ | refine Below.setCell ?_ ?_ _ | refine Below.drewN' _ ?_ | refine Below.drew ?_ | exact Ge.le) | go_size))⟩, by (repeat' first | (with_reducible first | exact Below.refl _ _ | assumption | refine Later.belowOf _ ?_ ?_ | refine Below.alloc ?_ ?_ _ | refine Below.setCell ?_ ?_ _ | refine Below.drewN' _ ?_ | refine Below.drew ?_ | exact Ge.le) | go_size)⟩

/-- **A sum.** -/
theorem bsum_any {K : Int} (s t : Bool) (A : Option Addr) (ka ca : Nat) (B : Option Addr) (kb cb : Nat) (m n : Nat) (e f : Int) (w : World) (ha : BigS w (.slice A ka ca) m) (hb : BigS w (.slice B kb cb) n) (hm : m < bp 30000) (hn : n < bp 30000)
    (hm2 : m * 2 ^ (e - min e f).toNat < bp 30000) (hn2 : n * 2 ^ (f - min e f).toNat < bp 30000) (e0 : -100000 ≤ e) (e1 : e ≤ 100000) (f0 : -100000 ≤ f) (f1 : f ≤ 100000) (hK : 0 ≤ K) (he : 0 ≤ e + K) (hf : 0 ≤ f + K) :
    ∃ r p g, nv K r p g = nv K s m e + nv K t n f ∧ (g = e ∨ g = f ∨ g = 0) ∧ p ≤ m * 2 ^ (e - min e f).toNat + n * 2 ^ (f - min e f).toNat ∧ Calls Tryz.prog 79 #[(.agg #[.bool s, (.slice A ka ca), .int .i64 e]), (.agg #[.bool t, (.slice B kb cb), .int .i64 f])] w (NumRes r p g w) := by
  have le1 : ∀ (x : Nat) (d : Int), x ≤ x * 2 ^ d.toNat := fun x d => Nat.le_mul_of_pos_right _ (Nat.two_pow_pos _)
  by_cases hm0 : m = 0
  · subst hm0
    exact ⟨t, n, f, by rw [nv_zero, Int.zero_add], Or.inr (Or.inl rfl), by have := le1 n (f - min e f); omega, sum_zero1b s t A ka ca B kb cb n e f w ha hb⟩
  · by_cases hn0 : n = 0
    · subst hn0
      exact ⟨s, m, e, by rw [nv_zero, Int.add_zero], Or.inl rfl, by have := le1 m (e - min e f); omega, sum_zero2b s t A ka ca B kb cb m e f w ha hb hm0⟩
    · obtain ⟨g, hg⟩ : ∃ g, min e f = g := ⟨_, rfl⟩
      have hgg : g = e ∨ g = f ∨ g = 0 := by omega
      obtain ⟨v1, v2, v3⟩ := sum_nv (K := K) s t m n e f he hf
      rw [hg] at v1 v2 v3 hm2 hn2 ⊢
      by_cases hst : s = t
      · subst hst
        exact ⟨s, _, g, v1 rfl, hgg, Nat.le_refl _, sum_same s A ka ca B kb cb m n e f g w hg ha hb hm0 hn0 hm hn hm2 hn2 e0 e1 f0 f1⟩
      · rcases Nat.lt_trichotomy (m * 2 ^ (e - g).toNat) (n * 2 ^ (f - g).toNat) with h | h | h
        · exact ⟨t, _, g, v3 hst (Nat.le_of_lt h), hgg, by omega, sum_lt s t A ka ca B kb cb m n e f g w hg ha hb hst h hm0 hn0 hm hn hm2 hn2 e0 e1 f0 f1⟩
        · refine ⟨false, 0, 0, ?_, Or.inr (Or.inr rfl), Nat.zero_le _, sum_null s t A ka ca B kb cb m n e f g w hg ha hb hst h hm0 hn0 hm hn hm2 hn2 e0 e1 f0 f1⟩
          rw [← v2 hst (Nat.le_of_eq h.symm), h, Nat.sub_self, nv_zero, nv_zero]
        · exact ⟨s, _, g, v2 hst (Nat.le_of_lt h), hgg, by omega, sum_gt s t A ka ca B kb cb m n e f g w hg ha hb hst h hm0 hn0 hm hn hm2 hn2 e0 e1 f0 f1⟩
end Go.Proofs.YtkmgfbhnioojhaaGreat

/- Contracts: the reference's numbers: which one is the greater. -/
namespace Go.Proofs.YtkmgfbhnioojhaaGreat
set_option linter.unusedSimpArgs false
set_option linter.unusedVariables false
open Go.RowKit
open Fl

theorem sign_later {w : World} (q : Later w) (s : Bool) (A : Option Addr) (k c : Nat) (m : Nat) (e : Int) (h : BigS w (.slice A k c) m) : Calls Tryz.prog 81 #[(.agg #[.bool s, (.slice A k c), .int .i64 e])] q.val fun E w'' => E = .returned (.int .i64 (sgnI s m)) ∧ ∃ r : Later w, w'' = r.val :=
  (sign_any s _ m e q.val (h.at q.below)).mono fun _ w'' ⟨he, hb⟩ => ⟨he, ⟨w'', q.below.trans (hb.mono q.below.size)⟩, rfl⟩
theorem bits_later {w : World} (q : Later w) (A : Option Addr) (k c : Nat) (m : Nat) (h : BigS w (.slice A k c) m) (hm : m < bp 30000) : Calls Tryz.prog 95 #[.slice A k c] q.val fun E w'' => E = .returned (.int .i64 (blen m)) ∧ ∃ r : Later w, w'' = r.val :=
  (bits_big (h _ q.below) hm).mono fun _ w'' ⟨he, hb⟩ => ⟨he, ⟨w'', q.below.trans (hb.mono q.below.size)⟩, rfl⟩

theorem pw_le {a b : Nat} (h : a ≤ b) : pw a ≤ pw b := by rw [pw_eq, pw_eq]; exact Nat.pow_le_pow_right (by decide) h
theorem blen_bp {m : Nat} (h : m < bp 30000) : blen m ≤ 960000 := by
  rw [bp_pw, pw_eq] at h
  have := blen_le h
  omega

/-- The order by what is found: the signs, the bits, the digits. -/
theorem ordN_sgn {s t : Bool} {m n : Nat} {e f : Int} (h : sgnI s m ≠ sgnI t n) : ordN s t m n e f = if sgnI s m < sgnI t n then -1 else 1 := by unfold ordN; rw [if_pos h]
theorem ordN_null {s t : Bool} {m n : Nat} {e f : Int} (h : sgnI s m = sgnI t n) (h0 : sgnI s m = 0) : ordN s t m n e f = 0 := by unfold ordN; rw [if_neg (fun hh => hh h), if_pos h0]
theorem ordN_bits {s t : Bool} {m n : Nat} {e f : Int} (h : sgnI s m = sgnI t n) (h0 : sgnI s m ≠ 0) : ordN s t m n e f = if s then 0 - (if (blen m : Int) + e < blen n + f then -1 else if (blen n : Int) + f < blen m + e then 1 else cmpI (m * 2 ^ (e - min e f).toNat) (n * 2 ^ (f - min e f).toNat))
  else (if (blen m : Int) + e < blen n + f then -1 else if (blen n : Int) + f < blen m + e then 1 else cmpI (m * 2 ^ (e - min e f).toNat) (n * 2 ^ (f - min e f).toNat)) := by unfold ordN; rw [if_neg (fun hh => hh h), if_neg h0]

theorem cmpI_range (m n : Nat) : -1 ≤ cmpI m n ∧ cmpI m n ≤ 1 := by unfold cmpI; split; omega; split <;> omega

theorem sgn_ne {s : Bool} {m : Nat} (h : sgnI s m ≠ 0) : m ≠ 0 := by intro hh; rw [hh] at h; exact h rfl

set_option maxHeartbeats 16000000 in
set_option maxRecDepth 100000 in
theorem orderN_any (s t : Bool) (A : Option Addr) (ka ca : Nat) (B : Option Addr) (kb cb : Nat) (m n : Nat) (e f : Int) (w : World) (ha : BigS w (.slice A ka ca) m) (hb : BigS w (.slice B kb cb) n) (hm : m < bp 30000) (hn : n < bp 30000)
    (hmn : (blen m : Int) + e = blen n + f → m * 2 ^ (e - min e f).toNat < bp 30000 ∧ n * 2 ^ (f - min e f).toNat < bp 30000) (e0 : -100000 ≤ e) (e1 : e ≤ 100000) (f0 : -100000 ≤ f) (f1 : f ≤ 100000) :
    Calls Tryz.prog 89 #[(.agg #[.bool s, (.slice A ka ca), .int .i64 e]), (.agg #[.bool t, (.slice B kb cb), .int .i64 f])] w (IntRes (ordN s t m n e f) w) := by
  have x1 := blen_bp hm
  have y1 := blen_bp hn
  have HA := Lib.hid ha
  have HB := Lib.hid hb
  have HM := Lib.hid hm
  have HN := Lib.hid hn
  have HMN := Lib.hid hmn
  have sl1 := fun (w1 : World) (h : Below w.heap.size w w1) (q : Later w1) => sign_later q s A ka ca m e (ha.at h)
  have sl2 := fun (w1 : World) (h : Below w.heap.size w w1) (q : Later w1) => sign_later q t B kb cb n f (hb.at h)
  have sg1 := fun (w1 : World) (h : Below w.heap.size w w1) => IntRes.go (sign_any s (.slice A ka ca) m e w1 (ha.at h))
  have bl1 := fun (w1 : World) (h : Below w.heap.size w w1) (q : Later w1) => bits_later q A ka ca m (ha.at h) hm
  have bl2 := fun (w1 : World) (h : Below w.heap.size w w1) (q : Later w1) => bits_later q B kb cb n (hb.at h) hn
  have lv := fun (w1 : World) (h : Below w.heap.size w w1) => LevelRes.go (level_any s t A ka ca B kb cb m n e f w1 (ha.at h) (hb.at h) hm hn e0 e1 f0 f1)
  clear ha hb hm hn hmn
  by_cases hs : sgnI s m = sgnI t n
  · by_cases h0 : sgnI s m = 0
    · rw [ordN_null hs h0]
      clear bl1 bl2 lv
      rw [← hs] at sl2
      rw [h0] at sl1 sl2 sg1
      have S1 := Lib.hid sl1
      have S2 := Lib.hid sl2
      have G1 := Lib.hid sg1
      clear sl1 sl2 sg1 hs h0
      go_enter Tryz.func89, Tryz.ntmps89
      go_wp2_with (fail)
      refine wp_region_later (by kernel_rfl) (by kernel_rfl) ?_
      repeat (go_big_quiet_step (first | (go_at_call 81; first | (with_reducible exact S1.out _ (by (repeat' first | (with_reducible first | exact Below.refl _ _ | assumption | refine Later.belowOf _ ?_ ?_ | refine Below.alloc ?_ ?_ _ | refine Below.setCell ?_ ?_ _ | refine Below.drewN' _ ?_ | refine Below.drew ?_ | exact Ge.le) | go_size)) _) | (with_reducible exact S2.out _ (by (repeat' first | (with_reducible first | exact Below.refl _ _ | assumption | refine Later.belowOf _ ?_ ?_ | refine Below.alloc ?_ ?_ _ | refine Below.setCell ?_ ?_ _ | refine Below.drewN' _ ?_ | refine Below.drew ?_ | exact Ge.le) | go_size)) _))))
      (refine wpQuiet_nil ?_; rintro _ ⟨nq, rfl⟩)
      go_wp2_with (go_at_call 81; refine (G1.out _ (by (repeat' first | (with_reducible first | exact Below.refl _ _ | assumption | refine Later.belowOf _ ?_ ?_ | refine Below.alloc ?_ ?_ _ | refine Below.setCell ?_ ?_ _ | refine Below.drewN' _ ?_ | refine Below.drew ?_ | exact Ge.le) | go_size))).mono ?_; rintro _ _ ⟨q1, rfl, rfl⟩)
      go_ret
      exact ⟨rfl, by (repeat' first | (with_reducible first | exact Below.refl _ _ | assumption | refine Later.belowOf _ ?_ ?_ | refine Below.alloc ?_ ?_ _ | refine Below.setCell ?_ ?_ _ | refine Below.drewN' _ ?_ | refine Below.drew ?_ | exact Ge.le) | go_size)⟩
    · rw [ordN_bits hs h0]
      have m0 := sgn_ne h0
      rw [← hs] at sl2
      have z0 : (sgnI s m == 0) = false := by rw [beq_eq_false_iff_ne]; exact h0
      generalize hsg : sgnI s m = a at *
      have S1 := Lib.hid sl1
      have S2 := Lib.hid sl2
      have G1 := Lib.hid sg1
      have B1 := Lib.hid bl1
      have B2 := Lib.hid bl2
      have LV := Lib.hid lv
      clear sl1 sl2 sg1 hs h0 bl1 bl2 lv hsg m0
      have hcm := cmpI_range (m * 2 ^ (e - min e f).toNat) (n * 2 ^ (f - min e f).toNat)
      generalize hx : (blen m : Int) = x at *
      generalize hy : (blen n : Int) = y at *
      have HX := Lib.hid hx
      have HY := Lib.hid hy
      have x2 : 0 ≤ x := by omega
      have y2 : 0 ≤ y := by omega
      have x3 : x ≤ 960000 := by omega
      have y3 : y ≤ 960000 := by omega
      clear hx hy x1 y1
      by_cases c1 : x + e < y + f
      · rw [if_pos c1]
        clear hcm LV HMN
        cases s
        all_goals
          go_enter Tryz.func89, Tryz.ntmps89
          go_wp2_with (fail)
          refine wp_region_later (by kernel_rfl) (by kernel_rfl) ?_
          repeat (go_big_quiet_step (first | (go_at_call 81; first | (with_reducible exact S1.out _ (by (repeat' first | (with_reducible first | exact Below.refl _ _ | assumption | refine Later.belowOf _ ?_ ?_ | refine Below.alloc ?_ ?_ _ | refine Below.setCell ?_ ?_ _ | refine Below.drewN' _ ?_ | refine Below.drew ?_ | exact Ge.le) | go_size)) _) | (with_reducible exact S2.out _ (by (repeat' first | (with_reducible first | exact Below.refl _ _ | assumption | refine Later.belowOf _ ?_ ?_ | refine Below.alloc ?_ ?_ _ | refine Below.setCell ?_ ?_ _ | refine Below.drewN' _ ?_ | refine Below.drew ?_ | exact Ge.le) | go_size)) _))))
          (refine wpQuiet_nil ?_; rintro _ ⟨nq, rfl⟩)
          go_wp2_with (go_at_call 81; refine (G1.out _ (by (repeat' first | (with_reducible first | exact Below.refl _ _ | assumption | refine Later.belowOf _ ?_ ?_ | refine Below.alloc ?_ ?_ _ | refine Below.setCell ?_ ?_ _ | refine Below.drewN' _ ?_ | refine Below.drew ?_ | exact Ge.le) | go_size))).mono ?_; rintro _ _ ⟨q1, rfl, rfl⟩)
          refine wp_region_later (by kernel_rfl) (by kernel_rfl) ?_
          repeat (go_big_quiet_step (first | (go_at_call 95; first | (with_reducible exact B1.out _ (by (repeat' first | (with_reducible first | exact Below.refl _ _ | assumption | refine Later.belowOf _ ?_ ?_ | refine Below.alloc ?_ ?_ _ | refine Below.setCell ?_ ?_ _ | refine Below.drewN' _ ?_ | refine Below.drew ?_ | exact Ge.le) | go_size)) _) | (with_reducible exact B2.out _ (by (repeat' first | (with_reducible first | exact Below.refl _ _ | assumption | refine Later.belowOf _ ?_ ?_ | refine Below.alloc ?_ ?_ _ | refine Below.setCell ?_ ?_ _ | refine Below.drewN' _ ?_ | refine Below.drew ?_ | exact Ge.le) | go_size)) _))))
          (refine wpQuiet_nil ?_; rintro _ ⟨nq, rfl⟩)
          go_wp2
          refine wp_region_later (by kernel_rfl) (by kernel_rfl) ?_
          repeat (go_big_quiet_step (first | (go_at_call 95; first | (with_reducible exact B1.out _ (by (repeat' first | (with_reducible first | exact Below.refl _ _ | assumption | refine Later.belowOf _ ?_ ?_ | refine Below.alloc ?_ ?_ _ | refine Below.setCell ?_ ?_ _ | refine Below.drewN' _ ?_ | refine Below.drew ?_ | exact Ge.le) | go_size)) _) | (with_reducible exact B2.out _ (by (repeat' first | (with_reducible first | exact Below.refl _ _ | assumption | refine Later.belowOf _ ?_ ?_ | refine Below.alloc ?_ ?_ _ | refine Below.setCell ?_ ?_ _ | refine Below.drewN' _ ?_ | refine Below.drew ?_ | exact Ge.le) | go_size)) _))))
          (refine wpQuiet_nil ?_; rintro _ ⟨nq, rfl⟩)
          go_wp2
          go_ret
          exact ⟨rfl, by (repeat' first | (with_reducible first | exact Below.refl _ _ | assumption | refine Later.belowOf _ ?_ ?_ | refine Below.alloc ?_ ?_ _ | refine Below.setCell ?_ ?_ _ | refine Below.drewN' _ ?_ | refine Below.drew ?_ | exact Ge.le) | go_size)⟩
      · rw [if_neg c1]
        by_cases c2 : y + f < x + e
        · rw [if_pos c2]
          clear hcm LV HMN
          cases s
          all_goals
            go_enter Tryz.func89, Tryz.ntmps89
            go_wp2_with (fail)
            refine wp_region_later (by kernel_rfl) (by kernel_rfl) ?_
            repeat (go_big_quiet_step (first | (go_at_call 81; first | (with_reducible exact S1.out _ (by (repeat' first | (with_reducible first | exact Below.refl _ _ | assumption | refine Later.belowOf _ ?_ ?_ | refine Below.alloc ?_ ?_ _ | refine Below.setCell ?_ ?_ _ | refine Below.drewN' _ ?_ | refine Below.drew ?_ | exact Ge.le) | go_size)) _) | (with_reducible exact S2.out _ (by (repeat' first | (with_reducible first | exact Below.refl _ _ | assumption | refine Later.belowOf _ ?_ ?_ | refine Below.alloc ?_ ?_ _ | refine Below.setCell ?_ ?_ _ | refine Below.drewN' _ ?_ | refine Below.drew ?_ | exact Ge.le) | go_size)) _))))
            (refine wpQuiet_nil ?_; rintro _ ⟨nq, rfl⟩)
            go_wp2_with (go_at_call 81; refine (G1.out _ (by (repeat' first | (with_reducible first | exact Below.refl _ _ | assumption | refine Later.belowOf _ ?_ ?_ | refine Below.alloc ?_ ?_ _ | refine Below.setCell ?_ ?_ _ | refine Below.drewN' _ ?_ | refine Below.drew ?_ | exact Ge.le) | go_size))).mono ?_; rintro _ _ ⟨q1, rfl, rfl⟩)
            refine wp_region_later (by kernel_rfl) (by kernel_rfl) ?_
            repeat (go_big_quiet_step (first | (go_at_call 95; first | (with_reducible exact B1.out _ (by (repeat' first | (with_reducible first | exact Below.refl _ _ | assumption | refine Later.belowOf _ ?_ ?_ | refine Below.alloc ?_ ?_ _ | refine Below.setCell ?_ ?_ _ | refine Below.drewN' _ ?_ | refine Below.drew ?_ | exact Ge.le) | go_size)) _) | (with_reducible exact B2.out _ (by (repeat' first | (with_reducible first | exact Below.refl _ _ | assumption | refine Later.belowOf _ ?_ ?_ | refine Below.alloc ?_ ?_ _ | refine Below.setCell ?_ ?_ _ | refine Below.drewN' _ ?_ | refine Below.drew ?_ | exact Ge.le) | go_size)) _))))
            (refine wpQuiet_nil ?_; rintro _ ⟨nq, rfl⟩)
            go_wp2
            refine wp_region_later (by kernel_rfl) (by kernel_rfl) ?_
            repeat (go_big_quiet_step (first | (go_at_call 95; first | (with_reducible exact B1.out _ (by (repeat' first | (with_reducible first | exact Below.refl _ _ | assumption | refine Later.belowOf _ ?_ ?_ | refine Below.alloc ?_ ?_ _ | refine Below.setCell ?_ ?_ _ | refine Below.drewN' _ ?_ | refine Below.drew ?_ | exact Ge.le) | go_size)) _) | (with_reducible exact B2.out _ (by (repeat' first | (with_reducible first | exact Below.refl _ _ | assumption | refine Later.belowOf _ ?_ ?_ | refine Below.alloc ?_ ?_ _ | refine Below.setCell ?_ ?_ _ | refine Below.drewN' _ ?_ | refine Below.drew ?_ | exact Ge.le) | go_size)) _))))
            (refine wpQuiet_nil ?_; rintro _ ⟨nq, rfl⟩)
            go_wp2
            go_ret
            exact ⟨rfl, by (repeat' first | (with_reducible first | exact Below.refl _ _ | assumption | refine Later.belowOf _ ?_ ?_ | refine Below.alloc ?_ ?_ _ | refine Below.setCell ?_ ?_ _ | refine Below.drewN' _ ?_ | refine Below.drew ?_ | exact Ge.le) | go_size)⟩
        · rw [if_neg c2]
          have hxy : x + e = y + f := by omega
          obtain ⟨hm2, hn2⟩ := HMN.out hxy
          have hcp := fun (w1 : World) (A' : Option Addr) (k' c' : Nat) (B' : Option Addr) (l' d' : Nat) (h1 : Big w1 (.slice A' k' c') (m * 2 ^ (e - min e f).toNat)) (h2 : Big w1 (.slice B' l' d') (n * 2 ^ (f - min e f).toNat)) => IntRes.go (cmp_big h1 h2 hm2 hn2)
          have CP := Lib.hid hcp
          clear hcp
          obtain ⟨g, hg⟩ : ∃ g, g = min e f := ⟨_, rfl⟩
          rw [← hg] at LV CP hcm ⊢
          obtain ⟨M, hM⟩ : ∃ M, M = m * 2 ^ (e - g).toNat := ⟨_, rfl⟩
          obtain ⟨N, hN⟩ : ∃ N, N = n * 2 ^ (f - g).toNat := ⟨_, rfl⟩
          rw [← hM] at LV CP hcm ⊢
          rw [← hN] at LV CP hcm ⊢
          generalize cmpI M N = r at *
          clear hm2 hn2 HMN hg hM hN
          cases s
          all_goals
            go_enter Tryz.func89, Tryz.ntmps89
            go_wp2_with (fail)
            refine wp_region_later (by kernel_rfl) (by kernel_rfl) ?_
            repeat (go_big_quiet_step (first | (go_at_call 81; first | (with_reducible exact S1.out _ (by (repeat' first | (with_reducible first | exact Below.refl _ _ | assumption | refine Later.belowOf _ ?_ ?_ | refine Below.alloc ?_ ?_ _ | refine Below.setCell ?_ ?_ _ | refine Below.drewN' _ ?_ | refine Below.drew ?_ | exact Ge.le) | go_size)) _) | (with_reducible exact S2.out _ (by (repeat' first | (with_reducible first | exact Below.refl _ _ | assumption | refine Later.belowOf _ ?_ ?_ | refine Below.alloc ?_ ?_ _ | refine Below.setCell ?_ ?_ _ | refine Below.drewN' _ ?_ | refine Below.drew ?_ | exact Ge.le) | go_size)) _))))
            (refine wpQuiet_nil ?_; rintro _ ⟨nq, rfl⟩)
            go_wp2_with (go_at_call 81; refine (G1.out _ (by (repeat' first | (with_reducible first | exact Below.refl _ _ | assumption | refine Later.belowOf _ ?_ ?_ | refine Below.alloc ?_ ?_ _ | refine Below.setCell ?_ ?_ _ | refine Below.drewN' _ ?_ | refine Below.drew ?_ | exact Ge.le) | go_size))).mono ?_; rintro _ _ ⟨q1, rfl, rfl⟩)
            refine wp_region_later (by kernel_rfl) (by kernel_rfl) ?_
            repeat (go_big_quiet_step (first | (go_at_call 95; first | (with_reducible exact B1.out _ (by (repeat' first | (with_reducible first | exact Below.refl _ _ | assumption | refine Later.belowOf _ ?_ ?_ | refine Below.alloc ?_ ?_ _ | refine Below.setCell ?_ ?_ _ | refine Below.drewN' _ ?_ | refine Below.drew ?_ | exact Ge.le) | go_size)) _) | (with_reducible exact B2.out _ (by (repeat' first | (with_reducible first | exact Below.refl _ _ | assumption | refine Later.belowOf _ ?_ ?_ | refine Below.alloc ?_ ?_ _ | refine Below.setCell ?_ ?_ _ | refine Below.drewN' _ ?_ | refine Below.drew ?_ | exact Ge.le) | go_size)) _))))
            (refine wpQuiet_nil ?_; rintro _ ⟨nq, rfl⟩)
            go_wp2
            refine wp_region_later (by kernel_rfl) (by kernel_rfl) ?_
            repeat (go_big_quiet_step (first | (go_at_call 95; first | (with_reducible exact B1.out _ (by (repeat' first | (with_reducible first | exact Below.refl _ _ | assumption | refine Later.belowOf _ ?_ ?_ | refine Below.alloc ?_ ?_ _ | refine Below.setCell ?_ ?_ _ | refine Below.drewN' _ ?_ | refine Below.drew ?_ | exact Ge.le) | go_size)) _) | (with_reducible exact B2.out _ (by (repeat' first | (with_reducible first | exact Below.refl _ _ | assumption | refine Later.belowOf _ ?_ ?_ | refine Below.alloc ?_ ?_ _ | refine Below.setCell ?_ ?_ _ | refine Below.drewN' _ ?_ | refine Below.drew ?_ | exact Ge.le) | go_size)) _))))
            (refine wpQuiet_nil ?_; rintro _ ⟨nq, rfl⟩)
            go_wp2_with (first | (go_at_call 161; refine (LV.out _ (by (repeat' first | (with_reducible first | exact Below.refl _ _ | assumption | refine Later.belowOf _ ?_ ?_ | refine Below.alloc ?_ ?_ _ | refine Below.setCell ?_ ?_ _ | refine Below.drewN' _ ?_ | refine Below.drew ?_ | exact Ge.le) | go_size))).mono ?_; rintro _ _ ⟨A', k', c', B', l', d', q3, hq1, hq2, rfl, rfl⟩) | (go_at_call 163; refine (CP.out _ _ _ _ _ _ _ (by have h1 := hq1.out; (repeat (first | (with_reducible assumption) | (with_reducible refine Big.drew ?_) | (with_reducible refine Big.drewN ?_ _) | (with_reducible refine Big.alloc ?_ _) | (with_reducible refine Big.later ?_ _) | (with_reducible refine Big.setCell ?_ _ (by go_simp))))) (by have h2 := hq2.out; (repeat (first | (with_reducible assumption) | (with_reducible refine Big.drew ?_) | (with_reducible refine Big.drewN ?_ _) | (with_reducible refine Big.alloc ?_ _) | (with_reducible refine Big.later ?_ _) | (with_reducible refine Big.setCell ?_ _ (by go_simp)))))).mono ?_; rintro _ _ ⟨q5, rfl, rfl⟩))
            go_ret
            first
              | exact ⟨rfl, by (repeat' first | (with_reducible first | exact Below.refl _ _ | assumption | refine Later.belowOf _ ?_ ?_ | refine Below.alloc ?_ ?_ _ | refine Below.setCell ?_ ?_ _ | refine Below.drewN' _ ?_ | refine Below.drew ?_ | exact Ge.le) | go_size)⟩
              | exact ⟨by show Ending.returned (.int .i64 (-r)) = _; exact ret_int (by omega), by (repeat' first | (with_reducible first | exact Below.refl _ _ | assumption | refine Later.belowOf _ ?_ ?_ | refine Below.alloc ?_ ?_ _ | refine Below.setCell ?_ ?_ _ | refine Below.drewN' _ ?_ | refine Below.drew ?_ | exact Ge.le) | go_size)⟩
  · rw [ordN_sgn hs]
    have n1 : (sgnI s m != sgnI t n) = true := by simp [hs]
    clear bl1 bl2 lv sg1
    generalize sgnI s m = a at *
    generalize sgnI t n = b at *
    have S1 := Lib.hid sl1
    have S2 := Lib.hid sl2
    clear sl1 sl2
    by_cases hlt : a < b
    all_goals
      first | rw [if_pos hlt] | rw [if_neg hlt]
      clear hs
      go_enter Tryz.func89, Tryz.ntmps89
      go_wp2_with (fail)
      refine wp_region_later (by kernel_rfl) (by kernel_rfl) ?_
      repeat (go_big_quiet_step (first | (go_at_call 81; first | (with_reducible exact S1.out _ (by (repeat' first | (with_reducible first | exact Below.refl _ _ | assumption | refine Later.belowOf _ ?_ ?_ | refine Below.alloc ?_ ?_ _ | refine Below.setCell ?_ ?_ _ | refine Below.drewN' _ ?_ | refine Below.drew ?_ | exact Ge.le) | go_size)) _) | (with_reducible exact S2.out _ (by (repeat' first | (with_reducible first | exact Below.refl _ _ | assumption | refine Later.belowOf _ ?_ ?_ | refine Below.alloc ?_ ?_ _ | refine Below.setCell ?_ ?_ _ | refine Below.drewN' _ ?_ | refine Below.drew ?_ | exact Ge.le) | go_size)) _))))
      (refine wpQuiet_nil ?_; rintro _ ⟨nq, rfl⟩)
      go_wp2_with (fail)
      refine wp_region_later (by kernel_rfl) (by kernel_rfl) ?_
      repeat (go_big_quiet_step (first | (go_at_call 81; first | (with_reducible exact S1.out _ (by (repeat' first | (with_reducible first | exact Below.refl _ _ | assumption | refine Later.belowOf _ ?_ ?_ | refine Below.alloc ?_ ?_ _ | refine Below.setCell ?_ ?_ _ | refine Below.drewN' _ ?_ | refine Below.drew ?_ | exact Ge.le) | go_size)) _) | (with_reducible exact S2.out _ (by (repeat' first | (with_reducible first | exact Below.refl _ _ | assumption | refine Later.belowOf _ ?_ ?_ | refine Below.alloc ?_ ?_ _ | refine Below.setCell ?_ ?_ _ | refine Below.drewN' _ ?_ | refine Below.drew ?_ | exact Ge.le) | go_size)) _))))
      (refine wpQuiet_nil ?_; rintro _ ⟨nq, rfl⟩)
      go_wp2
      go_ret
      exact ⟨rfl, by (repeat' first | (with_reducible first | exact Below.refl _ _ | assumption | refine Later.belowOf _ ?_ ?_ | refine Below.alloc ?_ ?_ _ | refine Below.setCell ?_ ?_ _ | refine Below.drewN' _ ?_ | refine Below.drew ?_ | exact Ge.le) | go_size)⟩

/-- **The order of two numbers' amounts.** -/
theorem order_any {K : Int} (s t : Bool) (A : Option Addr) (ka ca : Nat) (B : Option Addr) (kb cb : Nat) (m n : Nat) (e f : Int) (w : World) (ha : BigS w (.slice A ka ca) m) (hb : BigS w (.slice B kb cb) n) (hm : m < bp 5000) (hn : n < bp 5000)
    (e0 : -100000 ≤ e) (e1 : e ≤ 100000) (f0 : -100000 ≤ f) (f1 : f ≤ 100000) (he : 0 ≤ e + K) (hf : 0 ≤ f + K) :
    Calls Tryz.prog 89 #[(.agg #[.bool s, (.slice A ka ca), .int .i64 e]), (.agg #[.bool t, (.slice B kb cb), .int .i64 f])] w (IntRes (ordI (nv K s m e) (nv K t n f)) w) := by
  rw [← ordN_eq he hf]
  have l5 : bp 5000 ≤ bp 30000 := bp_le (by decide)
  refine orderN_any s t A ka ca B kb cb m n e f w ha hb (Nat.lt_of_lt_of_le hm l5) (Nat.lt_of_lt_of_le hn l5) ?_ e0 e1 f0 f1
  intro hbits
  have size : ∀ (m n : Nat) (e f : Int), m < bp 5000 → n < bp 5000 → (blen m : Int) + e = blen n + f → m * 2 ^ (e - min e f).toNat < bp 30000 := by
    intro m n e f hm hn hb
    by_cases hm0 : m = 0
    · subst hm0; rw [Nat.zero_mul]; exact bp_pos _
    · by_cases c : e ≤ f
      · rw [show (e - min e f).toNat = 0 by omega, Nat.pow_zero, Nat.mul_one]; exact Nat.lt_of_lt_of_le hm l5
      · have h1 := blen_lt m
        have h2 : blen n ≤ 160000 := by
          rw [bp_pw, pw_eq] at hn
          have := blen_le hn
          omega
        have a1 : m * 2 ^ (e - min e f).toNat < 2 ^ blen m * 2 ^ (e - min e f).toNat := Nat.mul_lt_mul_of_pos_right h1 (Nat.two_pow_pos _)
        rw [← Nat.pow_add, show blen m + (e - min e f).toNat = blen n by omega] at a1
        refine Nat.lt_of_lt_of_le a1 ?_
        rw [bp_pw, ← pw_eq]
        exact pw_le (by omega)
  refine ⟨size m n e f hm hn hbits, ?_⟩
  rw [show min e f = min f e by omega]
  exact size n m f e hn hm hbits.symm
end Go.Proofs.YtkmgfbhnioojhaaGreat
