/- Contracts: the reference's numbers: sums. -/
import Derived.Test.YtjdccbigaahkeaaW24
namespace Go.Proofs.Ytjdccbigaahkeaa
set_option linter.unusedSimpArgs false
set_option linter.unusedVariables false
open Go.RowKit
open Fl

theorem LevelRes.go {f : FuncId} {args : Array Value} {s t : Bool} {m n : Nat} {e g : Int} {w : World} (h : Calls Try.prog f args w (LevelRes s t m n e g w)) : Calls Try.prog f args w fun E w' =>
    ∃ (A : Option Addr) (k c : Nat) (B : Option Addr) (l d : Nat) (q : Later w), Hid (Big q.val (.slice A k c) (m * 2 ^ (e - min e g).toNat)) ∧ Hid (Big q.val (.slice B l d) (n * 2 ^ (g - min e g).toNat)) ∧ E = .returned (.tuple #[(.agg #[.bool s, (.slice A k c), .int .i64 (min e g)]), (.agg #[.bool t, (.slice B l d), .int .i64 (min e g)])]) ∧ w' = q.val :=
  h.mono fun _ w' ⟨⟨A, k, c, B, l, d, he, h1, h2⟩, hbl⟩ => ⟨A, k, c, B, l, d, ⟨w', hbl⟩, h1, h2, he, rfl⟩

theorem BigS.at {w w1 : World} {v : Value} {n : Nat} (h : BigS w v n) (hb : Below w.heap.size w w1) : BigS w1 v n := fun w' hb' => h w' (hb.trans (hb'.mono hb.size))

set_option maxHeartbeats 4000000 in
set_option maxRecDepth 100000 in
theorem sum_same (s : Bool) (A : Option Addr) (ka ca : Nat) (B : Option Addr) (kb cb : Nat) (m n : Nat) (e f g : Int) (w : World) (hg : min e f = g) (ha : BigS w (.slice A ka ca) m) (hb : BigS w (.slice B kb cb) n) (hm0 : m ≠ 0) (hn0 : n ≠ 0) (hm : m < bp 30000) (hn : n < bp 30000)
    (hm2 : m * 2 ^ (e - g).toNat < bp 30000) (hn2 : n * 2 ^ (f - g).toNat < bp 30000) (e0 : -100000 ≤ e) (e1 : e ≤ 100000) (f0 : -100000 ≤ f) (f1 : f ≤ 100000) :
    Calls Try.prog 112 #[(.agg #[.bool s, (.slice A ka ca), .int .i64 e]), (.agg #[.bool s, (.slice B kb cb), .int .i64 f])] w (NumRes s (m * 2 ^ (e - g).toNat + n * 2 ^ (f - g).toNat) g w) := by
  have hka : ((ka : Int) == 0) = false := by
    obtain ⟨A', k', c', h1, h2, h3⟩ := (ha w (Below.refl _ _)).len
    injection h1 with h1 h4
    subst h4
    rw [beq_eq_false_iff_ne]; intro h; exact hm0 (h2.1 (by omega))
  have hkb : ((kb : Int) == 0) = false := by
    obtain ⟨A', k', c', h1, h2, h3⟩ := (hb w (Below.refl _ _)).len
    injection h1 with h1 h4
    subst h4
    rw [beq_eq_false_iff_ne]; intro h; exact hn0 (h2.1 (by omega))
  have hl := fun (w1 : World) (h : Below w.heap.size w w1) => LevelRes.go (level_any s s A ka ca B kb cb m n e f w1 (ha.at h) (hb.at h) hm hn e0 e1 f0 f1)
  rw [hg] at hl
  have HL := Lib.hid hl
  have HM2 := Lib.hid hm2
  have HN2 := Lib.hid hn2
  have HG := Lib.hid hg
  clear ha hb hm hn hm0 hn0 hl hm2 hn2 hg
  go_enter Try.func112, Try.ntmps112
  go_wp2_with (go_at_call 136; refine (HL.out _ (by (repeat' (first | (with_reducible exact Below.refl _ _) | (with_reducible assumption) | (with_reducible refine Later.belowOf _ ?_ ?_) | (with_reducible refine Below.alloc ?_ ?_ _) | (with_reducible refine Below.setCell ?_ ?_ _) | (with_reducible refine Below.drewN' _ ?_) | (with_reducible refine Below.drew ?_) | (with_reducible exact Ge.le) | go_size)))).mono ?_; rintro _ _ ⟨A', k', c', B', l', d', q, hq1, hq2, rfl, rfl⟩)
  have hq1' := hq1.out
  have hq2' := hq2.out
  go_region_held3 (fun w' => w'.cell? ⟨q.val.heap.size, 0, none⟩ = some (.bool s) ∧ w'.cell? ⟨q.val.heap.size, 1, none⟩ = some (.slice A' k' c') ∧ w'.cell? ⟨q.val.heap.size, 2, none⟩ = some (.int .i64 g) ∧ w'.cell? ⟨q.val.heap.size + 1, 1, none⟩ = some (.slice B' l' d'))
    (first | (go_simp; done) | go_keep)
    ((go_at_call 137; refine (BigRes.go (plus_big (by (repeat (first | (with_reducible assumption) | (with_reducible refine Big.drew ?_) | (with_reducible refine Big.drewN ?_ _) | (with_reducible refine Big.alloc ?_ _) | (with_reducible refine Big.later ?_ _) | (with_reducible refine Big.setCell ?_ _ (by go_simp))))) (by (repeat (first | (with_reducible assumption) | (with_reducible refine Big.drew ?_) | (with_reducible refine Big.drewN ?_ _) | (with_reducible refine Big.alloc ?_ _) | (with_reducible refine Big.later ?_ _) | (with_reducible refine Big.setCell ?_ _ (by go_simp))))) HM2.out HN2.out)).mono ?_; rintro _ _ ⟨A2, k2, c2, q2, hq3, hk3, hk4, rfl, rfl⟩))
  all_goals
    rename_i hHeld
    clear hHeld
    go_wp2
    go_returns
    have hq3' := hq3.out
    exact ⟨⟨_, _, _, rfl, by (repeat (first | (with_reducible assumption) | (with_reducible refine Big.drew ?_) | (with_reducible refine Big.drewN ?_ _) | (with_reducible refine Big.alloc ?_ _) | (with_reducible refine Big.later ?_ _) | (with_reducible refine Big.setCell ?_ _ (by go_simp))))⟩, by (repeat' (first | (with_reducible exact Below.refl _ _) | (with_reducible assumption) | (with_reducible refine Later.belowOf _ ?_ ?_) | (with_reducible refine Below.alloc ?_ ?_ _) | (with_reducible refine Below.setCell ?_ ?_ _) | (with_reducible refine Below.drewN' _ ?_) | (with_reducible refine Below.drew ?_) | (with_reducible exact Ge.le) | go_size))⟩

set_option maxHeartbeats 4000000 in
set_option maxRecDepth 100000 in
theorem sum_null (s t : Bool) (A : Option Addr) (ka ca : Nat) (B : Option Addr) (kb cb : Nat) (m n : Nat) (e f g : Int) (w : World) (hg : min e f = g) (ha : BigS w (.slice A ka ca) m) (hb : BigS w (.slice B kb cb) n) (hst : s ≠ t) (hc : m * 2 ^ (e - g).toNat = n * 2 ^ (f - g).toNat) (hm0 : m ≠ 0) (hn0 : n ≠ 0) (hm : m < bp 30000) (hn : n < bp 30000)
    (hm2 : m * 2 ^ (e - g).toNat < bp 30000) (hn2 : n * 2 ^ (f - g).toNat < bp 30000) (e0 : -100000 ≤ e) (e1 : e ≤ 100000) (f0 : -100000 ≤ f) (f1 : f ≤ 100000) :
    Calls Try.prog 112 #[(.agg #[.bool s, (.slice A ka ca), .int .i64 e]), (.agg #[.bool t, (.slice B kb cb), .int .i64 f])] w (NumRes false 0 0 w) := by
  have hka : ((ka : Int) == 0) = false := by
    obtain ⟨A', k', c', h1, h2, h3⟩ := (ha w (Below.refl _ _)).len
    injection h1 with h1 h4
    subst h4
    rw [beq_eq_false_iff_ne]; intro h; exact hm0 (h2.1 (by omega))
  have hkb : ((kb : Int) == 0) = false := by
    obtain ⟨A', k', c', h1, h2, h3⟩ := (hb w (Below.refl _ _)).len
    injection h1 with h1 h4
    subst h4
    rw [beq_eq_false_iff_ne]; intro h; exact hn0 (h2.1 (by omega))
  have hl := fun (w1 : World) (h : Below w.heap.size w w1) => LevelRes.go (level_any s t A ka ca B kb cb m n e f w1 (ha.at h) (hb.at h) hm hn e0 e1 f0 f1)
  rw [hg] at hl
  have HL := Lib.hid hl
  have HM2 := Lib.hid hm2
  have HN2 := Lib.hid hn2
  have HG := Lib.hid hg
  clear ha hb hm hn hm0 hn0 hl hm2 hn2 hg
  have hci : cmpI (m * 2 ^ (e - g).toNat) (n * 2 ^ (f - g).toNat) = 0 := by unfold cmpI; rw [hc]; simp
  have hst2 : (s == t) = false := by cases s <;> cases t <;> first | rfl | exact absurd rfl hst
  have HC := Lib.hid hc
  have HCI := Lib.hid hci
  clear hc hst hci
  go_enter Try.func112, Try.ntmps112
  go_wp2_with (fail)
  go_at_call 136
  refine (HL.out _ (by (repeat' (first | (with_reducible exact Below.refl _ _) | (with_reducible assumption) | (with_reducible refine Later.belowOf _ ?_ ?_) | (with_reducible refine Below.alloc ?_ ?_ _) | (with_reducible refine Below.setCell ?_ ?_ _) | (with_reducible refine Below.drewN' _ ?_) | (with_reducible refine Below.drew ?_) | (with_reducible exact Ge.le) | go_size)))).mono ?_
  rintro _ _ ⟨A', k', c', B', l', d', q, hq1, hq2, rfl, rfl⟩
  have hq1' := hq1.out
  have hq2' := hq2.out
  go_wp2_with (fail)
  go_at_call 138
  have hcmp := fun (w1 : World) (h1 : Big w1 (.slice A' k' c') (m * 2 ^ (e - g).toNat)) (h2 : Big w1 (.slice B' l' d') (n * 2 ^ (f - g).toNat)) => IntRes.go (cmp_big h1 h2 HM2.out HN2.out)
  rw [HCI.out] at hcmp
  refine (hcmp _ (by (repeat (first | (with_reducible assumption) | (with_reducible refine Big.drew ?_) | (with_reducible refine Big.drewN ?_ _) | (with_reducible refine Big.alloc ?_ _) | (with_reducible refine Big.later ?_ _) | (with_reducible refine Big.setCell ?_ _ (by go_simp))))) (by (repeat (first | (with_reducible assumption) | (with_reducible refine Big.drew ?_) | (with_reducible refine Big.drewN ?_ _) | (with_reducible refine Big.alloc ?_ _) | (with_reducible refine Big.later ?_ _) | (with_reducible refine Big.setCell ?_ _ (by go_simp)))))).mono ?_
  rintro _ _ ⟨q5, rfl, rfl⟩
  clear hcmp
  go_wp2
  go_returns
  exact ⟨⟨_, _, _, rfl, big_nil _⟩, by (repeat' (first | (with_reducible exact Below.refl _ _) | (with_reducible assumption) | (with_reducible refine Later.belowOf _ ?_ ?_) | (with_reducible refine Below.alloc ?_ ?_ _) | (with_reducible refine Below.setCell ?_ ?_ _) | (with_reducible refine Below.drewN' _ ?_) | (with_reducible refine Below.drew ?_) | (with_reducible exact Ge.le) | go_size))⟩

set_option maxHeartbeats 4000000 in
set_option maxRecDepth 100000 in
theorem sum_gt (s t : Bool) (A : Option Addr) (ka ca : Nat) (B : Option Addr) (kb cb : Nat) (m n : Nat) (e f g : Int) (w : World) (hg : min e f = g) (ha : BigS w (.slice A ka ca) m) (hb : BigS w (.slice B kb cb) n) (hst : s ≠ t) (hc : n * 2 ^ (f - g).toNat < m * 2 ^ (e - g).toNat) (hm0 : m ≠ 0) (hn0 : n ≠ 0) (hm : m < bp 30000) (hn : n < bp 30000)
    (hm2 : m * 2 ^ (e - g).toNat < bp 30000) (hn2 : n * 2 ^ (f - g).toNat < bp 30000) (e0 : -100000 ≤ e) (e1 : e ≤ 100000) (f0 : -100000 ≤ f) (f1 : f ≤ 100000) :
    Calls Try.prog 112 #[(.agg #[.bool s, (.slice A ka ca), .int .i64 e]), (.agg #[.bool t, (.slice B kb cb), .int .i64 f])] w (NumRes s (m * 2 ^ (e - g).toNat - n * 2 ^ (f - g).toNat) g w) := by
  have hka : ((ka : Int) == 0) = false := by
    obtain ⟨A', k', c', h1, h2, h3⟩ := (ha w (Below.refl _ _)).len
    injection h1 with h1 h4
    subst h4
    rw [beq_eq_false_iff_ne]; intro h; exact hm0 (h2.1 (by omega))
  have hkb : ((kb : Int) == 0) = false := by
    obtain ⟨A', k', c', h1, h2, h3⟩ := (hb w (Below.refl _ _)).len
    injection h1 with h1 h4
    subst h4
    rw [beq_eq_false_iff_ne]; intro h; exact hn0 (h2.1 (by omega))
  have hl := fun (w1 : World) (h : Below w.heap.size w w1) => LevelRes.go (level_any s t A ka ca B kb cb m n e f w1 (ha.at h) (hb.at h) hm hn e0 e1 f0 f1)
  rw [hg] at hl
  have HL := Lib.hid hl
  have HM2 := Lib.hid hm2
  have HN2 := Lib.hid hn2
  have HG := Lib.hid hg
  clear ha hb hm hn hm0 hn0 hl hm2 hn2 hg
  have hci : cmpI (m * 2 ^ (e - g).toNat) (n * 2 ^ (f - g).toNat) = 1 := by unfold cmpI; rw [if_neg (by omega), if_pos hc]
  have hst2 : (s == t) = false := by cases s <;> cases t <;> first | rfl | exact absurd rfl hst
  have HC := Lib.hid hc
  have HCI := Lib.hid hci
  clear hc hst hci
  go_enter Try.func112, Try.ntmps112
  go_wp2_with (fail)
  go_at_call 136
  refine (HL.out _ (by (repeat' (first | (with_reducible exact Below.refl _ _) | (with_reducible assumption) | (with_reducible refine Later.belowOf _ ?_ ?_) | (with_reducible refine Below.alloc ?_ ?_ _) | (with_reducible refine Below.setCell ?_ ?_ _) | (with_reducible refine Below.drewN' _ ?_) | (with_reducible refine Below.drew ?_) | (with_reducible exact Ge.le) | go_size)))).mono ?_
  rintro _ _ ⟨A', k', c', B', l', d', q, hq1, hq2, rfl, rfl⟩
  have hq1' := hq1.out
  have hq2' := hq2.out
  go_wp2_with (fail)
  go_at_call 138
  have hcmp := fun (w1 : World) (h1 : Big w1 (.slice A' k' c') (m * 2 ^ (e - g).toNat)) (h2 : Big w1 (.slice B' l' d') (n * 2 ^ (f - g).toNat)) => IntRes.go (cmp_big h1 h2 HM2.out HN2.out)
  rw [HCI.out] at hcmp
  refine (hcmp _ (by (repeat (first | (with_reducible assumption) | (with_reducible refine Big.drew ?_) | (with_reducible refine Big.drewN ?_ _) | (with_reducible refine Big.alloc ?_ _) | (with_reducible refine Big.later ?_ _) | (with_reducible refine Big.setCell ?_ _ (by go_simp))))) (by (repeat (first | (with_reducible assumption) | (with_reducible refine Big.drew ?_) | (with_reducible refine Big.drewN ?_ _) | (with_reducible refine Big.alloc ?_ _) | (with_reducible refine Big.later ?_ _) | (with_reducible refine Big.setCell ?_ _ (by go_simp)))))).mono ?_
  rintro _ _ ⟨q5, rfl, rfl⟩
  clear hcmp
  go_wp2
  go_region_held3 (fun w' => w'.cell? ⟨q.val.heap.size, 0, none⟩ = some (.bool s) ∧ w'.cell? ⟨q.val.heap.size, 1, none⟩ = some (.slice A' k' c') ∧ w'.cell? ⟨q.val.heap.size, 2, none⟩ = some (.int .i64 g) ∧ w'.cell? ⟨q.val.heap.size + 1, 0, none⟩ = some (.bool t) ∧ w'.cell? ⟨q.val.heap.size + 1, 1, none⟩ = some (.slice B' l' d'))
    (first | (go_simp; done) | go_keep)
    ((go_at_call 139; refine (BigRes.go (less_big (by (repeat (first | (with_reducible assumption) | (with_reducible refine Big.drew ?_) | (with_reducible refine Big.drewN ?_ _) | (with_reducible refine Big.alloc ?_ _) | (with_reducible refine Big.later ?_ _) | (with_reducible refine Big.setCell ?_ _ (by go_simp))))) (by (repeat (first | (with_reducible assumption) | (with_reducible refine Big.drew ?_) | (with_reducible refine Big.drewN ?_ _) | (with_reducible refine Big.alloc ?_ _) | (with_reducible refine Big.later ?_ _) | (with_reducible refine Big.setCell ?_ _ (by go_simp))))) HM2.out (Nat.le_of_lt HC.out))).mono ?_; rintro _ _ ⟨A2, k2, c2, q2, hq3, hk3, hk4, rfl, rfl⟩))
  all_goals
    rename_i hHeld
    clear hHeld
    go_wp2
    go_returns
    have hq3' := hq3.out
    exact ⟨⟨_, _, _, rfl, by (repeat (first | (with_reducible assumption) | (with_reducible refine Big.drew ?_) | (with_reducible refine Big.drewN ?_ _) | (with_reducible refine Big.alloc ?_ _) | (with_reducible refine Big.later ?_ _) | (with_reducible refine Big.setCell ?_ _ (by go_simp))))⟩, by (repeat' (first | (with_reducible exact Below.refl _ _) | (with_reducible assumption) | (with_reducible refine Later.belowOf _ ?_ ?_) | (with_reducible refine Below.alloc ?_ ?_ _) | (with_reducible refine Below.setCell ?_ ?_ _) | (with_reducible refine Below.drewN' _ ?_) | (with_reducible refine Below.drew ?_) | (with_reducible exact Ge.le) | go_size))⟩

set_option maxHeartbeats 4000000 in
set_option maxRecDepth 100000 in
theorem sum_lt (s t : Bool) (A : Option Addr) (ka ca : Nat) (B : Option Addr) (kb cb : Nat) (m n : Nat) (e f g : Int) (w : World) (hg : min e f = g) (ha : BigS w (.slice A ka ca) m) (hb : BigS w (.slice B kb cb) n) (hst : s ≠ t) (hc : m * 2 ^ (e - g).toNat < n * 2 ^ (f - g).toNat) (hm0 : m ≠ 0) (hn0 : n ≠ 0) (hm : m < bp 30000) (hn : n < bp 30000)
    (hm2 : m * 2 ^ (e - g).toNat < bp 30000) (hn2 : n * 2 ^ (f - g).toNat < bp 30000) (e0 : -100000 ≤ e) (e1 : e ≤ 100000) (f0 : -100000 ≤ f) (f1 : f ≤ 100000) :
    Calls Try.prog 112 #[(.agg #[.bool s, (.slice A ka ca), .int .i64 e]), (.agg #[.bool t, (.slice B kb cb), .int .i64 f])] w (NumRes t (n * 2 ^ (f - g).toNat - m * 2 ^ (e - g).toNat) g w) := by
  have hka : ((ka : Int) == 0) = false := by
    obtain ⟨A', k', c', h1, h2, h3⟩ := (ha w (Below.refl _ _)).len
    injection h1 with h1 h4
    subst h4
    rw [beq_eq_false_iff_ne]; intro h; exact hm0 (h2.1 (by omega))
  have hkb : ((kb : Int) == 0) = false := by
    obtain ⟨A', k', c', h1, h2, h3⟩ := (hb w (Below.refl _ _)).len
    injection h1 with h1 h4
    subst h4
    rw [beq_eq_false_iff_ne]; intro h; exact hn0 (h2.1 (by omega))
  have hl := fun (w1 : World) (h : Below w.heap.size w w1) => LevelRes.go (level_any s t A ka ca B kb cb m n e f w1 (ha.at h) (hb.at h) hm hn e0 e1 f0 f1)
  rw [hg] at hl
  have HL := Lib.hid hl
  have HM2 := Lib.hid hm2
  have HN2 := Lib.hid hn2
  have HG := Lib.hid hg
  clear ha hb hm hn hm0 hn0 hl hm2 hn2 hg
  have hci : cmpI (m * 2 ^ (e - g).toNat) (n * 2 ^ (f - g).toNat) = (-1) := by unfold cmpI; rw [if_pos hc]
  have hst2 : (s == t) = false := by cases s <;> cases t <;> first | rfl | exact absurd rfl hst
  have HC := Lib.hid hc
  have HCI := Lib.hid hci
  clear hc hst hci
  go_enter Try.func112, Try.ntmps112
  go_wp2_with (fail)
  go_at_call 136
  refine (HL.out _ (by (repeat' (first | (with_reducible exact Below.refl _ _) | (with_reducible assumption) | (with_reducible refine Later.belowOf _ ?_ ?_) | (with_reducible refine Below.alloc ?_ ?_ _) | (with_reducible refine Below.setCell ?_ ?_ _) | (with_reducible refine Below.drewN' _ ?_) | (with_reducible refine Below.drew ?_) | (with_reducible exact Ge.le) | go_size)))).mono ?_
  rintro _ _ ⟨A', k', c', B', l', d', q, hq1, hq2, rfl, rfl⟩
  have hq1' := hq1.out
  have hq2' := hq2.out
  go_wp2_with (fail)
  go_at_call 138
  have hcmp := fun (w1 : World) (h1 : Big w1 (.slice A' k' c') (m * 2 ^ (e - g).toNat)) (h2 : Big w1 (.slice B' l' d') (n * 2 ^ (f - g).toNat)) => IntRes.go (cmp_big h1 h2 HM2.out HN2.out)
  rw [HCI.out] at hcmp
  refine (hcmp _ (by (repeat (first | (with_reducible assumption) | (with_reducible refine Big.drew ?_) | (with_reducible refine Big.drewN ?_ _) | (with_reducible refine Big.alloc ?_ _) | (with_reducible refine Big.later ?_ _) | (with_reducible refine Big.setCell ?_ _ (by go_simp))))) (by (repeat (first | (with_reducible assumption) | (with_reducible refine Big.drew ?_) | (with_reducible refine Big.drewN ?_ _) | (with_reducible refine Big.alloc ?_ _) | (with_reducible refine Big.later ?_ _) | (with_reducible refine Big.setCell ?_ _ (by go_simp)))))).mono ?_
  rintro _ _ ⟨q5, rfl, rfl⟩
  clear hcmp
  go_wp2
  go_region_held3 (fun w' => w'.cell? ⟨q.val.heap.size, 0, none⟩ = some (.bool s) ∧ w'.cell? ⟨q.val.heap.size, 1, none⟩ = some (.slice A' k' c') ∧ w'.cell? ⟨q.val.heap.size, 2, none⟩ = some (.int .i64 g) ∧ w'.cell? ⟨q.val.heap.size + 1, 0, none⟩ = some (.bool t) ∧ w'.cell? ⟨q.val.heap.size + 1, 1, none⟩ = some (.slice B' l' d'))
    (first | (go_simp; done) | go_keep)
    ((go_at_call 139; refine (BigRes.go (less_big (by (repeat (first | (with_reducible assumption) | (with_reducible refine Big.drew ?_) | (with_reducible refine Big.drewN ?_ _) | (with_reducible refine Big.alloc ?_ _) | (with_reducible refine Big.later ?_ _) | (with_reducible refine Big.setCell ?_ _ (by go_simp))))) (by (repeat (first | (with_reducible assumption) | (with_reducible refine Big.drew ?_) | (with_reducible refine Big.drewN ?_ _) | (with_reducible refine Big.alloc ?_ _) | (with_reducible refine Big.later ?_ _) | (with_reducible refine Big.setCell ?_ _ (by go_simp))))) HN2.out (Nat.le_of_lt HC.out))).mono ?_; rintro _ _ ⟨A2, k2, c2, q2, hq3, hk3, hk4, rfl, rfl⟩))
  all_goals
    rename_i hHeld
    clear hHeld
    go_wp2
    go_returns
    have hq3' := hq3.out
    exact ⟨⟨_, _, _, rfl, by (repeat (first | (with_reducible assumption) | (with_reducible refine Big.drew ?_) | (with_reducible refine Big.drewN ?_ _) | (with_reducible refine Big.alloc ?_ _) | (with_reducible refine Big.later ?_ _) | (with_reducible refine Big.setCell ?_ _ (by go_simp))))⟩, by (repeat' (first | (with_reducible exact Below.refl _ _) | (with_reducible assumption) | (with_reducible refine Later.belowOf _ ?_ ?_) | (with_reducible refine Below.alloc ?_ ?_ _) | (with_reducible refine Below.setCell ?_ ?_ _) | (with_reducible refine Below.drewN' _ ?_) | (with_reducible refine Below.drew ?_) | (with_reducible exact Ge.le) | go_size))⟩


set_option maxHeartbeats 4000000 in
theorem sum_zero1b (s t : Bool) (A : Option Addr) (ka ca : Nat) (B : Option Addr) (kb cb : Nat) (n : Nat) (e f : Int) (w : World) (ha : BigS w (.slice A ka ca) 0) (hb : BigS w (.slice B kb cb) n) :
    Calls Try.prog 112 #[(.agg #[.bool s, (.slice A ka ca), .int .i64 e]), (.agg #[.bool t, (.slice B kb cb), .int .i64 f])] w (NumRes t n f w) := by
  obtain ⟨A', k', c', h1, h2, h3⟩ := (ha w (Below.refl _ _)).len
  injection h1 with h1 h4
  subst h4
  obtain rfl := h2.2 rfl
  have HB := Lib.hid hb
  clear ha hb h1 h2 h3
  go_enter Try.func112, Try.ntmps112
  go_wp2
  go_returns
  exact ⟨⟨_, _, _, rfl, HB.out _ (by (repeat' (first | (with_reducible exact Below.refl _ _) | (with_reducible assumption) | (with_reducible refine Later.belowOf _ ?_ ?_) | (with_reducible refine Below.alloc ?_ ?_ _) | (with_reducible refine Below.setCell ?_ ?_ _) | (with_reducible refine Below.drewN' _ ?_) | (with_reducible refine Below.drew ?_) | (with_reducible exact Ge.le) | go_size)))⟩, by (repeat' (first | (with_reducible exact Below.refl _ _) | (with_reducible assumption) | (with_reducible refine Later.belowOf _ ?_ ?_) | (with_reducible refine Below.alloc ?_ ?_ _) | (with_reducible refine Below.setCell ?_ ?_ _) | (with_reducible refine Below.drewN' _ ?_) | (with_reducible refine Below.drew ?_) | (with_reducible exact Ge.le) | go_size))⟩
set_option maxHeartbeats 4000000 in
theorem sum_zero2b (s t : Bool) (A : Option Addr) (ka ca : Nat) (B : Option Addr) (kb cb : Nat) (m : Nat) (e f : Int) (w : World) (ha : BigS w (.slice A ka ca) m) (hb : BigS w (.slice B kb cb) 0) (hm0 : m ≠ 0) :
    Calls Try.prog 112 #[(.agg #[.bool s, (.slice A ka ca), .int .i64 e]), (.agg #[.bool t, (.slice B kb cb), .int .i64 f])] w (NumRes s m e w) := by
  have hka : ((ka : Int) == 0) = false := by
    obtain ⟨A', k', c', h1, h2, h3⟩ := (ha w (Below.refl _ _)).len
    injection h1 with h1 h4
    subst h4
    rw [beq_eq_false_iff_ne]; intro h; exact hm0 (h2.1 (by omega))
  obtain ⟨A', k', c', h1, h2, h3⟩ := (hb w (Below.refl _ _)).len
  injection h1 with h1 h4
  subst h4
  obtain rfl := h2.2 rfl
  have HA := Lib.hid ha
  clear ha hb h1 h2 h3 hm0
  go_enter Try.func112, Try.ntmps112
  go_wp2
  go_returns
  exact ⟨⟨_, _, _, rfl, HA.out _ (by (repeat' (first | (with_reducible exact Below.refl _ _) | (with_reducible assumption) | (with_reducible refine Later.belowOf _ ?_ ?_) | (with_reducible refine Below.alloc ?_ ?_ _) | (with_reducible refine Below.setCell ?_ ?_ _) | (with_reducible refine Below.drewN' _ ?_) | (with_reducible refine Below.drew ?_) | (with_reducible exact Ge.le) | go_size)))⟩, by (repeat' (first | (with_reducible exact Below.refl _ _) | (with_reducible assumption) | (with_reducible refine Later.belowOf _ ?_ ?_) | (with_reducible refine Below.alloc ?_ ?_ _) | (with_reducible refine Below.setCell ?_ ?_ _) | (with_reducible refine Below.drewN' _ ?_) | (with_reducible refine Below.drew ?_) | (with_reducible exact Ge.le) | go_size))⟩

/-- **A sum.** -/
theorem bsum_any {K : Int} (s t : Bool) (A : Option Addr) (ka ca : Nat) (B : Option Addr) (kb cb : Nat) (m n : Nat) (e f : Int) (w : World) (ha : BigS w (.slice A ka ca) m) (hb : BigS w (.slice B kb cb) n) (hm : m < bp 30000) (hn : n < bp 30000)
    (hm2 : m * 2 ^ (e - min e f).toNat < bp 30000) (hn2 : n * 2 ^ (f - min e f).toNat < bp 30000) (e0 : -100000 ≤ e) (e1 : e ≤ 100000) (f0 : -100000 ≤ f) (f1 : f ≤ 100000) (hK : 0 ≤ K) (he : 0 ≤ e + K) (hf : 0 ≤ f + K) :
    ∃ r p g, nv K r p g = nv K s m e + nv K t n f ∧ (g = e ∨ g = f ∨ g = 0) ∧ p ≤ m * 2 ^ (e - min e f).toNat + n * 2 ^ (f - min e f).toNat ∧ Calls Try.prog 112 #[(.agg #[.bool s, (.slice A ka ca), .int .i64 e]), (.agg #[.bool t, (.slice B kb cb), .int .i64 f])] w (NumRes r p g w) := by
  have le1 : ∀ (x : Nat) (d : Int), x ≤ x * 2 ^ d.toNat := fun x d => Nat.le_mul_of_pos_right _ (Nat.two_pow_pos _)
  by_cases hm0 : m = 0
  · subst hm0
    exact ⟨t, n, f, by rw [nv_zero, Int.zero_add], Or.inr (Or.inl rfl), by have := le1 n (f - min e f); omega, sum_zero1b s t A ka ca B kb cb n e f w ha hb⟩
  · by_cases hn0 : n = 0
    · subst hn0
      exact ⟨s, m, e, by rw [nv_zero, Int.add_zero], Or.inl rfl, by have := le1 m (e - min e f); omega, sum_zero2b s t A ka ca B kb cb m e f w ha hb hm0⟩
    · obtain ⟨g, hg⟩ : ∃ g, min e f = g := ⟨_, rfl⟩
      have hgg : g = e ∨ g = f ∨ g = 0 := by omega
      obtain ⟨v1, v2, v3⟩ := sum_nv (K := K) s t m n e f he hf
      rw [hg] at v1 v2 v3 hm2 hn2 ⊢
      by_cases hst : s = t
      · subst hst
        exact ⟨s, _, g, v1 rfl, hgg, Nat.le_refl _, sum_same s A ka ca B kb cb m n e f g w hg ha hb hm0 hn0 hm hn hm2 hn2 e0 e1 f0 f1⟩
      · rcases Nat.lt_trichotomy (m * 2 ^ (e - g).toNat) (n * 2 ^ (f - g).toNat) with h | h | h
        · exact ⟨t, _, g, v3 hst (Nat.le_of_lt h), hgg, by omega, sum_lt s t A ka ca B kb cb m n e f g w hg ha hb hst h hm0 hn0 hm hn hm2 hn2 e0 e1 f0 f1⟩
        · refine ⟨false, 0, 0, ?_, Or.inr (Or.inr rfl), Nat.zero_le _, sum_null s t A ka ca B kb cb m n e f g w hg ha hb hst h hm0 hn0 hm hn hm2 hn2 e0 e1 f0 f1⟩
          rw [← v2 hst (Nat.le_of_eq h.symm), h, Nat.sub_self, nv_zero, nv_zero]
        · exact ⟨s, _, g, v2 hst (Nat.le_of_lt h), hgg, by omega, sum_gt s t A ka ca B kb cb m n e f g w hg ha hb hst h hm0 hn0 hm hn hm2 hn2 e0 e1 f0 f1⟩
end Go.Proofs.Ytjdccbigaahkeaa
