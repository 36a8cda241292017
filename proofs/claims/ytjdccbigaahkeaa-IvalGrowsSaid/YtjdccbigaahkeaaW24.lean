/- Contracts: the reference's numbers: products, sums. -/
import Derived.Test.YtjdccbigaahkeaaW23
import Derived.Test.YtjdccbigaahkeaaFlE
namespace Go.Proofs.Ytjdccbigaahkeaa
set_option linter.unusedSimpArgs false
set_option linter.unusedVariables false
open Go.RowKit
open Fl

def NumRes (s : Bool) (m : Nat) (e : Int) (w : World) (E : Ending) (w' : World) : Prop :=
  (∃ (A : Option Addr) (k c : Nat), E = .returned (.agg #[.bool s, (.slice A k c), .int .i64 e]) ∧ Big w' (.slice A k c) m) ∧ Below w.heap.size w w'
theorem NumRes.go {f : FuncId} {args : Array Value} {s : Bool} {m : Nat} {e : Int} {w : World} (h : Calls Try.prog f args w (NumRes s m e w)) : Calls Try.prog f args w fun E w' => ∃ (A : Option Addr) (k c : Nat) (q : Later w), Hid (Big q.val (.slice A k c) m) ∧ E = .returned (.agg #[.bool s, (.slice A k c), .int .i64 e]) ∧ w' = q.val :=
  h.mono fun _ w' ⟨⟨A, k, c, he, hb⟩, hbl⟩ => ⟨A, k, c, ⟨w', hbl⟩, hb, he, rfl⟩

theorem big_nil (w : World) : Big w (.slice none 0 0) 0 := ⟨[], ⟨none, 0, rfl, Nat.le_refl _, by decide, fun i hi => by simp at hi⟩, dig_nil, fun h => by simp at h, rfl⟩

set_option maxHeartbeats 4000000 in
set_option maxRecDepth 100000 in
theorem product_any (s t : Bool) (A : Option Addr) (ka ca : Nat) (B : Option Addr) (kb cb : Nat) (m n : Nat) (e f : Int) (w : World) (ha : BigS w (.slice A ka ca) m) (hb : BigS w (.slice B kb cb) n) (hm : m < bp 30000) (hn : n < bp 30000)
    (e0 : -100000 ≤ e) (e1 : e ≤ 100000) (f0 : -100000 ≤ f) (f1 : f ≤ 100000) :
    Calls Try.prog 109 #[(.agg #[.bool s, (.slice A ka ca), .int .i64 e]), (.agg #[.bool t, (.slice B kb cb), .int .i64 f])] w (NumRes (prodS s t m n) (m * n) (prodE m n e f) w) := by
  have HA := Lib.hid ha
  have HB := Lib.hid hb
  have HM := Lib.hid hm
  have HN := Lib.hid hn
  clear ha hb hm hn
  by_cases hz : m * n = 0
  · have H := Lib.hid hz
    clear hz
    go_enter Try.func109, Try.ntmps109
    go_wp2_with (fail)
    go_at_call 133
    refine (BigRes.go (by_big (HA.out _ (by (repeat' (first | (with_reducible exact Below.refl _ _) | (with_reducible assumption) | (with_reducible refine Later.belowOf _ ?_ ?_) | (with_reducible refine Below.alloc ?_ ?_ _) | (with_reducible refine Below.setCell ?_ ?_ _) | (with_reducible refine Below.drewN' _ ?_) | (with_reducible refine Below.drew ?_) | (with_reducible exact Ge.le) | go_size)))) (HB.out _ (by (repeat' (first | (with_reducible exact Below.refl _ _) | (with_reducible assumption) | (with_reducible refine Later.belowOf _ ?_ ?_) | (with_reducible refine Below.alloc ?_ ?_ _) | (with_reducible refine Below.setCell ?_ ?_ _) | (with_reducible refine Below.drewN' _ ?_) | (with_reducible refine Below.drew ?_) | (with_reducible exact Ge.le) | go_size)))) HM.out HN.out)).mono ?_
    rintro _ _ ⟨A', k', c', q, hq, hk, hk2, rfl, rfl⟩
    obtain rfl := hk.out.2 H.out
    go_wp2
    go_returns
    unfold NumRes prodS prodE
    rw [H.out, if_pos rfl, if_pos rfl]
    exact ⟨⟨_, _, _, rfl, big_nil _⟩, by (repeat' (first | (with_reducible exact Below.refl _ _) | (with_reducible assumption) | (with_reducible refine Later.belowOf _ ?_ ?_) | (with_reducible refine Below.alloc ?_ ?_ _) | (with_reducible refine Below.setCell ?_ ?_ _) | (with_reducible refine Below.drewN' _ ?_) | (with_reducible refine Below.drew ?_) | (with_reducible exact Ge.le) | go_size))⟩
  · have H := Lib.hid hz
    clear hz
    cases s <;> cases t
    all_goals
      go_enter Try.func109, Try.ntmps109
      go_wp2_with (fail)
      go_at_call 133
      refine (BigRes.go (by_big (HA.out _ (by (repeat' (first | (with_reducible exact Below.refl _ _) | (with_reducible assumption) | (with_reducible refine Later.belowOf _ ?_ ?_) | (with_reducible refine Below.alloc ?_ ?_ _) | (with_reducible refine Below.setCell ?_ ?_ _) | (with_reducible refine Below.drewN' _ ?_) | (with_reducible refine Below.drew ?_) | (with_reducible exact Ge.le) | go_size)))) (HB.out _ (by (repeat' (first | (with_reducible exact Below.refl _ _) | (with_reducible assumption) | (with_reducible refine Later.belowOf _ ?_ ?_) | (with_reducible refine Below.alloc ?_ ?_ _) | (with_reducible refine Below.setCell ?_ ?_ _) | (with_reducible refine Below.drewN' _ ?_) | (with_reducible refine Below.drew ?_) | (with_reducible exact Ge.le) | go_size)))) HM.out HN.out)).mono ?_
      rintro _ _ ⟨A', k', c', q, hq, hk, hk2, rfl, rfl⟩
      have hk3 : ((k' : Int) == 0) = false := by rw [beq_eq_false_iff_ne]; intro h; exact H.out (hk.out.1 (by omega))
      go_wp2
      go_returns
      unfold NumRes prodS prodE
      rw [if_neg H.out, if_neg H.out]
      have hq1 := hq.out
      exact ⟨⟨_, _, _, rfl, by (repeat (first | (with_reducible assumption) | (with_reducible refine Big.drew ?_) | (with_reducible refine Big.drewN ?_ _) | (with_reducible refine Big.alloc ?_ _) | (with_reducible refine Big.later ?_ _) | (with_reducible refine Big.setCell ?_ _ (by go_simp))))⟩, by (repeat' (first | (with_reducible exact Below.refl _ _) | (with_reducible assumption) | (with_reducible refine Later.belowOf _ ?_ ?_) | (with_reducible refine Below.alloc ?_ ?_ _) | (with_reducible refine Below.setCell ?_ ?_ _) | (with_reducible refine Below.drewN' _ ?_) | (with_reducible refine Below.drew ?_) | (with_reducible exact Ge.le) | go_size))⟩
end Go.Proofs.Ytjdccbigaahkeaa
