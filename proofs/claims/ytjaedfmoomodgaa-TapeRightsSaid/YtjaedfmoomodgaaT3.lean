/- Contracts: a tape's outs; whether it may be. -/
import Derived.Test.YtjaedfmoomodgaaT2
import Derived.Deep.LoopGhost
import Derived.LoopTactic
namespace Go.Proofs.Ytjaedfmoomodgaa
set_option linter.unusedSimpArgs false
set_option linter.unusedVariables false
open Go.RowKit
open Fl

/-- A slice of numbers, and one of operations, as they lie. -/
def OutsAt (w : World) (v : Value) (outs : Nat → Int) (n : Nat) : Prop :=
  ∃ A c, v = .slice A n c ∧ ∀ i, i < n → ∃ b o, A = some ⟨b, o, none⟩ ∧ w.cell? ⟨b, o + i, none⟩ = some (.int .i64 (outs i))
structure OpT where
  K : Int
  A : Int
  B : Int
  N : Int
  lo : Nat
  hi : Nat
def OpsAt (w : World) (v : Value) (ops : Nat → OpT) (n : Nat) : Prop :=
  ∃ A c, v = .slice A n c ∧ ∀ i, i < n → ∃ b o, A = some ⟨b, o, none⟩ ∧ (ops i).lo < 18446744073709551616 ∧ (ops i).hi < 18446744073709551616
    ∧ w.cell? ⟨b, o + i * 6, none⟩ = some (.int .i64 (ops i).K) ∧ w.cell? ⟨b, o + i * 6 + 1, none⟩ = some (.int .i64 (ops i).A) ∧ w.cell? ⟨b, o + i * 6 + 2, none⟩ = some (.int .i64 (ops i).B)
    ∧ w.cell? ⟨b, o + i * 6 + 3, none⟩ = some (.int .i64 (ops i).N) ∧ w.cell? ⟨b, o + i * 6 + 4, none⟩ = some (.float .f64 ((ops i).lo)) ∧ w.cell? ⟨b, o + i * 6 + 5, none⟩ = some (.float .f64 ((ops i).hi))

theorem cellBelow {w w' : World} {b o : Nat} {v : Value} (hb : Below w.heap.size w w') (h : w.cell? ⟨b, o, none⟩ = some v) : w'.cell? ⟨b, o, none⟩ = some v :=
  (hb.cell (World.block_lt_of_cell? w _ h)).trans h
theorem OutsAt.below {w w' : World} {v : Value} {outs : Nat → Int} {n : Nat} (h : OutsAt w v outs n) (hb : Below w.heap.size w w') : OutsAt w' v outs n := by
  obtain ⟨A, c, e, h⟩ := h
  refine ⟨A, c, e, fun i hi => ?_⟩
  obtain ⟨b, o, e2, h2⟩ := h i hi
  exact ⟨b, o, e2, cellBelow hb h2⟩
theorem OpsAt.below {w w' : World} {v : Value} {ops : Nat → OpT} {n : Nat} (h : OpsAt w v ops n) (hb : Below w.heap.size w w') : OpsAt w' v ops n := by
  obtain ⟨A, c, e, h⟩ := h
  refine ⟨A, c, e, fun i hi => ?_⟩
  obtain ⟨b, o, e2, l1, l2, h0, h1, h2, h3, h4, h5⟩ := h i hi
  exact ⟨b, o, e2, l1, l2, cellBelow hb h0, cellBelow hb h1, cellBelow hb h2, cellBelow hb h3, cellBelow hb h4, cellBelow hb h5⟩

/-- The number of no operation. -/
def badO (nO : Nat) (n : Int) : Bool := decide (n < 0) || decide ((nO : Int) ≤ n)

set_option maxHeartbeats 1000000 in
theorem closure_any (n : Int) (B : Nat) (A : Option Addr) (nO c : Nat) (w : World) (h : w.cell? ⟨B, 1, none⟩ = some (.slice A nO c)) :
    Calls Try.prog 12 #[.int .i64 n, .pointer (some ⟨B, 0, none⟩)] w fun e w' => e = .returned (.bool (badO nO n)) ∧ Below w.heap.size w w' := by
  unfold badO
  by_cases h1 : n < 0
  · go_enter Try.func12, Try.ntmps12
    go_wp2
    go_ret
    exact ⟨ret_bool (by simp [h1]), by (repeat' (first | (with_reducible exact Below.refl _ _) | (with_reducible assumption) | (with_reducible refine Later.belowOf _ ?_ ?_) | (with_reducible refine Below.alloc ?_ ?_ _) | (with_reducible refine Below.setCell ?_ ?_ _) | (with_reducible refine Below.drewN' _ ?_) | (with_reducible refine Below.drew ?_) | (with_reducible exact Ge.le) | go_size))⟩
  · go_enter Try.func12, Try.ntmps12
    go_wp2
    go_ret
    exact ⟨ret_bool (by rw [show decide (n < 0) = false by simp; omega]; simp), by (repeat' (first | (with_reducible exact Below.refl _ _) | (with_reducible assumption) | (with_reducible refine Later.belowOf _ ?_ ?_) | (with_reducible refine Below.alloc ?_ ?_ _) | (with_reducible refine Below.setCell ?_ ?_ _) | (with_reducible refine Below.drewN' _ ?_) | (with_reducible refine Below.drew ?_) | (with_reducible exact Ge.le) | go_size))⟩

def IdxInv (W : World) (outs : Nat → Int) (n nO : Nat) (i : Value) (w : World) : Prop :=
  ∃ k : Nat, i = .int .i64 k ∧ k ≤ n ∧ (∀ j, j < k → badO nO (outs j) = false) ∧ Below W.heap.size W w

set_option maxHeartbeats 2000000 in
theorem indexf_any (v : Value) (outs : Nat → Int) (n B : Nat) (A : Option Addr) (nO c : Nat) (w : World) (hl : n ≤ 1000000) (hv : OutsAt w v outs n) (h : w.cell? ⟨B, 1, none⟩ = some (.slice A nO c)) :
    Calls Try.prog 24 #[v, .func (.func 12) #[] #[.pointer (some ⟨B, 0, none⟩)]] w fun e w' => (∃ r, e = .returned (.int .i64 r) ∧ (0 ≤ r ↔ ∃ j, j < n ∧ badO nO (outs j) = true)) ∧ Below w.heap.size w w' := by
  obtain ⟨A2, c2, rfl, hv⟩ := hv
  have HV := Lib.hid hv
  clear hv
  go_enter Try.func24, Try.ntmps24
  go_wp2
  go_loopw [8] (fun i wr => IdxInv w outs n nO i wr) (fun i _ => n - (intOf i).toNat)
  case atStart => exact ⟨0, rfl, Nat.zero_le _, fun j hj => by omega, Below.refl _ _⟩
  case round =>
    obtain ⟨k, rfl, hk, hE, hbel⟩ := hrel
    have HE := Lib.hid hE
    clear hE
    have hk2 : (k : Int) ≤ 1000000 := by omega
    by_cases h1 : k < n
    · obtain ⟨b1, o1, eA, c1⟩ := HV.out k h1
      subst eA
      replace c1 := cellBelow hbel c1
      have hc := cellBelow hbel h
      have ca := closure_any (outs k) B A nO c wr hc
      generalize hx : outs k = x at *
      have HX := Lib.hid hx
      clear hx
      rcases fot (badO nO x) with h2 | h2
      · rw [h2] at ca
        go_wp2_with (go_at_call 12; refine ca.mono ?_; rintro _ w1 ⟨rfl, hb1⟩)
        go_roundw
        case rel => exact ⟨k + 1, by go_num, h1, fun j hj => by rcases Nat.lt_succ_iff_lt_or_eq.1 hj with h | h; exact HE.out j h; rw [h, HX.out]; exact h2, hbel.trans (hb1.mono hbel.size)⟩
        case measure => simp [intOf]; omega
      · rw [h2] at ca
        go_wp2_with (go_at_call 12; refine ca.mono ?_; rintro _ w1 ⟨rfl, hb1⟩)
        go_ret
        exact ⟨⟨_, rfl, by constructor; (intro _; exact ⟨k, h1, by rw [HX.out]; exact h2⟩); (intro _; omega)⟩, hbel.trans (hb1.mono hbel.size)⟩
    · go_wp2
      go_ret
      exact ⟨⟨_, rfl, by constructor; (intro hh; omega); (rintro ⟨j, hj, hb⟩; have := HE.out j (by omega); rw [hb] at this; cases this)⟩, hbel⟩

open Classical in
set_option maxHeartbeats 1000000 in
theorem contains_any (v : Value) (outs : Nat → Int) (n B : Nat) (A : Option Addr) (nO c : Nat) (w : World) (hl : n ≤ 1000000) (hv : OutsAt w v outs n) (h : w.cell? ⟨B, 1, none⟩ = some (.slice A nO c)) :
    Calls Try.prog 11 #[v, .func (.func 12) #[] #[.pointer (some ⟨B, 0, none⟩)]] w fun e w' => e = .returned (.bool (decide (∃ j, j < n ∧ badO nO (outs j) = true))) ∧ Below w.heap.size w w' := by
  have ix := indexf_any v outs n B A nO c w hl hv h
  clear hv h
  go_enter Try.func11, Try.ntmps11
  go_wp2_with (go_at_call 24; refine ix.mono ?_; rintro _ w1 ⟨⟨r, rfl, hr⟩, hb1⟩)
  go_ret
  exact ⟨ret_bool (by simp [← hr]), by (repeat' (first | (with_reducible exact Below.refl _ _) | (with_reducible assumption) | (with_reducible refine Later.belowOf _ ?_ ?_) | (with_reducible refine Below.alloc ?_ ?_ _) | (with_reducible refine Below.setCell ?_ ?_ _) | (with_reducible refine Below.drewN' _ ?_) | (with_reducible refine Below.drew ?_) | (with_reducible exact Ge.le) | go_size))⟩
end Go.Proofs.Ytjaedfmoomodgaa
