/- slices.Backward over the operations: a range over a function. -/
import Derived.RangeFuncNested
import Derived.RangeFuncBound
import Derived.RangeFuncCalls
import Derived.RangeFuncLeaves
import Derived.Shelf.Abstract
import Derived.Shelf.RegionOpen
import Derived.OwnWalkIn
import Derived.TacticsInMore
import Derived.LoopNIn
import Derived.LoopIn
import Derived.Test.YtpkgpkabmechkaaM3
namespace Go.Proofs.Ytpkgpkabmechkaa
set_option linter.unusedSimpArgs false
set_option linter.unusedVariables false
open Go.RowKit Go.Shelf
open Fl
attribute [local go_sem] Oper.semAt_some

/-- The places of a row from its end. -/
def revs (n : Nat) : List (Fin n) := (List.finRange n).reverse
theorem revs_len (n : Nat) : (revs n).length = n := by simp [revs]
theorem revs_get {n k : Nat} (h : k < n) : (revs n)[k]'(by rw [revs_len]; exact h) = ⟨n - 1 - k, by omega⟩ := by
  simp [revs]
theorem revs_take {n k : Nat} (h : k < n) : (revs n).take (k + 1) = (revs n).take k ++ [⟨n - 1 - k, by omega⟩] := by
  rw [← revs_get h, List.take_append_getElem]
def foldU {n : Nat} (ops : Nat → OpT) (u0 : Nat → Bool) (pre : List (Fin n)) : Nat → Bool := pre.foldl (fun u i => stepU (ops i.val) i.val u) u0
theorem foldU_snoc {n : Nat} (ops : Nat → OpT) (u0 : Nat → Bool) (pre : List (Fin n)) (i : Fin n) : foldU ops u0 (pre ++ [i]) = stepU (ops i.val) i.val (foldU ops u0 pre) := by simp [foldU]
theorem foldU_take (ops : Nat → OpT) (u0 : Nat → Bool) (n : Nat) : ∀ k, k ≤ n → foldU ops u0 ((revs n).take k) = backU ops n u0 k
  | 0, _ => rfl
  | k + 1, h => by
    rw [revs_take (by omega), foldU_snoc, foldU_take ops u0 n k (by omega)]
    rfl
theorem foldU_all (ops : Nat → OpT) (u0 : Nat → Bool) (n : Nat) : foldU ops u0 (revs n) = backU ops n u0 n := by
  rw [← foldU_take ops u0 n n (Nat.le_refl _), List.take_of_length_le (by rw [revs_len]; exact Nat.le_refl _)]

def encB {n : Nat} (ops : Nat → OpT) (x : Fin n) : Array Value := #[.int .i64 (x.val : Int), opV (ops x.val)]

set_option maxRecDepth 100000 in
set_option maxHeartbeats 4000000 in
theorem back1_in (F : Fence) (n : Nat) (h8 : F.fn 21) (hro : F.round = none) (hn : 1 ≤ n) (l Bs len cap : Nat) (A : Option Addr) (ops : Nat → OpT) (hreach : len ≤ 4000) (Kp : World → World → Prop) (hKr : ∀ W, Kp W W) (hKt : ∀ {A B C : World}, Kp A B → Kp B C → Kp A C) (Bk : Nat → Prop) (hKc : ∀ {W W' : World}, Kp W W' → ∀ b, Bk b → ∀ o, W'.cell? ⟨b, o, none⟩ = W.cell? ⟨b, o, none⟩) (hlt : ∀ b o, A = some ⟨b, o, none⟩ → 0 < len → Bk b) (J Jx : List (Fin len) → World → Prop)
    (hY : ∀ pre x W, J pre W → pre.length < len → YieldAt F (n - 1) Try.prog l (encB ops x) W fun e W' =>
      (e = .returned (.bool true) ∧ J (pre ++ [x]) W' ∧ Kp W W') ∨ (e = .returned (.bool false) ∧ Jx (pre ++ [x]) W'))
    (W : World) (hBs : W.cell? ⟨Bs, 0, none⟩ = some (.slice A len cap)) (hO : OpsAt W (.slice A len cap) ops len) (hBn : Bk Bs) (h0 : J [] W) :
    CallsIn F n Try.prog 21 #[.func (.yield l) #[] #[], .pointer (some ⟨Bs, 0, none⟩)] W fun e W' => (∃ v, e = .returned v) ∧
      ((∃ ys, ys = revs len ∧ J ys W') ∨ (∃ pre, (∃ k, k ≤ len ∧ pre = (revs len).take k) ∧ Jx pre W')) := by
  obtain ⟨_, _, eO, hO⟩ := hO
  cases eO
  have HO := Lib.hid hO
  have HLT := Lib.hid hlt
  clear hO hlt
  refine callsIn_of_wp Try.func21 rfl h8 ?_ hro
  simp only [Try.ntmps21, List.size_toArray, List.length_cons, List.length_nil, Nat.reduceAdd, Nat.reduceSub, Array.replicate_succ, Array.replicate_zero, List.push_toArray, List.append_toArray, List.nil_append, List.cons_append]
  have hl2 : (len : Int) ≤ 4000 := by omega
  gi_wp2
  gi_loopw [3] (fun i wr => ∃ k : Nat, k ≤ len ∧ i = .int .i64 ((len : Int) - 1 - k) ∧ J ((revs len).take k) wr ∧ Kp W wr)
    (fun i _ => (intOf i + 1).toNat)
  case atStart => exact ⟨0, Nat.zero_le _, by simp, h0, hKr _⟩
  case round =>
    obtain ⟨k, hk, rfl, hJs, hnx⟩ := hrel
    have hBs' := (hKc hnx Bs hBn 0).trans hBs
    by_cases hlt : k < len
    · obtain ⟨b, o, eA, l1, l2, d0, d1, d2, d3, d4, d5⟩ := HO.out (len - 1 - k) (by omega)
      subst eA
      have hb := HLT.out b o rfl (by omega)
      have d0 := (hKc hnx b hb (o + (len - 1 - k) * 6)).trans d0
      have d1 := (hKc hnx b hb (o + (len - 1 - k) * 6 + 1)).trans d1
      have d2 := (hKc hnx b hb (o + (len - 1 - k) * 6 + 2)).trans d2
      have d3 := (hKc hnx b hb (o + (len - 1 - k) * 6 + 3)).trans d3
      have d4 := (hKc hnx b hb (o + (len - 1 - k) * 6 + 4)).trans d4
      have d5 := (hKc hnx b hb (o + (len - 1 - k) * 6 + 5)).trans d5
      obtain ⟨fn, tmps, assign, body, hy, hR⟩ := hY _ ⟨len - 1 - k, by omega⟩ wr hJs (by rw [List.length_take, revs_len]; omega)
      have hi : ((len - 1 - k : Nat) : Int) = (len : Int) - 1 - k := by omega
      obtain ⟨m, hm⟩ : ∃ m, len - 1 - k = m := ⟨_, rfl⟩
      have hkm : k + m = len - 1 := by omega
      have hmk : (len : Int) - 1 - k = m := by omega
      rw [hmk]
      unfold encB opV at hy
      simp only [hm] at hy d0 d1 d2 d3 d4 d5
      gi_wp2
      refine hR.mono ?_
      rintro e W3 (⟨rfl, hJ3, hk3⟩ | ⟨rfl, hJx3⟩)
      · gi_wp2
        go_roundw
        case rel => exact ⟨k + 1, by omega, by rw [← hmk]; go_num, by rw [revs_take hlt]; exact hJ3, hKt hnx hk3⟩
        case measure => simp [intOf] <;> omega
      · gi_wp2
        refine bodyPost_ret (results_none rfl _ _ _) rfl ?_
        exact ⟨⟨_, rfl⟩, .inr ⟨_, ⟨k + 1, by omega, by rw [revs_take hlt]⟩, hJx3⟩⟩
    · obtain rfl : k = len := by omega
      gi_wp2
      go_end0
      exact ⟨⟨_, rfl⟩, .inl ⟨_, rfl, by rw [List.take_of_length_le (by rw [revs_len]; exact Nat.le_refl _)] at hJs; exact hJs⟩⟩

set_option maxHeartbeats 1000000 in
theorem back_in (F : Fence) (n : Nat) (h6 : F.fn 9) (hro : F.round = none) (A : Option Addr) (len cap : Nat) (w : World) :
    CallsIn F n Try.prog 9 #[.slice A len cap] w fun e w' => e = .returned (.func (.func 21) #[] #[.pointer (some ⟨w.heap.size, 0, none⟩)]) ∧ w' = w.alloc (.cells #[.slice A len cap] 22) := by
  refine callsIn_of_wp Try.func9 rfl h6 ?_ hro
  simp only [Try.ntmps9, List.size_toArray, List.length_cons, List.length_nil, Nat.reduceAdd, Nat.reduceSub, Array.replicate_succ, Array.replicate_zero, List.push_toArray, List.append_toArray, List.nil_append, List.cons_append]
  gi_wp2
  go_ret
  exact ⟨rfl, rfl⟩

theorem back_stops (F : Fence) (n : Nat) (h8 : F.fn 21) (hro : F.round = none) (hn : 1 ≤ n) (Bs len cap : Nat) (A : Option Addr) (ops : Nat → OpT) (hreach : len ≤ 4000) (w : World) (Kp : World → World → Prop) (hKr : ∀ W, Kp W W) (hKt : ∀ {A B C : World}, Kp A B → Kp B C → Kp A C) (Bk : Nat → Prop) (hKc : ∀ {W W' : World}, Kp W W' → ∀ b, Bk b → ∀ o, W'.cell? ⟨b, o, none⟩ = W.cell? ⟨b, o, none⟩) (hlt : ∀ b o, A = some ⟨b, o, none⟩ → 0 < len → Bk b)
    (hBn : Bk Bs) (hBw : Bs < w.heap.size) (hc : w.cell? ⟨Bs, 0, none⟩ = some (.slice A len cap)) (hO : OpsAt w (.slice A len cap) ops len) :
    SeqStopsK F n Try.prog 21 #[.pointer (some ⟨Bs, 0, none⟩)] (encB (n := len) ops) Kp (fun ys => ys = revs len) (fun pre => ∃ k, k ≤ len ∧ pre = (revs len).take k) len w := fun l J Jx W hW _ _ hY h0 =>
  back1_in F n h8 hro hn l Bs len cap A ops hreach Kp hKr hKt Bk hKc hlt J Jx hY W ((hW.cell (p := ⟨Bs, 0, none⟩) hBw).trans hc) (hO.below hW) hBn h0
end Go.Proofs.Ytpkgpkabmechkaa
