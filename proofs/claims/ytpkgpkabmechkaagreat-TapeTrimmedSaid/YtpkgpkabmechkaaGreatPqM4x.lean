/- slices.Backward over the operations: a range over a function. -/
import Derived.Test.YtpkgpkabmechkaaGreatPqM1x
import Derived.RangeFuncNested
import Derived.RangeFuncBound
import Derived.RangeFuncCalls
import Derived.RangeFuncLeaves
import Derived.Shelf.Abstract
import Derived.Shelf.RegionOpen
import Derived.OwnWalkIn
import Derived.TacticsInMore
import Derived.LoopNIn
import Derived.LoopIn
import Derived.Deep.AppendLies
namespace Go.Proofs.YtpkgpkabmechkaaGreat
set_option linter.unusedSimpArgs false
set_option linter.unusedVariables false
open Go.RowKit Go.Shelf
open Fl
attribute [local go_sem] Oper.semAt_some

/-- The places of a row from its end. -/
def revs (n : Nat) : List (Fin n) := (List.finRange n).reverse
theorem revs_len (n : Nat) : (revs n).length = n := by simp [revs]
theorem revs_get {n k : Nat} (h : k < n) : (revs n)[k]'(by rw [revs_len]; exact h) = ⟨n - 1 - k, by omega⟩ := by
  simp [revs]
theorem revs_take {n k : Nat} (h : k < n) : (revs n).take (k + 1) = (revs n).take k ++ [⟨n - 1 - k, by omega⟩] := by
  rw [← revs_get h, List.take_append_getElem]
def foldU {n : Nat} (ops : Nat → OpT) (u0 : Nat → Bool) (pre : List (Fin n)) : Nat → Bool := pre.foldl (fun u i => stepU (ops i.val) i.val u) u0
theorem foldU_snoc {n : Nat} (ops : Nat → OpT) (u0 : Nat → Bool) (pre : List (Fin n)) (i : Fin n) : foldU ops u0 (pre ++ [i]) = stepU (ops i.val) i.val (foldU ops u0 pre) := by simp [foldU]
theorem foldU_take (ops : Nat → OpT) (u0 : Nat → Bool) (n : Nat) : ∀ k, k ≤ n → foldU ops u0 ((revs n).take k) = backU ops n u0 k
  | 0, _ => rfl
  | k + 1, h => by
    rw [revs_take (by omega), foldU_snoc, foldU_take ops u0 n k (by omega)]
    rfl
theorem foldU_all (ops : Nat → OpT) (u0 : Nat → Bool) (n : Nat) : foldU ops u0 (revs n) = backU ops n u0 n := by
  rw [← foldU_take ops u0 n n (Nat.le_refl _), List.take_of_length_le (by rw [revs_len]; exact Nat.le_refl _)]

def encB {n : Nat} (ops : Nat → OpT) (x : Fin n) : Array Value := #[.int .i64 (x.val : Int), opV (ops x.val)]

set_option maxRecDepth 100000 in
set_option maxHeartbeats 4000000 in
theorem back1_in (F : Fence) (n : Nat) (h8 : F.fn 179) (hro : F.round = none) (hn : 1 ≤ n) (l Bs len cap : Nat) (A : Option Addr) (ops : Nat → OpT) (hreach : len ≤ 4000) (Kp : World → World → Prop) (hKr : ∀ W, Kp W W) (hKt : ∀ {A B C : World}, Kp A B → Kp B C → Kp A C) (Bk : Nat → Prop) (hKc : ∀ {W W' : World}, Kp W W' → ∀ b, Bk b → ∀ o, W'.cell? ⟨b, o, none⟩ = W.cell? ⟨b, o, none⟩) (hlt : ∀ b o, A = some ⟨b, o, none⟩ → 0 < len → Bk b) (J Jx : List (Fin len) → World → Prop)
    (hY : ∀ pre x W, J pre W → pre.length < len → YieldAt F (n - 1) Tryz.prog l (encB ops x) W fun e W' =>
      (e = .returned (.bool true) ∧ J (pre ++ [x]) W' ∧ Kp W W') ∨ (e = .returned (.bool false) ∧ Jx (pre ++ [x]) W'))
    (W : World) (hBs : W.cell? ⟨Bs, 0, none⟩ = some (.slice A len cap)) (hO : OpsAt W (.slice A len cap) ops len) (hBn : Bk Bs) (h0 : J [] W) :
    CallsIn F n Tryz.prog 179 #[.func (.yield l) #[] #[], .pointer (some ⟨Bs, 0, none⟩)] W fun e W' => (∃ v, e = .returned v) ∧
      ((∃ ys, ys = revs len ∧ J ys W') ∨ (∃ pre, (∃ k, k ≤ len ∧ pre = (revs len).take k) ∧ Jx pre W')) := by
  obtain ⟨_, _, eO, hO⟩ := hO
  cases eO
  have HO := Lib.hid hO
  have HLT := Lib.hid hlt
  clear hO hlt
  refine callsIn_of_wp Tryz.func179 rfl h8 ?_ hro
  simp only [Tryz.ntmps179, List.size_toArray, List.length_cons, List.length_nil, Nat.reduceAdd, Nat.reduceSub, Array.replicate_succ, Array.replicate_zero, List.push_toArray, List.append_toArray, List.nil_append, List.cons_append]
  have hl2 : (len : Int) ≤ 4000 := by omega
  gi_wp2
  gi_loopw [3] (fun i wr => ∃ k : Nat, k ≤ len ∧ i = .int .i64 ((len : Int) - 1 - k) ∧ J ((revs len).take k) wr ∧ Kp W wr)
    (fun i _ => (intOf i + 1).toNat)
  case atStart => exact ⟨0, Nat.zero_le _, by simp, h0, hKr _⟩
  case round =>
    obtain ⟨k, hk, rfl, hJs, hnx⟩ := hrel
    have hBs' := (hKc hnx Bs hBn 0).trans hBs
    by_cases hlt : k < len
    · obtain ⟨b, o, eA, l1, l2, d0, d1, d2, d3, d4, d5⟩ := HO.out (len - 1 - k) (by omega)
      subst eA
      have hb := HLT.out b o rfl (by omega)
      have d0 := (hKc hnx b hb (o + (len - 1 - k) * 6)).trans d0
      have d1 := (hKc hnx b hb (o + (len - 1 - k) * 6 + 1)).trans d1
      have d2 := (hKc hnx b hb (o + (len - 1 - k) * 6 + 2)).trans d2
      have d3 := (hKc hnx b hb (o + (len - 1 - k) * 6 + 3)).trans d3
      have d4 := (hKc hnx b hb (o + (len - 1 - k) * 6 + 4)).trans d4
      have d5 := (hKc hnx b hb (o + (len - 1 - k) * 6 + 5)).trans d5
      obtain ⟨fn, tmps, assign, body, hy, hR⟩ := hY _ ⟨len - 1 - k, by omega⟩ wr hJs (by rw [List.length_take, revs_len]; omega)
      have hi : ((len - 1 - k : Nat) : Int) = (len : Int) - 1 - k := by omega
      obtain ⟨m, hm⟩ : ∃ m, len - 1 - k = m := ⟨_, rfl⟩
      have hkm : k + m = len - 1 := by omega
      have hmk : (len : Int) - 1 - k = m := by omega
      rw [hmk]
      unfold encB opV at hy
      simp only [hm] at hy d0 d1 d2 d3 d4 d5
      gi_wp2
      refine hR.mono ?_
      rintro e W3 (⟨rfl, hJ3, hk3⟩ | ⟨rfl, hJx3⟩)
      · gi_wp2
        go_roundw
        case rel => exact ⟨k + 1, by omega, by rw [← hmk]; go_num, by rw [revs_take hlt]; exact hJ3, hKt hnx hk3⟩
        case measure => simp [intOf] <;> omega
      · gi_wp2
        refine bodyPost_ret (results_none rfl _ _ _) rfl ?_
        exact ⟨⟨_, rfl⟩, .inr ⟨_, ⟨k + 1, by omega, by rw [revs_take hlt]⟩, hJx3⟩⟩
    · obtain rfl : k = len := by omega
      gi_wp2
      go_end0
      exact ⟨⟨_, rfl⟩, .inl ⟨_, rfl, by rw [List.take_of_length_le (by rw [revs_len]; exact Nat.le_refl _)] at hJs; exact hJs⟩⟩

set_option maxHeartbeats 1000000 in
theorem back_in (F : Fence) (n : Nat) (h6 : F.fn 112) (hro : F.round = none) (A : Option Addr) (len cap : Nat) (w : World) :
    CallsIn F n Tryz.prog 112 #[.slice A len cap] w fun e w' => e = .returned (.func (.func 179) #[] #[.pointer (some ⟨w.heap.size, 0, none⟩)]) ∧ w' = w.alloc (.cells #[.slice A len cap] 42) := by
  refine callsIn_of_wp Tryz.func112 rfl h6 ?_ hro
  simp only [Tryz.ntmps112, List.size_toArray, List.length_cons, List.length_nil, Nat.reduceAdd, Nat.reduceSub, Array.replicate_succ, Array.replicate_zero, List.push_toArray, List.append_toArray, List.nil_append, List.cons_append]
  gi_wp2
  go_ret
  exact ⟨rfl, rfl⟩

theorem back_stops (F : Fence) (n : Nat) (h8 : F.fn 179) (hro : F.round = none) (hn : 1 ≤ n) (Bs len cap : Nat) (A : Option Addr) (ops : Nat → OpT) (hreach : len ≤ 4000) (w : World) (Kp : World → World → Prop) (hKr : ∀ W, Kp W W) (hKt : ∀ {A B C : World}, Kp A B → Kp B C → Kp A C) (Bk : Nat → Prop) (hKc : ∀ {W W' : World}, Kp W W' → ∀ b, Bk b → ∀ o, W'.cell? ⟨b, o, none⟩ = W.cell? ⟨b, o, none⟩) (hlt : ∀ b o, A = some ⟨b, o, none⟩ → 0 < len → Bk b)
    (hBn : Bk Bs) (hBw : Bs < w.heap.size) (hc : w.cell? ⟨Bs, 0, none⟩ = some (.slice A len cap)) (hO : OpsAt w (.slice A len cap) ops len) :
    SeqStopsK F n Tryz.prog 179 #[.pointer (some ⟨Bs, 0, none⟩)] (encB (n := len) ops) Kp (fun ys => ys = revs len) (fun pre => ∃ k, k ≤ len ∧ pre = (revs len).take k) len w := fun l J Jx W hW _ _ hY h0 =>
  back1_in F n h8 hro hn l Bs len cap A ops hreach Kp hKr hKt Bk hKc hlt J Jx hY W ((hW.cell (p := ⟨Bs, 0, none⟩) hBw).trans hc) (hO.below hW) hBn h0
end Go.Proofs.YtpkgpkabmechkaaGreat

/- What the trimming keeps while it goes back over the operations. -/
namespace Go.Proofs.YtpkgpkabmechkaaGreat
set_option linter.unusedSimpArgs false
set_option linter.unusedVariables false
open Go.RowKit Go.Shelf
open Fl

theorem RowB.grown {W W' : World} {B n : Nat} {f : Nat → Value} {row : Option Nat} (h : RowB W B f n) (hg : W.grownBy W' row) (hr : row ≠ some B) : RowB W' B f n := by
  have e : W'.heap[B]? = W.heap[B]? := hg.block B h.lt (fun e => hr e.symm)
  refine ⟨Nat.lt_of_lt_of_le h.lt hg.size, fun j hj => ?_, fun j hj => ?_⟩
  · have := h.c j hj
    simp only [World.cell?] at this ⊢
    rw [e]; exact this
  · have := h.z j hj
    simp only [World.frozen?] at this ⊢
    rw [e]; exact this

/-- A block of one operation. -/
def OpBox (W : World) (b : Nat) (o : OpT) : Prop := W.heap[b]? = some (Obj.cells #[.int .i64 o.K, .int .i64 o.A, .int .i64 o.B, .int .i64 o.N, .float .f64 o.lo, .float .f64 o.hi] 66)
namespace OpBox
variable {W W' : World} {b : Nat} {o : OpT}
theorem lt (h : OpBox W b o) : b < W.heap.size := (Array.getElem?_eq_some_iff.1 h).1
theorem c0 (h : OpBox W b o) : W.cell? ⟨b, 0, none⟩ = some (.int .i64 o.K) := by unfold OpBox at h; simp [World.cell?, h]
theorem c1 (h : OpBox W b o) : W.cell? ⟨b, 1, none⟩ = some (.int .i64 o.A) := by unfold OpBox at h; simp [World.cell?, h]
theorem c2 (h : OpBox W b o) : W.cell? ⟨b, 2, none⟩ = some (.int .i64 o.B) := by unfold OpBox at h; simp [World.cell?, h]
theorem c3 (h : OpBox W b o) : W.cell? ⟨b, 3, none⟩ = some (.int .i64 o.N) := by unfold OpBox at h; simp [World.cell?, h]
theorem c4 (h : OpBox W b o) : W.cell? ⟨b, 4, none⟩ = some (.float .f64 o.lo) := by unfold OpBox at h; simp [World.cell?, h]
theorem c5 (h : OpBox W b o) : W.cell? ⟨b, 5, none⟩ = some (.float .f64 o.hi) := by unfold OpBox at h; simp [World.cell?, h]
theorem fz (h : OpBox W b o) (j : Nat) (hj : j < 6) : W.frozen? ⟨b, j, none⟩ = false := by
  unfold OpBox at h
  rcases j with _ | _ | _ | _ | _ | _ | j
  all_goals first | (simp [World.frozen?, h]; done) | omega
theorem below (h : OpBox W b o) (hb : Below W.heap.size W W') : OpBox W' b o := (hb.block b h.lt).trans h
theorem grown {row : Option Nat} (h : OpBox W b o) (hg : W.grownBy W' row) (hr : row ≠ some b) : OpBox W' b o := (hg.block b h.lt (fun e => hr e.symm)).trans h
theorem new (W : World) (o : OpT) : OpBox (W.alloc (Obj.cells #[.int .i64 o.K, .int .i64 o.A, .int .i64 o.B, .int .i64 o.N, .float .f64 o.lo, .float .f64 o.hi] 66)) W.heap.size o := by
  unfold OpBox World.alloc; simp [Array.getElem?_push]
end OpBox

/-- All below n₁ but block S lies as it lay. -/
structure ButS (S n₁ : Nat) (W W' : World) : Prop where
  size : W.heap.size ≤ W'.heap.size
  blk : ∀ b, b < n₁ → b ≠ S → W'.heap[b]? = W.heap[b]?
namespace ButS
variable {S n₁ : Nat} {A B C : World}
theorem refl (W : World) : ButS S n₁ W W := ⟨Nat.le_refl _, fun _ _ _ => rfl⟩
theorem trans (h : ButS S n₁ A B) (k : ButS S n₁ B C) : ButS S n₁ A C := ⟨Nat.le_trans h.size k.size, fun b h1 h2 => (k.blk b h1 h2).trans (h.blk b h1 h2)⟩
theorem cell (h : ButS S n₁ A B) (b : Nat) (hb : b < n₁ ∧ b ≠ S) (o : Nat) : B.cell? ⟨b, o, none⟩ = A.cell? ⟨b, o, none⟩ := by simp only [World.cell?]; rw [h.blk b hb.1 hb.2]
theorem set (W : World) (i : Nat) (v : Value) : ButS S n₁ W (W.setCell ⟨S, i, none⟩ v) := ⟨by simp, fun b _ h2 => Below.heap_setCell _ _ _ _ h2⟩
theorem below (hn : n₁ ≤ A.heap.size) (h : Below A.heap.size A B) : ButS S n₁ A B := ⟨h.size, fun b h1 _ => h.block b (by omega)⟩
theorem put (W : World) (l : Nat) (o : Obj) (hl : n₁ ≤ l) : ButS S n₁ W (W.putObj l o) := ⟨by simp [World.putObj], fun b h1 _ => World.putObj_heap_other (by omega)⟩
end ButS

/-- What is needed lies in row S; what lay below S lies as it lay. -/
structure TrW (Wm : World) (S NB nO : Nat) (u : Nat → Bool) (W : World) : Prop where
  row : RowB W S (fun j => .bool (u j)) nO
  sn : S < NB
  nb : W.cell? ⟨NB, 0, none⟩ = some (.slice (some ⟨S, 0, none⟩) nO nO)
  bel : Below S Wm W
namespace TrW
variable {Wm W W' : World} {S NB nO : Nat} {u : Nat → Bool}
theorem lt (h : TrW Wm S NB nO u W) : NB < W.heap.size := World.block_lt_of_cell? _ _ h.nb
theorem below (h : TrW Wm S NB nO u W) (hb : Below W.heap.size W W') : TrW Wm S NB nO u W' := ⟨h.row.below hb, h.sn, cellBelow hb h.nb, h.bel.trans (hb.mono (Nat.le_of_lt h.row.lt))⟩
theorem set (h : TrW Wm S NB nO u W) {i : Nat} (hi : i < nO) : TrW Wm S NB nO (setF u i true) (W.setCell ⟨S, i, none⟩ (.bool true)) := by
  refine ⟨(h.row.set hi (.bool true)).congr fun j _ => ?_, h.sn, ?_, h.bel.setCell (p := ⟨S, i, none⟩) (Nat.le_refl _) _⟩
  · unfold setF
    by_cases e : j = i <;> simp [e]
  · have e : (W.setCell ⟨S, i, none⟩ (.bool true)).heap[NB]? = W.heap[NB]? := Below.heap_setCell _ _ _ _ (fun e => by have := h.sn; simp at e; omega)
    have := h.nb
    simp only [World.cell?] at this ⊢
    rw [e]; exact this
theorem grown {row : Option Nat} (h : TrW Wm S NB nO u W) (hg : W.grownBy W' row) (hr : ∀ r, row = some r → NB + 1 ≤ r) : TrW Wm S NB nO u W' := by
  have hsn := h.sn
  refine ⟨h.row.grown hg (fun e => by have := hr _ e; omega), h.sn, ?_, h.bel.grown hg (Nat.le_of_lt h.row.lt) (fun k e => by have := hr k e; omega)⟩
  have e : W'.heap[NB]? = W.heap[NB]? := hg.block _ h.lt (fun e => by have := hr _ e.symm; omega)
  have := h.nb
  simp only [World.cell?] at this ⊢
  rw [e]; exact this
theorem get (h : TrW Wm S NB nO u W) {i : Nat} (hi : i < nO) : W.cell? ⟨S, i, none⟩ = some (.bool (u i)) := h.row.c i hi
theorem fz (h : TrW Wm S NB nO u W) {i : Nat} (hi : i < nO) : W.frozen? ⟨S, i, none⟩ = false := h.row.z i hi
end TrW
theorem ownFrom_trw {n S NB BS nO B : Nat} {Wm : World} {g : List (Fin n) → Nat → Bool} (hB : NB + 1 ≤ B) : OwnFrom B (fun (pre : List (Fin n)) W => TrW Wm S NB nO (g pre) W ∧ BS + 1 ≤ W.heap.size) :=
  fun s W W' row hs hg hr => ⟨hs.1.grown hg (fun r e => Nat.le_trans hB (hr r e).1), Nat.le_trans hs.2 hg.size⟩

theorem OpBox.own {B b : Nat} {o : OpT} : OwnFrom B (fun (_ : Unit) W => OpBox W b o) := fun s W W' row hs hg hr => hs.grown hg (fun e => by
  obtain ⟨_, o', h1, h2⟩ := hr b e
  unfold OpBox at hs
  rw [hs] at h1
  cases h1
  cases h2)

theorem keeps_below {W W' : World} (h : Below W.heap.size W W') : KeepsOthers W W' :=
  ⟨h.size, fun k o hk _ => (h.block k (Array.getElem?_eq_some_iff.1 hk).1).trans hk⟩

/-- A range over the operations from the end, whose body turns the row of what is needed. -/
theorem range_back {g : Operand} {ps : Array Tmp} {assign body : Code} {Q : Exit → Act → World → Prop} {a : Act} {w : World} {n : Nat} (hps : ps.size = 2) (hn : 3 ≤ n) {Wm : World} {S NB BS nO cap : Nat} {A : Option Addr} {ops : Nat → OpT} {u0 : Nat → Bool} (hreach : nO ≤ 4000)
    (hg : a.eval g = .func (.func 179) #[] #[.pointer (some ⟨BS, 0, none⟩)])
    (hO : OpsAt Wm (.slice A nO cap) ops nO) (hS : S = Wm.heap.size) (hNB : NB < BS) (hc : w.cell? ⟨BS, 0, none⟩ = some (.slice A nO cap)) (h0 : TrW Wm S NB nO u0 w)
    (frf : Array Value → Fin nO → Nat → Act)
    (hassign : ∀ (l : Nat) (x : Fin nO) (W : World) (K : Act → World → Prop), BS + 1 ≤ W.heap.size → (∀ b W', b = W.heap.size → W' = W.alloc (Obj.cells #[.int .i64 (ops x).K, .int .i64 (ops x).A, .int .i64 (ops x).B, .int .i64 (ops x).N, .float .f64 (ops x).lo, .float .f64 (ops x).hi] 66) → K (frf a.tmps x b) W') →
      assign.wpIn (Fence.wide.inRound l) (n - 1 - 1) Tryz.prog (Exit.then K (fun _ _ _ => False)) { tmps := (ps.zip (encB ops x)).foldl (fun t (p, v) => t.setIfInBounds p v) a.tmps, defers := [] } W)
    (hbody : ∀ (l : Nat) (u : Nat → Bool) (x : Fin nO) (b : Nat) (W : World) (Q' : Exit → Act → World → Prop), TrW Wm S NB nO u W → OpBox W b (ops x) → BS + 1 ≤ b → (∀ a' W', TrW Wm S NB nO (stepU (ops x) x u) W' → KeepsOthers W W' → ButS S (BS + 1) W W' → Q' .normal a' W') →
      body.wpIn (Fence.wide.inRound l) (n - 1 - 1) Tryz.prog Q' (frf a.tmps x b) W)
    (hdone : ∀ (D : Nat) (W : World), BS + 1 ≤ D → TrW Wm S NB nO (backU ops nO u0 nO) W → W.heap[D]? = some (.deferred (some [])) → Q .normal { a with defers := { target := .collected D, args := #[] } :: a.defers } W) :
    (Code.rangeFunc g ps assign body).wpIn Fence.wide n Tryz.prog Q a w := by
  have hsn := h0.sn
  have hw : BS < w.heap.size := World.block_lt_of_cell? _ _ hc
  have hOw : OpsAt w (.slice A nO cap) ops nO := hO.below (hS ▸ h0.bel)
  have hOb : ∀ b o, A = some ⟨b, o, none⟩ → 0 < nO → b < BS + 1 ∧ b ≠ S := by
    intro b o e hp
    obtain ⟨A', c', e1, h⟩ := hO
    cases e1
    obtain ⟨b', o', e2, _, _, h1, _⟩ := h 0 hp
    rw [e] at e2
    cases e2
    have := World.block_lt_of_cell? _ _ h1
    simp only at this
    omega
  refine wpIn_rangeFunc_ownH (F := Fence.wide) rfl (by omega) (gf := 179) hg trivial (enters_of Tryz.func179 (by kernel_rfl) rfl)
    (back_stops Fence.wide (n - 1) trivial rfl (by omega) (BS) nO cap A ops hreach w (ButS S (BS + 1)) ButS.refl ButS.trans (fun b => b < BS + 1 ∧ b ≠ S) (fun h b hb o => h.cell b hb o) hOb ⟨by omega, by omega⟩ hw hc hOw)
    ButS.trans (fun W l o o' h1 _ _ _ => ButS.put W l o' (by omega)) (Below.refl _ _) (fun _ => by rw [hps]; rfl)
    (fun pre W => TrW Wm S NB nO (foldU ops u0 pre) W ∧ BS + 1 ≤ W.heap.size) (fun _ _ _ => False) (ownFrom_trw (by omega)) (fun c s W W' row hs hg hr => hs) ⟨h0, hw⟩
    (fun x a' W => ∃ b, BS + 1 ≤ b ∧ OpBox W b (ops x) ∧ a' = frf a.tmps x b) ?_ ?_ ?_ ?_ ?_
  · intro x a' s W W' row hs hg hr
    obtain ⟨b, h1, h2, h3⟩ := hs
    exact ⟨b, h1, OpBox.own () W W' row h2 hg hr, h3⟩
  · rintro l pre x W K ⟨hI, hs⟩ hK
    refine hassign l x W K hs ?_
    rintro b W' rfl rfl
    have hb : Below W.heap.size W (W.alloc (Obj.cells #[.int .i64 (ops x).K, .int .i64 (ops x).A, .int .i64 (ops x).B, .int .i64 (ops x).N, .float .f64 (ops x).lo, .float .f64 (ops x).hi] 66)) := (Below.refl _ _).alloc (Nat.le_refl _) _
    exact hK _ _ ((KeepsOthers.alloc _ _).from _) (ButS.below hs hb) ⟨hI.below hb, Nat.le_trans hs hb.size⟩ ⟨_, hs, OpBox.new _ _, rfl⟩
  · rintro l pre x a' W hl hr ⟨hI, hs⟩ ⟨b, h1, h2, rfl⟩ hlt
    refine hbody l _ x b W _ hI h2 h1 ?_
    intro a' W' h3 h4 h5
    exact ⟨h4.from _, h5, show TrW Wm S NB nO (foldU ops u0 (pre ++ [x])) W' from by rw [foldU_snoc]; exact h3, Nat.le_trans hs h4.size⟩
  · rintro D xs W hD hS ⟨hI, _⟩ hK
    subst hS
    rw [foldU_all] at hI
    exact hdone D W (by omega) hI hK
  · intro D c pre W _ _ h _
    exact h.elim
end Go.Proofs.YtpkgpkabmechkaaGreat

/- Words for the trimming. -/
namespace Go.Proofs.YtpkgpkabmechkaaGreat
set_option linter.unusedSimpArgs false
set_option linter.unusedVariables false
open Go.RowKit Go.Shelf
open Fl
attribute [local go_sem] Oper.semAt_some

theorem cut_worldM {P : Program} {c : Code} {Q : Exit → Act → World → Prop} {a : Act} {w : World} (h : ∀ W, w = W → c.wp P Q a W) : c.wp P Q a w := h w rfl
def listF (L : List OpT) (i : Nat) : OpT := L.getD i ⟨0, 0, 0, 0, 0, 0⟩
def TrimRes (w : World) (good : Prop) (V : Int) (L : List OpT) (os : Nat → Int) (nN : Nat) (e : Ending) (w' : World) : Prop :=
  ∃ V' vO' vN' E, e = .returned (.tuple #[.agg #[.int .i64 V', vO', vN'], .int .i64 E]) ∧ Below w.heap.size w w' ∧ (¬ good → E = 50 ∧ V' = 0 ∧ vO' = .slice none 0 0 ∧ vN' = .slice none 0 0) ∧ (good → E = 0 ∧ V' = V ∧ OpsAt w' vO' (listF L) L.length ∧ OutsAt w' vN' os nN)

theorem info4 : (Tryz.prog.info? 4).map (fun i => (i.zero, i.size, i.bytes)) = some (some (.bool false), 1, 1) := by kernel_rfl
theorem info3 : (Tryz.prog.info? 3).map (fun i => (i.zero, i.size, i.bytes)) = some (some (.int .i64 0), 1, 8) := by kernel_rfl
theorem info66 : (Tryz.prog.info? 66).map (fun i => (i.zero, i.size, i.bytes)) = some (some (.agg #[.int .i64 0, .int .i64 0, .int .i64 0, .int .i64 0, .float .f64 0, .float .f64 0]), 6, 48) := by kernel_rfl

theorem made_row {W : World} {base e g n : Nat} {z : Value} (h : W.ownsRow base e 1 (.slice (some ⟨g, 0, none⟩) n n) n (madeCells z.cells (n * 1)).toList) (hz : z.cells = #[z]) : RowB W g (fun _ => z) n := by
  have hx : (madeCells z.cells (n * 1)).toList = List.replicate n z := by rw [hz, Nat.mul_one, toList_madeCells_one]
  rw [hx] at h
  have hc := h.cells (g := g) rfl
  have hl := (h.lt g rfl).2
  obtain ⟨_, ⟨e1, _⟩ | ⟨g', cap, cur, e1, _, hb, _⟩⟩ := h
  · cases e1
  · cases e1
    refine ⟨hl, fun j hj => ?_, fun j hj => ?_⟩
    · have := hc j z (by rw [List.getElem?_replicate, if_pos hj])
      have ha : (⟨g, 0, none⟩ : Addr).add j = ⟨g, j, none⟩ := by cases j <;> simp [Addr.add]
      rw [ha] at this
      exact this
    · simp [World.frozen?, hb]

/-- A block of a tape. -/
def TapeBox (W : World) (b : Nat) (V : Int) (v v' : Value) : Prop := W.heap[b]? = some (Obj.cells #[.int .i64 V, v, v'] 45)
namespace TapeBox
variable {W W' : World} {b : Nat} {V : Int} {v v' : Value}
theorem lt (h : TapeBox W b V v v') : b < W.heap.size := (Array.getElem?_eq_some_iff.1 h).1
theorem c0 (h : TapeBox W b V v v') : W.cell? ⟨b, 0, none⟩ = some (.int .i64 V) := by unfold TapeBox at h; simp [World.cell?, h]
theorem c1 (h : TapeBox W b V v v') : W.cell? ⟨b, 1, none⟩ = some v := by unfold TapeBox at h; simp [World.cell?, h]
theorem c2 (h : TapeBox W b V v v') : W.cell? ⟨b, 2, none⟩ = some v' := by unfold TapeBox at h; simp [World.cell?, h]
theorem fz (h : TapeBox W b V v v') (j : Nat) (hj : j < 3) : W.frozen? ⟨b, j, none⟩ = false := by
  unfold TapeBox at h
  rcases j with _ | _ | _ | j
  all_goals first | (simp [World.frozen?, h]; done) | omega
theorem below (h : TapeBox W b V v v') (hb : Below W.heap.size W W') : TapeBox W' b V v v' := (hb.block b h.lt).trans h
theorem belowB {B : Nat} (h : TapeBox W b V v v') (hb : Below B W W') (hB : b < B) : TapeBox W' b V v v' := (hb.block b hB).trans h
theorem grown {row : Option Nat} (h : TapeBox W b V v v') (hg : W.grownBy W' row) (hr : row ≠ some b) : TapeBox W' b V v v' := (hg.block b h.lt (fun e => hr e.symm)).trans h
theorem set_other (h : TapeBox W b V v v') {a : Addr} (u : Value) (ha : a.block ≠ b) : TapeBox (W.setCell a u) b V v v' := (Below.heap_setCell _ _ _ _ (fun e => ha e.symm)).trans h
theorem set0 (h : TapeBox W b V v v') (V' : Int) : TapeBox (W.setCell ⟨b, 0, none⟩ (.int .i64 V')) b V' v v' := by
  have hl := h.lt
  unfold TapeBox at h ⊢
  unfold World.setCell
  simp [Array.getElem?_modify, h]
theorem set1 (h : TapeBox W b V v v') (u : Value) : TapeBox (W.setCell ⟨b, 1, none⟩ u) b V u v' := by
  have hl := h.lt
  unfold TapeBox at h ⊢
  unfold World.setCell
  simp [Array.getElem?_modify, h]
theorem set2 (h : TapeBox W b V v v') (u : Value) : TapeBox (W.setCell ⟨b, 2, none⟩ u) b V v u := by
  have hl := h.lt
  unfold TapeBox at h ⊢
  unfold World.setCell
  simp [Array.getElem?_modify, h]
theorem new (W : World) (V : Int) (v v' : Value) : TapeBox (W.alloc (Obj.cells #[.int .i64 V, v, v'] 45)) W.heap.size V v v' := by
  unfold TapeBox World.alloc; simp [Array.getElem?_push]
end TapeBox

end Go.Proofs.YtpkgpkabmechkaaGreat

/- Rows of operations and of numbers that the call itself makes. -/
namespace Go.Proofs.YtpkgpkabmechkaaGreat
set_option linter.unusedSimpArgs false
set_option linter.unusedVariables false
open Go.RowKit Go.Shelf
open Fl

theorem ownM_lt {base : Nat} {w : World} {e : TypeId} {size : Nat} {v : Value} {k : Nat} {xs : List Value} (h : w.ownsRow base e size v k xs) : ∀ g, v.ownBlock = some g → base ≤ g ∧ g < w.heap.size := h.lt
theorem ownM_far {base : Nat} {w w' : World} {e : TypeId} {size : Nat} {v : Value} {k : Nat} {xs : List Value} (h : w.ownsRow base e size v k xs) (hb : ∀ g, v.ownBlock = some g → w'.heap[g]? = w.heap[g]?) : w'.ownsRow base e size v k xs := by
  refine ⟨h.1, ?_⟩
  rcases h.2 with e | ⟨g, cap, cur, e, h1, h2, r⟩
  · exact Or.inl e
  · exact Or.inr ⟨g, cap, cur, e, h1, (hb g (by rw [e]; rfl)).trans h2, r⟩

def opCs (o : OpT) : List Value := [.int .i64 o.K, .int .i64 o.A, .int .i64 o.B, .int .i64 o.N, (.float .f64 o.lo), (.float .f64 o.hi)]
def opCells (L : List OpT) : List Value := L.flatMap opCs
theorem opCells_snoc (L : List OpT) (o : OpT) : opCells (L ++ [o]) = opCells L ++ opCs o := by simp [opCells, opCs]
theorem opCells_get (c : Nat) (hc : c < 6) : ∀ (L : List OpT) (j : Nat), j < L.length → (opCells L)[j * 6 + c]? = (opCs (listF L j))[c]?
  | [], j, h => by simp at h
  | o :: L, 0, _ => by
    simp only [opCells, List.flatMap_cons]
    rw [Nat.zero_mul, Nat.zero_add, List.getElem?_append_left (by simp [opCs]; omega)]
    rfl
  | o :: L, j + 1, h => by
    have ih := opCells_get c hc L j (by simpa using h)
    simp only [opCells, List.flatMap_cons] at ih ⊢
    have hl : (opCs o).length = 6 := rfl
    rw [List.getElem?_append_right (by rw [hl]; omega), hl, show (j + 1) * 6 + c - 6 = j * 6 + c by omega, ih]
    rfl
def OwnOp (base : Nat) (w : World) (v : Value) (L : List OpT) : Prop := (∀ o ∈ L, o.lo < 18446744073709551616 ∧ o.hi < 18446744073709551616) ∧ w.ownsRow base 66 6 v L.length (opCells L)
theorem ownOp_nil (base : Nat) (w : World) : OwnOp base w (.slice none 0 0) [] := ⟨by simp, World.ownsRow_nil _ _ _ _⟩
theorem OwnOp.lt {base : Nat} {w : World} {v : Value} {L : List OpT} (h : OwnOp base w v L) : ∀ g, v.ownBlock = some g → base ≤ g ∧ g < w.heap.size := ownM_lt h.2
theorem OwnOp.far {base : Nat} {w w' : World} {v : Value} {L : List OpT} (h : OwnOp base w v L) (hb : ∀ g, v.ownBlock = some g → w'.heap[g]? = w.heap[g]?) : OwnOp base w' v L := ⟨h.1, ownM_far h.2 hb⟩
theorem OwnOp.below {base : Nat} {w w' : World} {v : Value} {L : List OpT} (h : OwnOp base w v L) (hb : Below w.heap.size w w') : OwnOp base w' v L := h.far fun g hg => hb.block g (h.lt g hg).2
theorem OwnOp.set {base : Nat} {w : World} {v : Value} {L : List OpT} (h : OwnOp base w v L) {a : Addr} (u : Value) (ha : a.block < base) : OwnOp base (w.setCell a u) v L :=
  h.far fun g hg => Below.heap_setCell _ _ _ _ (fun e => by have := (h.lt g hg).1; omega)
theorem OwnOp.slice {base : Nat} {w : World} {v : Value} {L : List OpT} (h : OwnOp base w v L) : ∃ A c, v = .slice A L.length c := by
  rcases h.2.2 with ⟨e, e2⟩ | ⟨g, cap, cur, e, _⟩
  · exact ⟨none, 0, by rw [e, e2]⟩
  · exact ⟨_, _, e⟩
theorem OwnOp.ops {base : Nat} {w : World} {v : Value} {L : List OpT} (h : OwnOp base w v L) : OpsAt w v (listF L) L.length := by
  rcases h.2.2 with ⟨e, e2⟩ | ⟨g, cap, cur, e, hg, hh, hnc, hcm, r⟩
  · exact ⟨none, 0, by rw [e, e2], fun i hi => by omega⟩
  · refine ⟨_, cap, e, fun i hi => ⟨g, 0, rfl, ?_⟩⟩
    have hc := h.2.cells (g := g) (by rw [e]; rfl)
    have ha : ∀ j, (⟨g, 0, none⟩ : Addr).add j = ⟨g, j, none⟩ := fun j => by unfold Addr.add; split <;> simp_all
    have hm : listF L i ∈ L := by
      unfold listF
      rw [List.getD_eq_getElem?_getD, List.getElem?_eq_getElem hi, Option.getD_some]
      exact List.getElem_mem hi
    obtain ⟨l1, l2⟩ := h.1 _ hm
    have each : ∀ c u, c < 6 → (opCs (listF L i))[c]? = some u → w.cell? ⟨g, i * 6 + c, none⟩ = some u := fun c u hc' hu => by
      have := hc (i * 6 + c) u (by rw [opCells_get c hc' L i hi]; exact hu)
      rw [ha] at this
      exact this
    rw [Nat.zero_add]
    exact ⟨l1, l2, each 0 _ (by omega) rfl, each 1 _ (by omega) rfl, each 2 _ (by omega) rfl, each 3 _ (by omega) rfl, each 4 _ (by omega) rfl, each 5 _ (by omega) rfl⟩

def intCells (f : Nat → Int) (n : Nat) : List Value := (List.range n).map fun i => .int .i64 (f i)
theorem intCells_succ (f : Nat → Int) (n : Nat) : intCells f (n + 1) = intCells f n ++ [.int .i64 (f n)] := by simp [intCells, List.range_succ]
def OwnInt (base : Nat) (w : World) (v : Value) (f : Nat → Int) (n : Nat) : Prop := w.ownsRow base 3 1 v n (intCells f n)
theorem ownInt_nil (base : Nat) (w : World) (f : Nat → Int) : OwnInt base w (.slice none 0 0) f 0 := World.ownsRow_nil _ _ _ _
theorem OwnInt.far {base : Nat} {w w' : World} {v : Value} {f : Nat → Int} {n : Nat} (h : OwnInt base w v f n) (hb : ∀ g, v.ownBlock = some g → w'.heap[g]? = w.heap[g]?) : OwnInt base w' v f n := ownM_far h hb
theorem OwnInt.below {base : Nat} {w w' : World} {v : Value} {f : Nat → Int} {n : Nat} (h : OwnInt base w v f n) (hb : Below w.heap.size w w') : OwnInt base w' v f n := h.far fun g hg => hb.block g (ownM_lt h g hg).2
theorem OwnInt.set {base : Nat} {w : World} {v : Value} {f : Nat → Int} {n : Nat} (h : OwnInt base w v f n) {a : Addr} (u : Value) (ha : a.block < base) : OwnInt base (w.setCell a u) v f n :=
  h.far fun g hg => Below.heap_setCell _ _ _ _ (fun e => by have := (ownM_lt h g hg).1; omega)
theorem OwnInt.slice {base : Nat} {w : World} {v : Value} {f : Nat → Int} {n : Nat} (h : OwnInt base w v f n) : ∃ A c, v = .slice A n c := by
  rcases h.2 with ⟨e, e2⟩ | ⟨g, cap, cur, e, _⟩
  · exact ⟨none, 0, by rw [e, e2]⟩
  · exact ⟨_, _, e⟩
theorem OwnInt.outs {base : Nat} {w : World} {v : Value} {f : Nat → Int} {n : Nat} (h : OwnInt base w v f n) : OutsAt w v f n := by
  rcases h.2 with ⟨e, e2⟩ | ⟨g, cap, cur, e, hg, hh, hnc, hcm, r⟩
  · exact ⟨none, 0, by rw [e, e2], fun i hi => by omega⟩
  · refine ⟨_, cap, e, fun i hi => ⟨g, 0, rfl, ?_⟩⟩
    have hc := World.ownsRow.cells h (g := g) (by rw [e]; rfl)
    have := hc i (.int .i64 (f i)) (by simp [intCells, hi])
    have ha : (⟨g, 0, none⟩ : Addr).add i = ⟨g, i, none⟩ := by unfold Addr.add; split <;> simp_all
    rw [ha] at this
    rw [Nat.zero_add]
    exact this

section
variable {w : World} {ops : Array Oper} {rest : List Oper} {o : Oper} {a : Act} {Q : Exit → Act → World → Prop} {K : Act → World → Prop} {E : Prop} {s x : Operand} {base : Nat} {v : Value} {L : List OpT} {p : OpT} {f : Nat → Int} {n B : Nat}
theorem wpList_append_op (hgd : o.guard = none)
    (ho : o.op = .call { callee := .builtin .append, args := #[s, x], argTypes := #[42, 42] })
    (hs : a.eval s = v) (hx : a.eval x = .slice (some ⟨B, 0, none⟩) 1 1) (hB : OpBox w B p) (hown : OwnOp base w v L) (hl : p.lo < 18446744073709551616 ∧ p.hi < 18446744073709551616) (hL : L.length ≤ 3000000) (hb : base ≤ w.heap.size)
    (h : ∀ g cap w', OwnOp base w' (.slice (some ⟨g, 0, none⟩) (L ++ [p]).length cap) (L ++ [p]) → Below base w w' → wpList Tryz.prog ops Q rest (a.put o.dst (.slice (some ⟨g, 0, none⟩) (L ++ [p]).length cap)) w') :
    wpList Tryz.prog ops Q (o :: rest) a w := by
  obtain ⟨i0, hi, hz0, hz1, hz2⟩ := info_parts info66
  refine wpList_append_lies _ hgd s x 42 ho base 66 i0 (.agg #[.int .i64 0, .int .i64 0, .int .i64 0, .int .i64 0, .float .f64 0, .float .f64 0]) 6 48 Tryz.underlying42 hi hz0 hz1 hz2 rfl (by decide) v L.length (opCells L) hs hown.2 ⟨B, 0, none⟩ 1 1 (opCs p) hx rfl (World.news_of_block hB) ?_ (by omega) (by unfold maxLen; omega) (by omega) hb w.heap.size rfl ?_
  · intro u hu
    simp [opCs] at hu
    rcases hu with rfl | rfl | rfl | rfl | rfl | rfl <;> rfl
  · intro g cap w1 h1 h2 h3 h4
    rw [← opCells_snoc] at h1
    have e : L.length + 1 = (L ++ [p]).length := by simp
    rw [e] at h1
    rw [e]
    refine h g cap w1 ⟨fun q hq => ?_, h1⟩ ((Below.refl base w).grown h2 hb (fun g hg => (hown.lt g hg).1))
    rcases List.mem_append.1 hq with hq | hq
    · exact hown.1 q hq
    · simp at hq; subst hq; exact hl
theorem step_append_int (hgd : o.guard = none)
    (ho : o.op = .call { callee := .builtin .append, args := #[s, x], argTypes := #[43, 43] }) {fr : Nat × Nat} {i : Int}
    (hs : a.eval s = v) (hx : a.eval x = .slice (some ⟨B, 0, none⟩) 1 1) (hB : w.heap[B]? = some (.cells #[.int .i64 i] 3 fr)) (hown : OwnInt base w v f n) (hi : f n = i) (hL : n ≤ 3000000) (hb : base ≤ w.heap.size)
    (h : ∀ g cap w', OwnInt base w' (.slice (some ⟨g, 0, none⟩) (n + 1) cap) f (n + 1) → Below base w w' → K (a.put o.dst (.slice (some ⟨g, 0, none⟩) (n + 1) cap)) w') :
    if Region.wanted o (yielded ops a.tmps) = true then Oper.wp Tryz.prog o a w K Q else E := by
  obtain ⟨i0, hi', hz0, hz1, hz2⟩ := info_parts info3
  refine step_append_lies _ hgd s x 43 ho base 3 i0 (.int .i64 0) 1 8 Tryz.underlying43 hi' hz0 hz1 hz2 rfl (by decide) v n (intCells f n) hs hown ⟨B, 0, none⟩ 1 1 [.int .i64 i] hx rfl (World.news_of_block hB) ?_ (by omega) (by unfold maxLen; omega) (by omega) hb w.heap.size rfl ?_
  · intro u hu
    simp at hu
    subst hu; rfl
  · intro g cap w1 h1 h2 h3 h4
    rw [← hi, ← intCells_succ] at h1
    exact h g cap w1 h1 ((Below.refl base w).grown h2 hb (fun g hg => (ownM_lt hown g hg).1))
end

/-! ### What lies behind one while the trimmed tape is made -/
structure LW (W5 : World) (OB : Nat) (V : Int) (nO : Nat) (Lm L : List OpT) (ix : Nat → Int) (vL : Value) (W : World) : Prop where
  ob : TapeBox W OB V vL (.slice none 0 0)
  mp : MapT W (OB + 1) Lm
  row : RowB W (OB + 2) (fun j => .int .i64 (ix j)) nO
  own : OwnOp (OB + 3) W vL L
  bel : Below OB W5 W
namespace LW
variable {W5 W W' : World} {OB : Nat} {V : Int} {nO : Nat} {Lm Lm' L L' : List OpT} {ix : Nat → Int} {vL v' : Value}
theorem lt (h : LW W5 OB V nO Lm L ix vL W) : OB + 2 < W.heap.size := h.row.lt
theorem below (h : LW W5 OB V nO Lm L ix vL W) (hb : Below W.heap.size W W') : LW W5 OB V nO Lm L ix vL W' :=
  ⟨h.ob.below hb, h.mp.below hb, h.row.below hb, h.own.below hb, h.bel.trans (hb.mono (by have := h.lt; omega))⟩
theorem far (h : LW W5 OB V nO Lm L ix vL W) {a : Addr} (u : Value) (ha : OB + 2 < a.block) (hv : ∀ g, vL.ownBlock = some g → a.block ≠ g) : LW W5 OB V nO Lm L ix vL (W.setCell a u) :=
  ⟨h.ob.set_other u (by omega), h.mp.set u (by omega), h.row.set_other u (by omega), h.own.far fun g hg => Below.heap_setCell _ _ _ _ (fun e => hv g hg e.symm), h.bel.setCell (by omega) _⟩
theorem far6 (h : LW W5 OB V nO Lm L ix vL W) {b : Nat} (ha : OB + 2 < b) (hv : ∀ g, vL.ownBlock = some g → b ≠ g) (u0 u1 u2 u3 u4 u5 : Value) :
    LW W5 OB V nO Lm L ix vL ((((((W.setCell ⟨b, 0, none⟩ u0).setCell ⟨b, 1, none⟩ u1).setCell ⟨b, 2, none⟩ u2).setCell ⟨b, 3, none⟩ u3).setCell ⟨b, 4, none⟩ u4).setCell ⟨b, 5, none⟩ u5) :=
  (((((h.far u0 ha hv).far u1 ha hv).far u2 ha hv).far u3 ha hv).far u4 ha hv).far u5 ha hv
theorem mapped (h : LW W5 OB V nO Lm L ix vL W) (hm : MapT W' (OB + 1) Lm') (hg : W.grownBy W' (some (OB + 1))) : LW W5 OB V nO Lm' L ix vL W' :=
  ⟨h.ob.grown hg (by simp), hm, h.row.grown hg (by simp), h.own.far fun g hg' => hg.block g (h.own.lt g hg').2 (fun e => by have := (h.own.lt g hg').1; simp at e; omega), h.bel.grown hg (by have := h.lt; omega) (fun k e => by cases e; omega)⟩
theorem appended (h : LW W5 OB V nO Lm L ix vL W) (ho : OwnOp (OB + 3) W' v' L') (hb : Below (OB + 3) W W') : LW W5 OB V nO Lm L' ix v' (W'.setCell ⟨OB, 1, none⟩ v') := by
  have e : ∀ b, b < OB + 3 → W'.heap[b]? = W.heap[b]? := fun b hb' => hb.block b hb'
  have r := h.row
  refine ⟨TapeBox.set1 (v := vL) ((e OB (by omega)).trans h.ob) v', MapT.set ((e (OB + 1) (by omega)).trans h.mp) v' (by simp), ?_, ho.set v' (by first | omega | (simp; omega) | simp), (h.bel.trans (hb.mono (by omega))).setCell (p := ⟨OB, 1, none⟩) (Nat.le_refl _) v'⟩
  refine RowB.set_other ⟨Nat.lt_of_lt_of_le r.lt hb.size, fun j hj => ?_, fun j hj => ?_⟩ v' (by simp)
  · have := r.c j hj
    simp only [World.cell?] at this ⊢
    rw [e (OB + 2) (by omega)]; exact this
  · have := r.z j hj
    simp only [World.frozen?] at this ⊢
    rw [e (OB + 2) (by omega)]; exact this
theorem set (h : LW W5 OB V nO Lm L ix vL W) {i : Nat} (hi : i < nO) (n : Int) : LW W5 OB V nO Lm L (setF ix i n) vL (W.setCell ⟨OB + 2, i, none⟩ (.int .i64 n)) := by
  refine ⟨h.ob.set_other _ (by simp), h.mp.set _ (by simp), (h.row.set hi (.int .i64 n)).congr fun j _ => ?_, h.own.set _ (by simp), h.bel.setCell (p := ⟨OB + 2, i, none⟩) (by simp) _⟩
  unfold setF
  by_cases e : j = i <;> simp [e]
theorem get (h : LW W5 OB V nO Lm L ix vL W) {i : Nat} (hi : i < nO) : W.cell? ⟨OB + 2, i, none⟩ = some (.int .i64 (ix i)) := h.row.c i hi
theorem fz (h : LW W5 OB V nO Lm L ix vL W) {i : Nat} (hi : i < nO) : W.frozen? ⟨OB + 2, i, none⟩ = false := h.row.z i hi
end LW
theorem at_oldM {w : World} {o o' : Obj} {k : Nat} (h : w.heap[k]? = some o) : (w.alloc o').heap[k]? = some o := ((Below.refl w.heap.size w).alloc (Nat.le_refl _) o' |>.block k (Array.getElem?_eq_some_iff.1 h).1).trans h
theorem at_newM {w : World} {o : Obj} {k : Nat} (h : k = w.heap.size) : (w.alloc o).heap[k]? = some o := by subst h; exact heap_alloc_new _ _
theorem at_drewM {w : World} {o : Obj} {k : Nat} (h : w.heap[k]? = some o) : w.drew.heap[k]? = some o := h
/-- What lies behind one while the numbers of the results are gathered. -/
structure OW (W5 Wl : World) (OB : Nat) (V : Int) (vL vN : Value) (f : Nat → Int) (n : Nat) (W : World) : Prop where
  ob : TapeBox W OB V vL vN
  own : OwnInt Wl.heap.size W vN f n
  but : ButS OB Wl.heap.size Wl W
  bel : Below OB W5 W
  lt : OB < Wl.heap.size
theorem OW.next {W5 Wl W W' : World} {OB : Nat} {V : Int} {vL vN v' : Value} {f : Nat → Int} {n n' : Nat} (h : OW W5 Wl OB V vL vN f n W) (ho : OwnInt Wl.heap.size W' v' f n') (hb : Below Wl.heap.size W W') : OW W5 Wl OB V vL v' f n' (W'.setCell ⟨OB, 2, none⟩ v') := by
  refine ⟨TapeBox.set2 (v' := vN) ((hb.block OB h.lt).trans h.ob) v', ho.set v' h.lt, ⟨by have := h.but.size; have := hb.size; simp; omega, fun b h1 h2 => ?_⟩, (h.bel.trans (hb.mono (Nat.le_of_lt h.lt))).setCell (p := ⟨OB, 2, none⟩) (Nat.le_refl _) v', h.lt⟩
  rw [Below.heap_setCell _ _ _ _ h2, hb.block b h1, h.but.blk b h1 h2]
theorem OpBox.set6 {W : World} {b : Nat} {o : OpT} (h : OpBox W b o) (p : OpT) :
    OpBox ((((((W.setCell ⟨b, 0, none⟩ (.int .i64 p.K)).setCell ⟨b, 1, none⟩ (.int .i64 p.A)).setCell ⟨b, 2, none⟩ (.int .i64 p.B)).setCell ⟨b, 3, none⟩ (.int .i64 p.N)).setCell ⟨b, 4, none⟩ (.float .f64 p.lo)).setCell ⟨b, 5, none⟩ (.float .f64 p.hi)) b p := by
  have hl := h.lt
  unfold OpBox at h ⊢
  unfold World.setCell
  simp [Array.getElem?_modify, h]
theorem OpBox.setA {W : World} {b : Nat} {o : OpT} (h : OpBox W b o) (n : Int) : OpBox (W.setCell ⟨b, 1, none⟩ (.int .i64 n)) b { o with A := n } := by
  have hl := h.lt
  unfold OpBox at h ⊢
  unfold World.setCell
  simp [Array.getElem?_modify, h]
theorem OpBox.setB {W : World} {b : Nat} {o : OpT} (h : OpBox W b o) (n : Int) : OpBox (W.setCell ⟨b, 2, none⟩ (.int .i64 n)) b { o with B := n } := by
  have hl := h.lt
  unfold OpBox at h ⊢
  unfold World.setCell
  simp [Array.getElem?_modify, h]
theorem sub_0 {o : OpT} {ix : Nat → Int} (e : needI o.K = 0) : subT o ix = bareT o := by simp [subT, bareT, e]
theorem sub_1 {o : OpT} {ix : Nat → Int} (e : needI o.K = 1) : subT o ix = { bareT o with A := ix o.A.toNat } := by simp [subT, bareT, e]
theorem sub_2 {o : OpT} {ix : Nat → Int} (e : needI o.K = 2) : subT o ix = { { bareT o with A := ix o.A.toNat } with B := ix o.B.toNat } := by simp [subT, bareT, e]
theorem sub_lits {o : OpT} {ix : Nat → Int} (h : o.lo < 18446744073709551616 ∧ o.hi < 18446744073709551616) : (subT o ix).lo < 18446744073709551616 ∧ (subT o ix).hi < 18446744073709551616 := by
  simp only [subT, bareT]
  split
  · exact h
  · exact ⟨by decide, by decide⟩
end Go.Proofs.YtpkgpkabmechkaaGreat
