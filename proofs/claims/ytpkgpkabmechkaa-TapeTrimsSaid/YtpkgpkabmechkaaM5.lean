/- What the trimming keeps while it goes back over the operations. -/
import Derived.Test.YtpkgpkabmechkaaM4
namespace Go.Proofs.Ytpkgpkabmechkaa
set_option linter.unusedSimpArgs false
set_option linter.unusedVariables false
open Go.RowKit Go.Shelf
open Fl

theorem RowB.grown {W W' : World} {B n : Nat} {f : Nat → Value} {row : Option Nat} (h : RowB W B f n) (hg : W.grownBy W' row) (hr : row ≠ some B) : RowB W' B f n := by
  have e : W'.heap[B]? = W.heap[B]? := hg.block B h.lt (fun e => hr e.symm)
  refine ⟨Nat.lt_of_lt_of_le h.lt hg.size, fun j hj => ?_, fun j hj => ?_⟩
  · have := h.c j hj
    simp only [World.cell?] at this ⊢
    rw [e]; exact this
  · have := h.z j hj
    simp only [World.frozen?] at this ⊢
    rw [e]; exact this

/-- A block of one operation. -/
def OpBox (W : World) (b : Nat) (o : OpT) : Prop := W.heap[b]? = some (Obj.cells #[.int .i64 o.K, .int .i64 o.A, .int .i64 o.B, .int .i64 o.N, .float .f64 o.lo, .float .f64 o.hi] 41)
namespace OpBox
variable {W W' : World} {b : Nat} {o : OpT}
theorem lt (h : OpBox W b o) : b < W.heap.size := (Array.getElem?_eq_some_iff.1 h).1
theorem c0 (h : OpBox W b o) : W.cell? ⟨b, 0, none⟩ = some (.int .i64 o.K) := by unfold OpBox at h; simp [World.cell?, h]
theorem c1 (h : OpBox W b o) : W.cell? ⟨b, 1, none⟩ = some (.int .i64 o.A) := by unfold OpBox at h; simp [World.cell?, h]
theorem c2 (h : OpBox W b o) : W.cell? ⟨b, 2, none⟩ = some (.int .i64 o.B) := by unfold OpBox at h; simp [World.cell?, h]
theorem c3 (h : OpBox W b o) : W.cell? ⟨b, 3, none⟩ = some (.int .i64 o.N) := by unfold OpBox at h; simp [World.cell?, h]
theorem c4 (h : OpBox W b o) : W.cell? ⟨b, 4, none⟩ = some (.float .f64 o.lo) := by unfold OpBox at h; simp [World.cell?, h]
theorem c5 (h : OpBox W b o) : W.cell? ⟨b, 5, none⟩ = some (.float .f64 o.hi) := by unfold OpBox at h; simp [World.cell?, h]
theorem fz (h : OpBox W b o) (j : Nat) (hj : j < 6) : W.frozen? ⟨b, j, none⟩ = false := by
  unfold OpBox at h
  rcases j with _ | _ | _ | _ | _ | _ | j
  all_goals first | (simp [World.frozen?, h]; done) | omega
theorem below (h : OpBox W b o) (hb : Below W.heap.size W W') : OpBox W' b o := (hb.block b h.lt).trans h
theorem grown {row : Option Nat} (h : OpBox W b o) (hg : W.grownBy W' row) (hr : row ≠ some b) : OpBox W' b o := (hg.block b h.lt (fun e => hr e.symm)).trans h
theorem set_other (h : OpBox W b o) {a : Addr} (v : Value) (ha : a.block ≠ b) : OpBox (W.setCell a v) b o := (Below.heap_setCell _ _ _ _ (fun e => ha e.symm)).trans h
theorem new (W : World) (o : OpT) : OpBox (W.alloc (Obj.cells #[.int .i64 o.K, .int .i64 o.A, .int .i64 o.B, .int .i64 o.N, .float .f64 o.lo, .float .f64 o.hi] 41)) W.heap.size o := by
  unfold OpBox World.alloc; simp [Array.getElem?_push]
end OpBox

/-- All below n₁ but block S lies as it lay. -/
structure ButS (S n₁ : Nat) (W W' : World) : Prop where
  size : W.heap.size ≤ W'.heap.size
  blk : ∀ b, b < n₁ → b ≠ S → W'.heap[b]? = W.heap[b]?
namespace ButS
variable {S n₁ : Nat} {A B C : World}
theorem refl (W : World) : ButS S n₁ W W := ⟨Nat.le_refl _, fun _ _ _ => rfl⟩
theorem trans (h : ButS S n₁ A B) (k : ButS S n₁ B C) : ButS S n₁ A C := ⟨Nat.le_trans h.size k.size, fun b h1 h2 => (k.blk b h1 h2).trans (h.blk b h1 h2)⟩
theorem cell (h : ButS S n₁ A B) (b : Nat) (hb : b < n₁ ∧ b ≠ S) (o : Nat) : B.cell? ⟨b, o, none⟩ = A.cell? ⟨b, o, none⟩ := by simp only [World.cell?]; rw [h.blk b hb.1 hb.2]
theorem set (W : World) (i : Nat) (v : Value) : ButS S n₁ W (W.setCell ⟨S, i, none⟩ v) := ⟨by simp, fun b _ h2 => Below.heap_setCell _ _ _ _ h2⟩
theorem below (hn : n₁ ≤ A.heap.size) (h : Below A.heap.size A B) : ButS S n₁ A B := ⟨h.size, fun b h1 _ => h.block b (by omega)⟩
theorem put (W : World) (l : Nat) (o : Obj) (hl : n₁ ≤ l) : ButS S n₁ W (W.putObj l o) := ⟨by simp [World.putObj], fun b h1 _ => World.putObj_heap_other (by omega)⟩
end ButS

/-- What is needed lies in row S; what lay below S lies as it lay. -/
structure TrW (Wm : World) (S NB nO : Nat) (u : Nat → Bool) (W : World) : Prop where
  row : RowB W S (fun j => .bool (u j)) nO
  sn : S < NB
  nb : W.cell? ⟨NB, 0, none⟩ = some (.slice (some ⟨S, 0, none⟩) nO nO)
  bel : Below S Wm W
namespace TrW
variable {Wm W W' : World} {S NB nO : Nat} {u : Nat → Bool}
theorem lt (h : TrW Wm S NB nO u W) : NB < W.heap.size := World.block_lt_of_cell? _ _ h.nb
theorem below (h : TrW Wm S NB nO u W) (hb : Below W.heap.size W W') : TrW Wm S NB nO u W' := ⟨h.row.below hb, h.sn, cellBelow hb h.nb, h.bel.trans (hb.mono (Nat.le_of_lt h.row.lt))⟩
theorem set (h : TrW Wm S NB nO u W) {i : Nat} (hi : i < nO) : TrW Wm S NB nO (setF u i true) (W.setCell ⟨S, i, none⟩ (.bool true)) := by
  refine ⟨(h.row.set hi (.bool true)).congr fun j _ => ?_, h.sn, ?_, h.bel.setCell (p := ⟨S, i, none⟩) (Nat.le_refl _) _⟩
  · unfold setF
    by_cases e : j = i <;> simp [e]
  · have e : (W.setCell ⟨S, i, none⟩ (.bool true)).heap[NB]? = W.heap[NB]? := Below.heap_setCell _ _ _ _ (fun e => by have := h.sn; simp at e; omega)
    have := h.nb
    simp only [World.cell?] at this ⊢
    rw [e]; exact this
theorem grown {row : Option Nat} (h : TrW Wm S NB nO u W) (hg : W.grownBy W' row) (hr : ∀ r, row = some r → NB + 1 ≤ r) : TrW Wm S NB nO u W' := by
  have hsn := h.sn
  refine ⟨h.row.grown hg (fun e => by have := hr _ e; omega), h.sn, ?_, h.bel.grown hg (Nat.le_of_lt h.row.lt) (fun k e => by have := hr k e; omega)⟩
  have e : W'.heap[NB]? = W.heap[NB]? := hg.block _ h.lt (fun e => by have := hr _ e.symm; omega)
  have := h.nb
  simp only [World.cell?] at this ⊢
  rw [e]; exact this
theorem get (h : TrW Wm S NB nO u W) {i : Nat} (hi : i < nO) : W.cell? ⟨S, i, none⟩ = some (.bool (u i)) := h.row.c i hi
theorem fz (h : TrW Wm S NB nO u W) {i : Nat} (hi : i < nO) : W.frozen? ⟨S, i, none⟩ = false := h.row.z i hi
end TrW
theorem ownFrom_trw {n S NB BS nO B : Nat} {Wm : World} {g : List (Fin n) → Nat → Bool} (hB : NB + 1 ≤ B) : OwnFrom B (fun (pre : List (Fin n)) W => TrW Wm S NB nO (g pre) W ∧ BS + 1 ≤ W.heap.size) :=
  fun s W W' row hs hg hr => ⟨hs.1.grown hg (fun r e => Nat.le_trans hB (hr r e).1), Nat.le_trans hs.2 hg.size⟩

theorem OpBox.own {B b : Nat} {o : OpT} : OwnFrom B (fun (_ : Unit) W => OpBox W b o) := fun s W W' row hs hg hr => hs.grown hg (fun e => by
  obtain ⟨_, o', h1, h2⟩ := hr b e
  unfold OpBox at hs
  rw [hs] at h1
  cases h1
  cases h2)

theorem keeps_below {W W' : World} (h : Below W.heap.size W W') : KeepsOthers W W' :=
  ⟨h.size, fun k o hk _ => (h.block k (Array.getElem?_eq_some_iff.1 hk).1).trans hk⟩

/-- A range over the operations from the end, whose body turns the row of what is needed. -/
theorem range_back {g : Operand} {ps : Array Tmp} {assign body : Code} {Q : Exit → Act → World → Prop} {a : Act} {w : World} {n : Nat} (hps : ps.size = 2) (hn : 3 ≤ n) {Wm : World} {S NB BS nO cap : Nat} {A : Option Addr} {ops : Nat → OpT} {u0 : Nat → Bool} (hreach : nO ≤ 4000)
    (hg : a.eval g = .func (.func 21) #[] #[.pointer (some ⟨BS, 0, none⟩)])
    (hO : OpsAt Wm (.slice A nO cap) ops nO) (hS : S = Wm.heap.size) (hNB : NB < BS) (hc : w.cell? ⟨BS, 0, none⟩ = some (.slice A nO cap)) (h0 : TrW Wm S NB nO u0 w)
    (frf : Array Value → Fin nO → Nat → Act)
    (hassign : ∀ (l : Nat) (x : Fin nO) (W : World) (K : Act → World → Prop), BS + 1 ≤ W.heap.size → (∀ b W', b = W.heap.size → W' = W.alloc (Obj.cells #[.int .i64 (ops x).K, .int .i64 (ops x).A, .int .i64 (ops x).B, .int .i64 (ops x).N, .float .f64 (ops x).lo, .float .f64 (ops x).hi] 41) → K (frf a.tmps x b) W') →
      assign.wpIn (Fence.wide.inRound l) (n - 1 - 1) Try.prog (Exit.then K (fun _ _ _ => False)) { tmps := (ps.zip (encB ops x)).foldl (fun t (p, v) => t.setIfInBounds p v) a.tmps, defers := [] } W)
    (hbody : ∀ (l : Nat) (u : Nat → Bool) (x : Fin nO) (b : Nat) (W : World) (Q' : Exit → Act → World → Prop), TrW Wm S NB nO u W → OpBox W b (ops x) → BS + 1 ≤ b → (∀ a' W', TrW Wm S NB nO (stepU (ops x) x u) W' → KeepsOthers W W' → ButS S (BS + 1) W W' → Q' .normal a' W') →
      body.wpIn (Fence.wide.inRound l) (n - 1 - 1) Try.prog Q' (frf a.tmps x b) W)
    (hdone : ∀ (D : Nat) (W : World), BS + 1 ≤ D → TrW Wm S NB nO (backU ops nO u0 nO) W → W.heap[D]? = some (.deferred (some [])) → Q .normal { a with defers := { target := .collected D, args := #[] } :: a.defers } W) :
    (Code.rangeFunc g ps assign body).wpIn Fence.wide n Try.prog Q a w := by
  have hsn := h0.sn
  have hw : BS < w.heap.size := World.block_lt_of_cell? _ _ hc
  have hOw : OpsAt w (.slice A nO cap) ops nO := hO.below (hS ▸ h0.bel)
  have hOb : ∀ b o, A = some ⟨b, o, none⟩ → 0 < nO → b < BS + 1 ∧ b ≠ S := by
    intro b o e hp
    obtain ⟨A', c', e1, h⟩ := hO
    cases e1
    obtain ⟨b', o', e2, _, _, h1, _⟩ := h 0 hp
    rw [e] at e2
    cases e2
    have := World.block_lt_of_cell? _ _ h1
    simp only at this
    omega
  refine wpIn_rangeFunc_ownH (F := Fence.wide) rfl (by omega) (gf := 21) hg trivial (enters_of Try.func21 (by kernel_rfl) rfl)
    (back_stops Fence.wide (n - 1) trivial rfl (by omega) (BS) nO cap A ops hreach w (ButS S (BS + 1)) ButS.refl ButS.trans (fun b => b < BS + 1 ∧ b ≠ S) (fun h b hb o => h.cell b hb o) hOb ⟨by omega, by omega⟩ hw hc hOw)
    ButS.trans (fun W l o o' h1 _ _ _ => ButS.put W l o' (by omega)) (Below.refl _ _) (fun _ => by rw [hps]; rfl)
    (fun pre W => TrW Wm S NB nO (foldU ops u0 pre) W ∧ BS + 1 ≤ W.heap.size) (fun _ _ _ => False) (ownFrom_trw (by omega)) (fun c s W W' row hs hg hr => hs) ⟨h0, hw⟩
    (fun x a' W => ∃ b, BS + 1 ≤ b ∧ OpBox W b (ops x) ∧ a' = frf a.tmps x b) ?_ ?_ ?_ ?_ ?_
  · intro x a' s W W' row hs hg hr
    obtain ⟨b, h1, h2, h3⟩ := hs
    exact ⟨b, h1, OpBox.own () W W' row h2 hg hr, h3⟩
  · rintro l pre x W K ⟨hI, hs⟩ hK
    refine hassign l x W K hs ?_
    rintro b W' rfl rfl
    have hb : Below W.heap.size W (W.alloc (Obj.cells #[.int .i64 (ops x).K, .int .i64 (ops x).A, .int .i64 (ops x).B, .int .i64 (ops x).N, .float .f64 (ops x).lo, .float .f64 (ops x).hi] 41)) := (Below.refl _ _).alloc (Nat.le_refl _) _
    exact hK _ _ ((KeepsOthers.alloc _ _).from _) (ButS.below hs hb) ⟨hI.below hb, Nat.le_trans hs hb.size⟩ ⟨_, hs, OpBox.new _ _, rfl⟩
  · rintro l pre x a' W hl hr ⟨hI, hs⟩ ⟨b, h1, h2, rfl⟩ hlt
    refine hbody l _ x b W _ hI h2 h1 ?_
    intro a' W' h3 h4 h5
    exact ⟨h4.from _, h5, show TrW Wm S NB nO (foldU ops u0 (pre ++ [x])) W' from by rw [foldU_snoc]; exact h3, Nat.le_trans hs h4.size⟩
  · rintro D xs W hD hS ⟨hI, _⟩ hK
    subst hS
    rw [foldU_all] at hI
    exact hdone D W (by omega) hI hK
  · intro D c pre W _ _ h _
    exact h.elim
end Go.Proofs.Ytpkgpkabmechkaa
