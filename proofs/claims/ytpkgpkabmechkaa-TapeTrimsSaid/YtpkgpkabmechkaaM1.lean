/- A tape trimmed: what is needed, and what is left (plain). -/
import Derived.Test.YtpkgpkabmechkaaT2
namespace Go.Proofs.Ytpkgpkabmechkaa
set_option linter.unusedSimpArgs false
set_option linter.unusedVariables false
open Go.RowKit
open Fl

def bareT (o : OpT) : OpT :=
  { K := o.K, A := if 0 < needI o.K then o.A else 0, B := if 1 < needI o.K then o.B else 0, N := if o.K = 2 ∨ o.K = 8 then o.N else 0, lo := if o.K = 1 then o.lo else 0, hi := if o.K = 1 then o.hi else 0 }
def setF {α : Type} (u : Nat → α) (i : Nat) (x : α) : Nat → α := fun j => if j = i then x else u j
theorem setF_same {α : Type} (u : Nat → α) (i : Nat) (x : α) : setF u i x i = x := if_pos rfl
theorem setF_other {α : Type} (u : Nat → α) {i j : Nat} (x : α) (h : j ≠ i) : setF u i x j = u j := if_neg h
def outU (outs : Nat → Int) : Nat → Nat → Bool
  | 0 => fun _ => false
  | k + 1 => setF (outU outs k) (outs k).toNat true
def stepU (o : OpT) (i : Nat) (u : Nat → Bool) : Nat → Bool :=
  if u i = true ∧ 0 < needI o.K then (if 1 < needI o.K then setF (setF u o.A.toNat true) o.B.toNat true else setF u o.A.toNat true) else u
def backU (ops : Nat → OpT) (n : Nat) (u0 : Nat → Bool) : Nat → Nat → Bool
  | 0 => u0
  | r + 1 => stepU (ops (n - 1 - r)) (n - 1 - r) (backU ops n u0 r)
def needF (ops : Nat → OpT) (outs : Nat → Int) (nO nN : Nat) : Nat → Bool := backU ops nO (outU outs nN) nO
def subT (o : OpT) (ix : Nat → Int) : OpT :=
  { bareT o with A := if 0 < needI o.K then ix o.A.toNat else 0, B := if 1 < needI o.K then ix o.B.toNat else 0 }
def sameT (o p : OpT) : Bool := decide (o.K = p.K) && (decide (o.A = p.A) && (decide (o.B = p.B) && (decide (o.N = p.N) && (feq o.lo p.lo && feq o.hi p.hi))))
def findT (o : OpT) (L : List OpT) : Option Nat := L.findIdx? (sameT o)
structure TrS where
  L : List OpT
  ix : Nat → Int
def trStep (u : Nat → Bool) (ops : Nat → OpT) (s : TrS) (k : Nat) : TrS :=
  if u k = true then
    match findT (subT (ops k) s.ix) s.L with
    | some j => ⟨s.L, setF s.ix k (j : Int)⟩
    | none => ⟨s.L ++ [subT (ops k) s.ix], setF s.ix k (s.L.length : Int)⟩
  else s
def trU (u : Nat → Bool) (ops : Nat → OpT) : Nat → TrS
  | 0 => ⟨[], fun _ => 0⟩
  | k + 1 => trStep u ops (trU u ops k) k
theorem trU_skip {u : Nat → Bool} {ops : Nat → OpT} {k : Nat} (h : u k = false) : trU u ops (k + 1) = trU u ops k := by
  show trStep u ops (trU u ops k) k = _
  unfold trStep
  rw [h]; rfl
theorem trU_old {u : Nat → Bool} {ops : Nat → OpT} {k j : Nat} (h : u k = true) (hf : findT (subT (ops k) (trU u ops k).ix) (trU u ops k).L = some j) :
    trU u ops (k + 1) = ⟨(trU u ops k).L, setF (trU u ops k).ix k (j : Int)⟩ := by
  show trStep u ops (trU u ops k) k = _
  unfold trStep
  rw [if_pos h, hf]
theorem trU_new {u : Nat → Bool} {ops : Nat → OpT} {k : Nat} (h : u k = true) (hf : findT (subT (ops k) (trU u ops k).ix) (trU u ops k).L = none) :
    trU u ops (k + 1) = ⟨(trU u ops k).L ++ [subT (ops k) (trU u ops k).ix], setF (trU u ops k).ix k ((trU u ops k).L.length : Int)⟩ := by
  show trStep u ops (trU u ops k) k = _
  unfold trStep
  rw [if_pos h, hf]
theorem trU_len (u : Nat → Bool) (ops : Nat → OpT) (k : Nat) : (trU u ops k).L.length ≤ k := by
  induction k with
  | zero => exact Nat.le_refl _
  | succ k ih =>
    rcases h : u k with _ | _
    · rw [trU_skip h]; omega
    · rcases hf : findT (subT (ops k) (trU u ops k).ix) (trU u ops k).L with _ | j
      · rw [trU_new h hf]; simp; omega
      · rw [trU_old h hf]; simp; omega
def trimL (ops : Nat → OpT) (outs : Nat → Int) (nO nN : Nat) : List OpT := (trU (needF ops outs nO nN) ops nO).L
def trimO (ops : Nat → OpT) (outs : Nat → Int) (nO nN : Nat) (j : Nat) : Int := (trU (needF ops outs nO nN) ops nO).ix (outs j).toNat
theorem findT_lt {o : OpT} {L : List OpT} {j : Nat} (h : findT o L = some j) : j < L.length := by
  unfold findT at h
  have := List.findIdx?_eq_some_iff_getElem.1 h
  exact this.1

theorem op_need {o : OpT} {i : Nat} {V : Int} (h : opR o i V) : (needI o.K = 0) ∨ (needI o.K = 1 ∧ 0 ≤ o.A ∧ o.A < i) ∨ (needI o.K = 2 ∧ 0 ≤ o.A ∧ o.A < i ∧ 0 ≤ o.B ∧ o.B < i) := by
  obtain ⟨K, A, B, N, lo, hi⟩ := o
  unfold opR at h
  simp only at h ⊢
  rcases op_kinds K with k | k | k | k | k | k
  · exact Or.inl (by rw [k]; decide)
  · exact Or.inl (by rw [k]; decide)
  · subst k
    obtain ⟨h1, h2, _⟩ := (OpR_8 ..).1 h
    exact Or.inr (Or.inl ⟨by decide, h1, h2⟩)
  · obtain ⟨h1, h2, h3, h4⟩ := (OpR_two k ..).1 h
    exact Or.inr (Or.inr ⟨by unfold needI; rw [if_neg (by omega), if_pos k], h1, h2, h3, h4⟩)
  · obtain ⟨h1, h2⟩ := (OpR_one k ..).1 h
    exact Or.inr (Or.inl ⟨by unfold needI; rw [if_neg (by omega), if_neg (by omega), if_pos (by omega)], h1, h2⟩)
  · exact absurd ((OpR_no k ..).1 h) id

/-! ### A row of cells of the call's own -/
structure RowB (W : World) (B : Nat) (f : Nat → Value) (n : Nat) : Prop where
  lt : B < W.heap.size
  c : ∀ j, j < n → W.cell? ⟨B, j, none⟩ = some (f j)
  z : ∀ j, j < n → W.frozen? ⟨B, j, none⟩ = false
namespace RowB
variable {W W' : World} {B n : Nat} {f : Nat → Value}
theorem below (h : RowB W B f n) (hb : Below W.heap.size W W') : RowB W' B f n :=
  ⟨Nat.lt_of_lt_of_le h.lt hb.size, fun j hj => cellBelow hb (h.c j hj), fun j hj => by
    have e := hb.block B h.lt
    have := h.z j hj
    simp only [World.frozen?] at this ⊢
    rw [e]; exact this⟩
theorem set (h : RowB W B f n) {i : Nat} (hi : i < n) (v : Value) : RowB (W.setCell ⟨B, i, none⟩ v) B (setF f i v) n := by
  refine ⟨by simpa using h.lt, fun j hj => ?_, fun j hj => by rw [World.frozen?_setCell]; exact h.z j hj⟩
  by_cases e : j = i
  · subst e
    rw [setF_same]
    exact World.cell?_setCell_same' _ _ _ (by rw [h.c j hj]; rfl)
  · rw [setF_other _ _ e]
    have := h.c j hj
    simp [go_sem, this, e]
theorem set_other (h : RowB W B f n) {a : Addr} (v : Value) (ha : a.block ≠ B) : RowB (W.setCell a v) B f n := by
  have e : (W.setCell a v).heap[B]? = W.heap[B]? := Below.heap_setCell _ _ _ _ (fun e => ha e.symm)
  refine ⟨by simpa using h.lt, fun j hj => ?_, fun j hj => by rw [World.frozen?_setCell]; exact h.z j hj⟩
  have := h.c j hj
  simp only [World.cell?] at this ⊢
  rw [e]; exact this
theorem congr (h : RowB W B f n) {g : Nat → Value} (e : ∀ j, j < n → f j = g j) : RowB W B g n := ⟨h.lt, fun j hj => by rw [h.c j hj, e j hj], h.z⟩
end RowB
end Go.Proofs.Ytpkgpkabmechkaa
