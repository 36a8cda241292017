/- Words for the trimming. -/
import Derived.Test.YtpkgpkabmechkaaM5
namespace Go.Proofs.Ytpkgpkabmechkaa
set_option linter.unusedSimpArgs false
set_option linter.unusedVariables false
open Go.RowKit Go.Shelf
open Fl
attribute [local go_sem] Oper.semAt_some

theorem cut_worldM {P : Program} {c : Code} {Q : Exit → Act → World → Prop} {a : Act} {w : World} (h : ∀ W, w = W → c.wp P Q a W) : c.wp P Q a w := h w rfl
def listF (L : List OpT) (i : Nat) : OpT := L.getD i ⟨0, 0, 0, 0, 0, 0⟩
def TrimRes (w : World) (good : Prop) (V : Int) (L : List OpT) (os : Nat → Int) (nN : Nat) (e : Ending) (w' : World) : Prop :=
  ∃ V' vO' vN' E, e = .returned (.tuple #[.agg #[.int .i64 V', vO', vN'], .int .i64 E]) ∧ Below w.heap.size w w' ∧ (¬ good → E = 50 ∧ V' = 0 ∧ vO' = .slice none 0 0 ∧ vN' = .slice none 0 0) ∧ (good → E = 0 ∧ V' = V ∧ OpsAt w' vO' (listF L) L.length ∧ OutsAt w' vN' os nN)

theorem info4 : (Try.prog.info? 4).map (fun i => (i.zero, i.size, i.bytes)) = some (some (.bool false), 1, 1) := by kernel_rfl
theorem info3 : (Try.prog.info? 3).map (fun i => (i.zero, i.size, i.bytes)) = some (some (.int .i64 0), 1, 8) := by kernel_rfl
theorem info41 : (Try.prog.info? 41).map (fun i => (i.zero, i.size, i.bytes)) = some (some (.agg #[.int .i64 0, .int .i64 0, .int .i64 0, .int .i64 0, .float .f64 0, .float .f64 0]), 6, 48) := by kernel_rfl

theorem made_row {W : World} {base e g n : Nat} {z : Value} (h : W.ownsRow base e 1 (.slice (some ⟨g, 0, none⟩) n n) n (madeCells z.cells (n * 1)).toList) (hz : z.cells = #[z]) : RowB W g (fun _ => z) n := by
  have hx : (madeCells z.cells (n * 1)).toList = List.replicate n z := by rw [hz, Nat.mul_one, toList_madeCells_one]
  rw [hx] at h
  have hc := h.cells (g := g) rfl
  have hl := (h.lt g rfl).2
  obtain ⟨_, ⟨e1, _⟩ | ⟨g', cap, cur, e1, _, hb, _⟩⟩ := h
  · cases e1
  · cases e1
    refine ⟨hl, fun j hj => ?_, fun j hj => ?_⟩
    · have := hc j z (by rw [List.getElem?_replicate, if_pos hj])
      have ha : (⟨g, 0, none⟩ : Addr).add j = ⟨g, j, none⟩ := by cases j <;> simp [Addr.add]
      rw [ha] at this
      exact this
    · simp [World.frozen?, hb]

/-- A block of a tape. -/
def TapeBox (W : World) (b : Nat) (V : Int) (v v' : Value) : Prop := W.heap[b]? = some (Obj.cells #[.int .i64 V, v, v'] 25)
namespace TapeBox
variable {W W' : World} {b : Nat} {V : Int} {v v' : Value}
theorem lt (h : TapeBox W b V v v') : b < W.heap.size := (Array.getElem?_eq_some_iff.1 h).1
theorem c0 (h : TapeBox W b V v v') : W.cell? ⟨b, 0, none⟩ = some (.int .i64 V) := by unfold TapeBox at h; simp [World.cell?, h]
theorem c1 (h : TapeBox W b V v v') : W.cell? ⟨b, 1, none⟩ = some v := by unfold TapeBox at h; simp [World.cell?, h]
theorem c2 (h : TapeBox W b V v v') : W.cell? ⟨b, 2, none⟩ = some v' := by unfold TapeBox at h; simp [World.cell?, h]
theorem fz (h : TapeBox W b V v v') (j : Nat) (hj : j < 3) : W.frozen? ⟨b, j, none⟩ = false := by
  unfold TapeBox at h
  rcases j with _ | _ | _ | j
  all_goals first | (simp [World.frozen?, h]; done) | omega
theorem below (h : TapeBox W b V v v') (hb : Below W.heap.size W W') : TapeBox W' b V v v' := (hb.block b h.lt).trans h
theorem belowB {B : Nat} (h : TapeBox W b V v v') (hb : Below B W W') (hB : b < B) : TapeBox W' b V v v' := (hb.block b hB).trans h
theorem grown {row : Option Nat} (h : TapeBox W b V v v') (hg : W.grownBy W' row) (hr : row ≠ some b) : TapeBox W' b V v v' := (hg.block b h.lt (fun e => hr e.symm)).trans h
theorem set_other (h : TapeBox W b V v v') {a : Addr} (u : Value) (ha : a.block ≠ b) : TapeBox (W.setCell a u) b V v v' := (Below.heap_setCell _ _ _ _ (fun e => ha e.symm)).trans h
theorem set0 (h : TapeBox W b V v v') (V' : Int) : TapeBox (W.setCell ⟨b, 0, none⟩ (.int .i64 V')) b V' v v' := by
  have hl := h.lt
  unfold TapeBox at h ⊢
  unfold World.setCell
  simp [Array.getElem?_modify, h]
theorem set1 (h : TapeBox W b V v v') (u : Value) : TapeBox (W.setCell ⟨b, 1, none⟩ u) b V u v' := by
  have hl := h.lt
  unfold TapeBox at h ⊢
  unfold World.setCell
  simp [Array.getElem?_modify, h]
theorem set2 (h : TapeBox W b V v v') (u : Value) : TapeBox (W.setCell ⟨b, 2, none⟩ u) b V v u := by
  have hl := h.lt
  unfold TapeBox at h ⊢
  unfold World.setCell
  simp [Array.getElem?_modify, h]
theorem new (W : World) (V : Int) (v v' : Value) : TapeBox (W.alloc (Obj.cells #[.int .i64 V, v, v'] 25)) W.heap.size V v v' := by
  unfold TapeBox World.alloc; simp [Array.getElem?_push]
end TapeBox

end Go.Proofs.Ytpkgpkabmechkaa
