/- Words for the walks: what a call gives in whatever world, leaving all that was there; a region that draws its order, whose operations read and whose callees make new memory alone. -/
import Derived.Test.YtkmgfbhnioojhaaGreatRows
import Derived.Test.YtkmgfbhnioojhaaGreatPmFlA
import Derived.WalkKit
import Derived.WalkSpells
import Derived.WalkLawsBesides
import Derived.Deep.QuietTactic
import Derived.BigQuiet
import Derived.Deep.RegionHeld3
import Derived.Deep.Cut
import Derived.Deep.CutRange
import Derived.Deep.DeepCutAuto
import Derived.Handy
import Derived.Lib.Hide
namespace Go.Proofs.YtkmgfbhnioojhaaGreat
set_option linter.unusedSimpArgs false
set_option linter.unusedVariables false
open Go.RowKit
open Fl

attribute [go_sem high] Fl.bin_eql Fl.bin_neq Fl.bin_lss Fl.bin_leq Fl.bin_gtr Fl.bin_geq

section
variable (P : Program) (w : World) (t : TypeId) (a b : Nat)
@[go_sem] theorem run_fadd : (binOp .add t (.float .f64 a) (.float .f64 b)).run P w = .ok (.float .f64 (fop .add a b w)) (w.drewN (nd .add a b)) := run_fop _ (by simp) P w t a b
@[go_sem] theorem run_store_float (p : Addr) (k : FloatKind) (b : Nat) (m : Mode) : (store p (.float k b) m).run P w = stored P w p (.float k b) m := run_store P w p _ m rfl
@[go_sem] theorem run_equalIn_float (d : Nat) (u : TypeId) (k' : FloatKind) (h : P.underlying u = some (.float k')) : (Op.equalIn (d + 1) u (.float .f64 a) (.float .f64 b)).run P w = .ok (feq a b) w := by
  simp only [Op.equalIn, Sem.run_bind, run_underlying h, Result.andThen_ok]
  show Result.ok (FloatKind.f64.format.order a b == some .eq) w = _
  rw [eq_iff]; rfl
@[go_sem] theorem run_fsub : (binOp .sub t (.float .f64 a) (.float .f64 b)).run P w = .ok (.float .f64 (fop .sub a b w)) (w.drewN (nd .sub a b)) := run_fop _ (by simp) P w t a b
@[go_sem] theorem run_fmul : (binOp .mul t (.float .f64 a) (.float .f64 b)).run P w = .ok (.float .f64 (fop .mul a b w)) (w.drewN (nd .mul a b)) := run_fop _ (by simp) P w t a b
@[go_sem] theorem run_fquo : (binOp .quo t (.float .f64 a) (.float .f64 b)).run P w = .ok (.float .f64 (fop .quo a b w)) (w.drewN (nd .quo a b)) := run_fop _ (by simp) P w t a b
end

/-- A world that comes later: all that was there is as it was. -/
structure Later (w : World) where
  val : World
  below : Below w.heap.size w val

instance (w : World) : Nonempty (Later w) := ⟨⟨w, Below.refl _ _⟩⟩

/-- The heap has at least n blocks. -/
class Ge (w : World) (n : Nat) : Prop where
  le : n ≤ w.heap.size

instance Ge.self (w : World) : Ge w w.heap.size := ⟨Nat.le_refl _⟩
instance Ge.grows (w : World) (o : Obj) (n : Nat) [h : Ge w n] : Ge (w.alloc o) (n + 1) := ⟨by have := h.le; simp; omega⟩
instance Ge.alloc (w : World) (o : Obj) (n : Nat) [h : Ge w n] : Ge (w.alloc o) n := ⟨by have := h.le; simp; omega⟩
instance Ge.later (w : World) (m : Later w) (n : Nat) [h : Ge w n] : Ge m.val n := ⟨Nat.le_trans h.le m.below.size⟩
instance Ge.setCell (w : World) (a : Addr) (v : Value) (n : Nat) [h : Ge w n] : Ge (w.setCell a v) n := ⟨by have := h.le; simp; omega⟩
instance Ge.drewN (w : World) (k : Nat) (n : Nat) [h : Ge w n] : Ge (w.drewN k) n := ⟨h.le⟩
instance Ge.drew (w : World) (n : Nat) [h : Ge w n] : Ge w.drew n := ⟨h.le⟩

section
variable (w : World) (n : Nat) [h : Ge w (n + 1)]
@[go_sem] theorem Ge.lt : (n < w.heap.size) = True := by have := h.le; simp; omega
@[go_sem] theorem Ge.ltk (k : Nat) : (n < w.heap.size + k) = True := by have := h.le; simp; omega
@[go_sem] theorem Ge.lek : (n ≤ w.heap.size) = True := by have := h.le; simp; omega
@[go_sem] theorem Ge.ne : (n = w.heap.size) = False := by have := h.le; simp; omega
@[go_sem] theorem Ge.nek (k : Nat) : (n = w.heap.size + k) = False := by have := h.le; simp; omega
@[go_sem] theorem Ge.ne' : (w.heap.size = n) = False := by have := h.le; simp; omega
@[go_sem] theorem Ge.nek' (k : Nat) : (w.heap.size + k = n) = False := by have := h.le; simp; omega
end

@[go_sem] theorem Later.cell {w : World} (m : Later w) (b o : Nat) [h : Ge w (b + 1)] : m.val.cell? ⟨b, o, none⟩ = w.cell? ⟨b, o, none⟩ := m.below.cell (p := ⟨b, o, none⟩) h.le
@[go_sem] theorem Later.frozen {w : World} (m : Later w) (b o : Nat) [h : Ge w (b + 1)] : m.val.frozen? ⟨b, o, none⟩ = w.frozen? ⟨b, o, none⟩ := m.below.frozen (p := ⟨b, o, none⟩) h.le
@[go_sem] theorem cell_alloc_old {w : World} (x : Obj) (b o : Nat) [h : Ge w (b + 1)] : (w.alloc x).cell? ⟨b, o, none⟩ = w.cell? ⟨b, o, none⟩ := World.cell?_alloc_lt _ _ _ h.le
@[go_sem] theorem frozen_alloc_old {w : World} (x : Obj) (b o : Nat) [h : Ge w (b + 1)] : (w.alloc x).frozen? ⟨b, o, none⟩ = w.frozen? ⟨b, o, none⟩ := World.frozen?_alloc_old _ _ _ (by have := h.le; simp; omega)

/-- The call returns v in whatever world, and leaves all that was there. -/
def Gives (f : FuncId) (args : Array Value) (v : Value) : Prop := ∀ w : World, Calls Tryz.prog f args w fun e w' => e = .returned v ∧ Below w.heap.size w w'

/-- At a call. -/
theorem Gives.go {f : FuncId} {args : Array Value} {v : Value} (h : Gives f args v) (w : World) : Calls Tryz.prog f args w fun e w' => ∃ n : Later w, e = .returned v ∧ w' = n.val :=
  (h w).mono fun _ w' ⟨he, hb⟩ => ⟨⟨w', hb⟩, he, rfl⟩

theorem Gives.later {f : FuncId} {args : Array Value} {v : Value} {w : World} (h : Gives f args v) (n : Later w) :
    Calls Tryz.prog f args n.val fun e w'' => e = .returned v ∧ ∃ m : Later w, w'' = m.val :=
  (h n.val).mono fun _ w'' ⟨he, hb⟩ => ⟨he, ⟨w'', n.below.trans (hb.mono n.below.size)⟩, rfl⟩

/-- A region that draws, walked in the order of the text, in worlds that come later. -/
theorem wp_region_later {id : Nat} {Q : Exit → Act → World → Prop} {a : Act} {w : World} {l : List Oper} (hm : Tryz.prog.follows .mixedOrders = true) (hB : Region.lexB .any l.toArray = true)
    (h : wpQuiet Tryz.prog l.toArray (fun w' => ∃ n : Later w, w' = n.val) (fun a' => ∀ w', (∃ n : Later w, w' = n.val) → Q .normal a' w') l a) : (Code.region id l.toArray true).wp Tryz.prog Q a w :=
  wp_region_quiet (C := fun w' => ∃ n : Later w, w' = n.val) hm hB ⟨⟨_, (Below.refl _ w).drew⟩, rfl⟩ (by simpa using h)

theorem byB (b : Bool) {p : Prop} (x : b = true → p) (y : b = false → p) : p := match b, x, y with | true, x, _ => x rfl | false, _, y => y rfl
theorem tof (b : Bool) : b = true ∨ b = false := by cases b <;> simp
theorem fot (b : Bool) : b = false ∨ b = true := by cases b <;> simp
theorem ret_bool {a b : Bool} (h : a = b) : Ending.returned (.bool a) = .returned (.bool b) := by rw [h]
theorem ret_float {a b : Nat} (h : a = b) : Ending.returned (.float .f64 a) = .returned (.float .f64 b) := by rw [h]
theorem ret_int {k : IntKind} {a b : Int} (h : a = b) : Ending.returned (.int k a) = .returned (.int k b) := by rw [h]

theorem Later.belowOf {B : Nat} {w w1 : World} (n : Later w1) (h : Below B w w1) (hB : B ≤ w1.heap.size) : Below B w n.val := h.trans (n.below.mono hB)
theorem _root_.Go.RowKit.Below.drewN' {B : Nat} {a w : World} (n : Nat) (h : Below B a w) : Below B a (w.drewN n) := ⟨h.os, h.tape, h.output, h.size, h.block⟩

/-! ### Functions without a body -/

@[go_sem] theorem run_fbits (x : Nat) (w : World) : (callFunc 171 #[.float .f64 x]).run Tryz.prog w = .ok (.value (.int .u64 x)) w := by
  rw [run_callFunc_extern Tryz.func171 (by kernel_rfl) (by kernel_rfl) (by kernel_rfl) (e := Extern.MathFloatBits.float64bits) (by kernel_rfl)]
  rfl

@[go_sem] theorem run_frombits (x : Int) (w : World) : (callFunc 172 #[.int .u64 x]).run Tryz.prog w = .ok (.value (.float .f64 x.toNat)) w := by
  rw [run_callFunc_extern Tryz.func172 (by kernel_rfl) (by kernel_rfl) (by kernel_rfl) (e := Extern.MathFloatBits.float64frombits) (by kernel_rfl)]
  rfl

end Go.Proofs.YtkmgfbhnioojhaaGreat
