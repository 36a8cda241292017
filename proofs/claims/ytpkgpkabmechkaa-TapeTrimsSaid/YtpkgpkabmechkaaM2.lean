/- The map of a tape's operations, as the trimming makes it: what lies in it, what a look-up and a store tell. -/
import Derived.Test.YtpkgpkabmechkaaM1
import Derived.Maps.OwnOps
import Derived.Maps.OwnSet
import Derived.WideKeyRuns
import Derived.RangeFuncRecord
namespace Go.Proofs.Ytpkgpkabmechkaa
set_option linter.unusedSimpArgs false
set_option linter.unusedVariables false
open Go.RowKit
open Fl

def opV (o : OpT) : Value := (.agg #[.int .i64 o.K, .int .i64 o.A, .int .i64 o.B, .int .i64 o.N, .float .f64 o.lo, .float .f64 o.hi])

set_option maxHeartbeats 2000000 in
set_option maxRecDepth 100000 in
theorem run_sameT (o p : OpT) (w : World) : (Op.equal 41 (opV o) (opV p)).run Try.prog w = .ok (sameT o p) w := by
  have u1 := Try.underlying3
  have u2 := Try.underlying39
  have u3 := Try.underlying37
  have a1 := Try.isAgg3
  have a2 := Try.isAgg39
  have a3 := Try.isAgg37
  have z1 := Try.sizeOf3
  have z2 := Try.sizeOf39
  have z3 := Try.sizeOf37
  have hS : Try.prog.underlying 41 = some (.struct (Try.prog.fieldsOf 41)) := by kernel_rfl
  have hp : Try.prog.stoodInHeld 41 = false := by kernel_rfl
  have hS2 : Try.prog.underlying 39 = some (.struct (Try.prog.fieldsOf 39)) := by kernel_rfl
  have hp2 : Try.prog.stoodInHeld 39 = false := by kernel_rfl
  have hI : ∀ a b c d : Nat, (Op.equalIn 9999 39 (.agg #[.float .f64 a, .float .f64 b]) (.agg #[.float .f64 c, .float .f64 d])).run Try.prog w = .ok (feq a c && feq b d) w := by
    intro a b c d
    rw [show (9999 : Nat) = 9998 + 1 from rfl, run_equalIn_agg w 9998 39 _ _ hS2 hp2]
    simp only [Program.fieldsOf, u2]
    go_simp
    cases feq a c <;> cases feq b d <;> rfl
  unfold Op.equal Op.maxDepth opV sameT
  rw [show (10000 : Nat) = 9999 + 1 from rfl, run_equalIn_agg w 9999 41 _ _ hS hp]
  simp only [Program.fieldsOf, Try.underlying41]
  generalize o.K = a0, o.A = a1, o.B = a2, o.N = a3, o.lo = a4, o.hi = a5, p.K = b0, p.A = b1, p.B = b2, p.N = b3, p.lo = b4, p.hi = b5
  go_simp
  by_cases h0 : a0 = b0 <;> by_cases h1 : a1 = b1 <;> by_cases h2 : a2 = b2 <;> by_cases h3 : a3 = b3 <;> cases feq a4 b4 <;> cases feq a5 b5 <;> simp [h0, h1, h2, h3]

theorem run_checkT (o : OpT) (w : World) (em : Bool) : (Instr.checkKey em 10000 41 (opV o)).run Try.prog w = .ok () w := by
  kernel_rfl

def entsT : Nat → List OpT → List MapEntry
  | _, [] => []
  | i, p :: ps => { key := opV p, val := .int .i64 (i : Int), born := i } :: entsT (i + 1) ps
theorem entsT_append (o : OpT) : ∀ (L : List OpT) (i : Nat), entsT i (L ++ [o]) = entsT i L ++ [{ key := opV o, val := .int .i64 ((i + L.length : Nat) : Int), born := i + L.length }]
  | [], i => rfl
  | p :: ps, i => by
    simp only [List.cons_append, entsT, entsT_append o ps (i + 1), List.length_cons]
    rw [show i + 1 + ps.length = i + (ps.length + 1) by omega]
def MapT (w : World) (b : Nat) (L : List OpT) : Prop := w.heap[b]? = some (.map (entsT 0 L).toArray L.length)

theorem run_findT (o : OpT) (w : World) : ∀ (L : List OpT) (i : Nat), (Instr.findAsking 41 (opV o) (entsT i L) i).run Try.prog w = .ok ((L.findIdx? (sameT o)).map fun j => (i + j, .int .i64 ((i + j : Nat) : Int))) w
  | [], i => by simp [entsT, Instr.findAsking]
  | p :: ps, i => by
    simp only [entsT, Instr.findAsking, Sem.run_bind, run_sameT, Result.andThen_ok, List.findIdx?_cons]
    cases h : sameT o p
    · simp only [Bool.false_eq_true, if_false, Sem.run_ite, run_findT o w ps (i + 1)]
      congr 1
      cases ps.findIdx? (sameT o) with
      | none => rfl
      | some j => simp; omega
    · simp

theorem run_lookT {w : World} {b : Nat} {L : List OpT} (h : MapT w b L) (o : OpT) :
    (Instr.lookup 43 (.map (some b)) (opV o) true).run Try.prog w = .ok (match findT o L with | some j => .tuple #[.int .i64 (j : Int), .bool true] | none => .tuple #[.int .i64 0, .bool false]) w := by
  have hw : ∀ es, (Instr.findKey 41 (opV o) es).run Try.prog w = (Instr.findAsking 41 (opV o) es).run Try.prog w := fun es => run_findKey_eq w (by kernel_rfl) (opV o) es
  have hf := run_findT o w L 0
  have hz : (zeroValue 3).run Try.prog w = .ok (.int .i64 0) w := by kernel_rfl
  unfold findT
  simp only [Instr.lookup, Sem.run_bind, run_underlying Try.underlying43, Result.andThen_ok, MapKept.run_getObj_map h, run_checkT, hw, hf, Sem.run_pure]
  cases L.findIdx? (sameT o) with
  | none => simp [hz]
  | some j => simp

theorem run_putT {w : World} {b : Nat} {L : List OpT} (h : MapT w b L) {o : OpT} (ho : findT o L = none) :
    (Instr.mapUpdate 43 (.map (some b)) (opV o) (.int .i64 (L.length : Int))).run Try.prog w = .ok () (w.putObj b (.map (entsT 0 (L ++ [o])).toArray (L ++ [o]).length)) := by
  have hw : ∀ es, (Instr.findKey 41 (opV o) es).run Try.prog w = (Instr.findAsking 41 (opV o) es).run Try.prog w := fun es => run_findKey_eq w (by kernel_rfl) (opV o) es
  have hf := run_findT o w L 0
  unfold findT at ho
  rw [ho] at hf
  simp only [Instr.mapUpdate, Sem.run_bind, run_underlying Try.underlying43, Result.andThen_ok, MapKept.run_getObj_map h, run_checkT, hw, hf, Sem.run_pure, Option.map_none, MapKept.run_setObj_map _ h]
  rw [entsT_append]
  simp [World.putObj]

theorem MapT.put {w : World} {b : Nat} {L : List OpT} (h : MapT w b L) (L' : List OpT) : MapT (w.putObj b (.map (entsT 0 L').toArray L'.length)) b L' :=
  World.putObj_heap_same (Array.getElem?_eq_some_iff.1 h).1
theorem MapT.grown {w : World} {b : Nat} {L : List OpT} (h : MapT w b L) (L' : List OpT) : w.grownBy (w.putObj b (.map (entsT 0 L').toArray L'.length)) (some b) :=
  ⟨rfl, rfl, rfl, by simp [World.putObj], fun i _ hi => World.putObj_heap_other (fun e => hi (by rw [e]))⟩
theorem MapT.lt {w : World} {b : Nat} {L : List OpT} (h : MapT w b L) : b < w.heap.size := (Array.getElem?_eq_some_iff.1 h).1
theorem MapT.below {w w' : World} {b : Nat} {L : List OpT} (h : MapT w b L) (hb : Below w.heap.size w w') : MapT w' b L := (hb.block b h.lt).trans h
theorem MapT.kept {w w' : World} {b : Nat} {L : List OpT} {row : Option Nat} (h : MapT w b L) (hg : w.grownBy w' row) (hr : row ≠ some b) : MapT w' b L := (hg.block b h.lt (fun e => hr e.symm)).trans h
theorem MapT.set {w : World} {b : Nat} {L : List OpT} (h : MapT w b L) {a : Addr} (v : Value) (ha : a.block ≠ b) : MapT (w.setCell a v) b L := (Below.heap_setCell _ _ _ _ (fun e => ha e.symm)).trans h

theorem wpList_lookT (w : World) {ops : Array Oper} {rest : List Oper} {o : Oper} {a : Act} {Q : Exit → Act → World → Prop} (hg : o.guard = none) (m x : Operand) (hop : o.op = Op.lookup 43 m x true)
    {b : Nat} {L : List OpT} (hm : a.eval m = .map (some b)) (h : MapT w b L) (p : OpT) (hx : a.eval x = opV p) (v : Int) (is : Bool) (hv : (findT p L = some v.toNat ∧ is = true ∧ 0 ≤ v) ∨ (findT p L = none ∧ is = false ∧ v = 0))
    (hK : wpList Try.prog ops Q rest (a.put o.dst (.tuple #[.int .i64 v, .bool is])) w) : wpList Try.prog ops Q (o :: rest) a w := by
  refine wpList_plain hg fun K' hK' => ?_
  have hrun := run_lookT h p
  have e : (match findT p L with | some j => Value.tuple #[.int .i64 (j : Int), .bool true] | none => .tuple #[.int .i64 0, .bool false]) = .tuple #[.int .i64 v, .bool is] := by
    rcases hv with ⟨h1, rfl, h3⟩ | ⟨h1, rfl, rfl⟩
    · rw [h1]; simp only []; rw [Int.toNat_of_nonneg h3]
    · rw [h1]
  rw [e] at hrun
  unfold Oper.wp
  simp [execOp, hop, hm, hx, hrun, Result.andThen]
  exact hK' _ _ hK

theorem wpList_putT (w : World) {ops : Array Oper} {rest : List Oper} {o : Oper} {a : Act} {Q : Exit → Act → World → Prop} (hg : o.guard = none) (m x v : Operand) (hop : o.op = Op.mapUpdate 43 m x v)
    {b : Nat} {L : List OpT} (hm : a.eval m = .map (some b)) (h : MapT w b L) (p : OpT) (hx : a.eval x = opV p) (hv : a.eval v = .int .i64 (L.length : Int)) (hf : findT p L = none)
    (hK : ∀ w', MapT w' b (L ++ [p]) → w.grownBy w' (some b) → wpList Try.prog ops Q rest (a.put o.dst undef) w') : wpList Try.prog ops Q (o :: rest) a w := by
  refine wpList_plain hg fun K' hK' => ?_
  have hrun := run_putT h hf
  have hb1 := h.put (L ++ [p])
  have hb2 := h.grown (L ++ [p])
  generalize w.putObj b (.map (entsT 0 (L ++ [p])).toArray (L ++ [p]).length) = w' at hrun hb1 hb2
  unfold Oper.wp
  simp [execOp, hop, hm, hx, hv, hrun, Result.andThen]
  exact hK' _ _ (hK _ hb1 hb2)
end Go.Proofs.Ytpkgpkabmechkaa
