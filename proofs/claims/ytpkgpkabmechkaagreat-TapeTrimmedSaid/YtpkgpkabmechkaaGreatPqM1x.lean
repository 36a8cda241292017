/- A tape trimmed: what is needed, and what is left (plain). -/
import Derived.Test.YtpkgpkabmechkaaGreatPqT2
import Derived.Maps.OwnOps
import Derived.Maps.OwnSet
import Derived.WideKeyRuns
import Derived.RangeFuncRecord
namespace Go.Proofs.YtpkgpkabmechkaaGreat
set_option linter.unusedSimpArgs false
set_option linter.unusedVariables false
open Go.RowKit
open Fl

def bareT (o : OpT) : OpT :=
  { K := o.K, A := if 0 < needI o.K then o.A else 0, B := if 1 < needI o.K then o.B else 0, N := if o.K = 2 ∨ o.K = 8 then o.N else 0, lo := if o.K = 1 then o.lo else 0, hi := if o.K = 1 then o.hi else 0 }
def setF {α : Type} (u : Nat → α) (i : Nat) (x : α) : Nat → α := fun j => if j = i then x else u j
theorem setF_same {α : Type} (u : Nat → α) (i : Nat) (x : α) : setF u i x i = x := if_pos rfl
theorem setF_other {α : Type} (u : Nat → α) {i j : Nat} (x : α) (h : j ≠ i) : setF u i x j = u j := if_neg h
def outU (outs : Nat → Int) : Nat → Nat → Bool
  | 0 => fun _ => false
  | k + 1 => setF (outU outs k) (outs k).toNat true
def stepU (o : OpT) (i : Nat) (u : Nat → Bool) : Nat → Bool :=
  if u i = true ∧ 0 < needI o.K then (if 1 < needI o.K then setF (setF u o.A.toNat true) o.B.toNat true else setF u o.A.toNat true) else u
def backU (ops : Nat → OpT) (n : Nat) (u0 : Nat → Bool) : Nat → Nat → Bool
  | 0 => u0
  | r + 1 => stepU (ops (n - 1 - r)) (n - 1 - r) (backU ops n u0 r)
def needF (ops : Nat → OpT) (outs : Nat → Int) (nO nN : Nat) : Nat → Bool := backU ops nO (outU outs nN) nO
def subT (o : OpT) (ix : Nat → Int) : OpT :=
  { bareT o with A := if 0 < needI o.K then ix o.A.toNat else 0, B := if 1 < needI o.K then ix o.B.toNat else 0 }
def sameT (o p : OpT) : Bool := decide (o.K = p.K) && (decide (o.A = p.A) && (decide (o.B = p.B) && (decide (o.N = p.N) && (feq o.lo p.lo && feq o.hi p.hi))))
def findT (o : OpT) (L : List OpT) : Option Nat := L.findIdx? (sameT o)
structure TrS where
  L : List OpT
  ix : Nat → Int
def trStep (u : Nat → Bool) (ops : Nat → OpT) (s : TrS) (k : Nat) : TrS :=
  if u k = true then
    match findT (subT (ops k) s.ix) s.L with
    | some j => ⟨s.L, setF s.ix k (j : Int)⟩
    | none => ⟨s.L ++ [subT (ops k) s.ix], setF s.ix k (s.L.length : Int)⟩
  else s
def trU (u : Nat → Bool) (ops : Nat → OpT) : Nat → TrS
  | 0 => ⟨[], fun _ => 0⟩
  | k + 1 => trStep u ops (trU u ops k) k
theorem trU_skip {u : Nat → Bool} {ops : Nat → OpT} {k : Nat} (h : u k = false) : trU u ops (k + 1) = trU u ops k := by
  show trStep u ops (trU u ops k) k = _
  unfold trStep
  rw [h]; rfl
theorem trU_old {u : Nat → Bool} {ops : Nat → OpT} {k j : Nat} (h : u k = true) (hf : findT (subT (ops k) (trU u ops k).ix) (trU u ops k).L = some j) :
    trU u ops (k + 1) = ⟨(trU u ops k).L, setF (trU u ops k).ix k (j : Int)⟩ := by
  show trStep u ops (trU u ops k) k = _
  unfold trStep
  rw [if_pos h, hf]
theorem trU_new {u : Nat → Bool} {ops : Nat → OpT} {k : Nat} (h : u k = true) (hf : findT (subT (ops k) (trU u ops k).ix) (trU u ops k).L = none) :
    trU u ops (k + 1) = ⟨(trU u ops k).L ++ [subT (ops k) (trU u ops k).ix], setF (trU u ops k).ix k ((trU u ops k).L.length : Int)⟩ := by
  show trStep u ops (trU u ops k) k = _
  unfold trStep
  rw [if_pos h, hf]
theorem trU_len (u : Nat → Bool) (ops : Nat → OpT) (k : Nat) : (trU u ops k).L.length ≤ k := by
  induction k with
  | zero => exact Nat.le_refl _
  | succ k ih =>
    rcases h : u k with _ | _
    · rw [trU_skip h]; omega
    · rcases hf : findT (subT (ops k) (trU u ops k).ix) (trU u ops k).L with _ | j
      · rw [trU_new h hf]; simp; omega
      · rw [trU_old h hf]; simp; omega
def trimL (ops : Nat → OpT) (outs : Nat → Int) (nO nN : Nat) : List OpT := (trU (needF ops outs nO nN) ops nO).L
def trimO (ops : Nat → OpT) (outs : Nat → Int) (nO nN : Nat) (j : Nat) : Int := (trU (needF ops outs nO nN) ops nO).ix (outs j).toNat
theorem op_need {o : OpT} {i : Nat} {V : Int} (h : opR o i V) : (needI o.K = 0) ∨ (needI o.K = 1 ∧ 0 ≤ o.A ∧ o.A < i) ∨ (needI o.K = 2 ∧ 0 ≤ o.A ∧ o.A < i ∧ 0 ≤ o.B ∧ o.B < i) := by
  obtain ⟨K, A, B, N, lo, hi⟩ := o
  unfold opR at h
  simp only at h ⊢
  rcases op_kinds K with k | k | k | k | k | k
  · exact Or.inl (by rw [k]; decide)
  · exact Or.inl (by rw [k]; decide)
  · subst k
    obtain ⟨h1, h2, _⟩ := (OpR_8 ..).1 h
    exact Or.inr (Or.inl ⟨by decide, h1, h2⟩)
  · obtain ⟨h1, h2, h3, h4⟩ := (OpR_two k ..).1 h
    exact Or.inr (Or.inr ⟨by unfold needI; rw [if_neg (by omega), if_pos k], h1, h2, h3, h4⟩)
  · obtain ⟨h1, h2⟩ := (OpR_one k ..).1 h
    exact Or.inr (Or.inl ⟨by unfold needI; rw [if_neg (by omega), if_neg (by omega), if_pos (by omega)], h1, h2⟩)
  · exact absurd ((OpR_no k ..).1 h) id

/-! ### A row of cells of the call's own -/
structure RowB (W : World) (B : Nat) (f : Nat → Value) (n : Nat) : Prop where
  lt : B < W.heap.size
  c : ∀ j, j < n → W.cell? ⟨B, j, none⟩ = some (f j)
  z : ∀ j, j < n → W.frozen? ⟨B, j, none⟩ = false
namespace RowB
variable {W W' : World} {B n : Nat} {f : Nat → Value}
theorem below (h : RowB W B f n) (hb : Below W.heap.size W W') : RowB W' B f n :=
  ⟨Nat.lt_of_lt_of_le h.lt hb.size, fun j hj => cellBelow hb (h.c j hj), fun j hj => by
    have e := hb.block B h.lt
    have := h.z j hj
    simp only [World.frozen?] at this ⊢
    rw [e]; exact this⟩
theorem set (h : RowB W B f n) {i : Nat} (hi : i < n) (v : Value) : RowB (W.setCell ⟨B, i, none⟩ v) B (setF f i v) n := by
  refine ⟨by simpa using h.lt, fun j hj => ?_, fun j hj => by rw [World.frozen?_setCell]; exact h.z j hj⟩
  by_cases e : j = i
  · subst e
    rw [setF_same]
    exact World.cell?_setCell_same' _ _ _ (by rw [h.c j hj]; rfl)
  · rw [setF_other _ _ e]
    have := h.c j hj
    simp [go_sem, this, e]
theorem set_other (h : RowB W B f n) {a : Addr} (v : Value) (ha : a.block ≠ B) : RowB (W.setCell a v) B f n := by
  have e : (W.setCell a v).heap[B]? = W.heap[B]? := Below.heap_setCell _ _ _ _ (fun e => ha e.symm)
  refine ⟨by simpa using h.lt, fun j hj => ?_, fun j hj => by rw [World.frozen?_setCell]; exact h.z j hj⟩
  have := h.c j hj
  simp only [World.cell?] at this ⊢
  rw [e]; exact this
theorem congr (h : RowB W B f n) {g : Nat → Value} (e : ∀ j, j < n → f j = g j) : RowB W B g n := ⟨h.lt, fun j hj => by rw [h.c j hj, e j hj], h.z⟩
end RowB
end Go.Proofs.YtpkgpkabmechkaaGreat

/- The map of a tape's operations, as the trimming makes it: what lies in it, what a look-up and a store tell. -/
namespace Go.Proofs.YtpkgpkabmechkaaGreat
set_option linter.unusedSimpArgs false
set_option linter.unusedVariables false
open Go.RowKit
open Fl

def opV (o : OpT) : Value := (.agg #[.int .i64 o.K, .int .i64 o.A, .int .i64 o.B, .int .i64 o.N, .float .f64 o.lo, .float .f64 o.hi])

set_option maxHeartbeats 2000000 in
set_option maxRecDepth 100000 in
theorem run_sameT (o p : OpT) (w : World) : (Op.equal 66 (opV o) (opV p)).run Tryz.prog w = .ok (sameT o p) w := by
  have u1 := Tryz.underlying3
  have u2 := Tryz.underlying24
  have u3 := Tryz.underlying22
  have a1 := Tryz.isAgg3
  have a2 := Tryz.isAgg24
  have a3 := Tryz.isAgg22
  have z1 := Tryz.sizeOf3
  have z2 := Tryz.sizeOf24
  have z3 := Tryz.sizeOf22
  have hS : Tryz.prog.underlying 66 = some (.struct (Tryz.prog.fieldsOf 66)) := by kernel_rfl
  have hp : Tryz.prog.stoodInHeld 66 = false := by kernel_rfl
  have hS2 : Tryz.prog.underlying 24 = some (.struct (Tryz.prog.fieldsOf 24)) := by kernel_rfl
  have hp2 : Tryz.prog.stoodInHeld 24 = false := by kernel_rfl
  have hI : ∀ a b c d : Nat, (Op.equalIn 9999 24 (.agg #[.float .f64 a, .float .f64 b]) (.agg #[.float .f64 c, .float .f64 d])).run Tryz.prog w = .ok (feq a c && feq b d) w := by
    intro a b c d
    rw [show (9999 : Nat) = 9998 + 1 from rfl, run_equalIn_agg w 9998 24 _ _ hS2 hp2]
    simp only [Program.fieldsOf, u2]
    go_simp
    cases feq a c <;> cases feq b d <;> rfl
  unfold Op.equal Op.maxDepth opV sameT
  rw [show (10000 : Nat) = 9999 + 1 from rfl, run_equalIn_agg w 9999 66 _ _ hS hp]
  simp only [Program.fieldsOf, Tryz.underlying66]
  generalize o.K = a0, o.A = a1, o.B = a2, o.N = a3, o.lo = a4, o.hi = a5, p.K = b0, p.A = b1, p.B = b2, p.N = b3, p.lo = b4, p.hi = b5
  go_simp
  by_cases h0 : a0 = b0 <;> by_cases h1 : a1 = b1 <;> by_cases h2 : a2 = b2 <;> by_cases h3 : a3 = b3 <;> cases feq a4 b4 <;> cases feq a5 b5 <;> simp [h0, h1, h2, h3]

theorem run_checkT (o : OpT) (w : World) (em : Bool) : (Instr.checkKey em 10000 66 (opV o)).run Tryz.prog w = .ok () w := by
  kernel_rfl

def entsT : Nat → List OpT → List MapEntry
  | _, [] => []
  | i, p :: ps => { key := opV p, val := .int .i64 (i : Int), born := i } :: entsT (i + 1) ps
theorem entsT_append (o : OpT) : ∀ (L : List OpT) (i : Nat), entsT i (L ++ [o]) = entsT i L ++ [{ key := opV o, val := .int .i64 ((i + L.length : Nat) : Int), born := i + L.length }]
  | [], i => rfl
  | p :: ps, i => by
    simp only [List.cons_append, entsT, entsT_append o ps (i + 1), List.length_cons]
    rw [show i + 1 + ps.length = i + (ps.length + 1) by omega]
def MapT (w : World) (b : Nat) (L : List OpT) : Prop := w.heap[b]? = some (.map (entsT 0 L).toArray L.length)

theorem run_findT (o : OpT) (w : World) : ∀ (L : List OpT) (i : Nat), (Instr.findAsking 66 (opV o) (entsT i L) i).run Tryz.prog w = .ok ((L.findIdx? (sameT o)).map fun j => (i + j, .int .i64 ((i + j : Nat) : Int))) w
  | [], i => by simp [entsT, Instr.findAsking]
  | p :: ps, i => by
    simp only [entsT, Instr.findAsking, Sem.run_bind, run_sameT, Result.andThen_ok, List.findIdx?_cons]
    cases h : sameT o p
    · simp only [Bool.false_eq_true, if_false, Sem.run_ite, run_findT o w ps (i + 1)]
      congr 1
      cases ps.findIdx? (sameT o) with
      | none => rfl
      | some j => simp; omega
    · simp

theorem run_lookT {w : World} {b : Nat} {L : List OpT} (h : MapT w b L) (o : OpT) :
    (Instr.lookup 113 (.map (some b)) (opV o) true).run Tryz.prog w = .ok (match findT o L with | some j => .tuple #[.int .i64 (j : Int), .bool true] | none => .tuple #[.int .i64 0, .bool false]) w := by
  have hw : ∀ es, (Instr.findKey 66 (opV o) es).run Tryz.prog w = (Instr.findAsking 66 (opV o) es).run Tryz.prog w := fun es => run_findKey_eq w (by kernel_rfl) (opV o) es
  have hf := run_findT o w L 0
  have hz : (zeroValue 3).run Tryz.prog w = .ok (.int .i64 0) w := by kernel_rfl
  unfold findT
  simp only [Instr.lookup, Sem.run_bind, run_underlying Tryz.underlying113, Result.andThen_ok, MapKept.run_getObj_map h, run_checkT, hw, hf, Sem.run_pure]
  cases L.findIdx? (sameT o) with
  | none => simp [hz]
  | some j => simp

theorem run_putT {w : World} {b : Nat} {L : List OpT} (h : MapT w b L) {o : OpT} (ho : findT o L = none) :
    (Instr.mapUpdate 113 (.map (some b)) (opV o) (.int .i64 (L.length : Int))).run Tryz.prog w = .ok () (w.putObj b (.map (entsT 0 (L ++ [o])).toArray (L ++ [o]).length)) := by
  have hw : ∀ es, (Instr.findKey 66 (opV o) es).run Tryz.prog w = (Instr.findAsking 66 (opV o) es).run Tryz.prog w := fun es => run_findKey_eq w (by kernel_rfl) (opV o) es
  have hf := run_findT o w L 0
  unfold findT at ho
  rw [ho] at hf
  simp only [Instr.mapUpdate, Sem.run_bind, run_underlying Tryz.underlying113, Result.andThen_ok, MapKept.run_getObj_map h, run_checkT, hw, hf, Sem.run_pure, Option.map_none, MapKept.run_setObj_map _ h]
  rw [entsT_append]
  simp [World.putObj]

theorem MapT.put {w : World} {b : Nat} {L : List OpT} (h : MapT w b L) (L' : List OpT) : MapT (w.putObj b (.map (entsT 0 L').toArray L'.length)) b L' :=
  World.putObj_heap_same (Array.getElem?_eq_some_iff.1 h).1
theorem MapT.grown {w : World} {b : Nat} {L : List OpT} (h : MapT w b L) (L' : List OpT) : w.grownBy (w.putObj b (.map (entsT 0 L').toArray L'.length)) (some b) :=
  ⟨rfl, rfl, rfl, by simp [World.putObj], fun i _ hi => World.putObj_heap_other (fun e => hi (by rw [e]))⟩
theorem MapT.lt {w : World} {b : Nat} {L : List OpT} (h : MapT w b L) : b < w.heap.size := (Array.getElem?_eq_some_iff.1 h).1
theorem MapT.below {w w' : World} {b : Nat} {L : List OpT} (h : MapT w b L) (hb : Below w.heap.size w w') : MapT w' b L := (hb.block b h.lt).trans h
theorem MapT.set {w : World} {b : Nat} {L : List OpT} (h : MapT w b L) {a : Addr} (v : Value) (ha : a.block ≠ b) : MapT (w.setCell a v) b L := (Below.heap_setCell _ _ _ _ (fun e => ha e.symm)).trans h

theorem wpList_lookT (w : World) {ops : Array Oper} {rest : List Oper} {o : Oper} {a : Act} {Q : Exit → Act → World → Prop} (hg : o.guard = none) (m x : Operand) (hop : o.op = Op.lookup 113 m x true)
    {b : Nat} {L : List OpT} (hm : a.eval m = .map (some b)) (h : MapT w b L) (p : OpT) (hx : a.eval x = opV p) (v : Int) (is : Bool) (hv : (findT p L = some v.toNat ∧ is = true ∧ 0 ≤ v) ∨ (findT p L = none ∧ is = false ∧ v = 0))
    (hK : wpList Tryz.prog ops Q rest (a.put o.dst (.tuple #[.int .i64 v, .bool is])) w) : wpList Tryz.prog ops Q (o :: rest) a w := by
  refine wpList_plain hg fun K' hK' => ?_
  have hrun := run_lookT h p
  have e : (match findT p L with | some j => Value.tuple #[.int .i64 (j : Int), .bool true] | none => .tuple #[.int .i64 0, .bool false]) = .tuple #[.int .i64 v, .bool is] := by
    rcases hv with ⟨h1, rfl, h3⟩ | ⟨h1, rfl, rfl⟩
    · rw [h1]; simp only []; rw [Int.toNat_of_nonneg h3]
    · rw [h1]
  rw [e] at hrun
  unfold Oper.wp
  simp [execOp, hop, hm, hx, hrun, Result.andThen]
  exact hK' _ _ hK

theorem wpList_putT (w : World) {ops : Array Oper} {rest : List Oper} {o : Oper} {a : Act} {Q : Exit → Act → World → Prop} (hg : o.guard = none) (m x v : Operand) (hop : o.op = Op.mapUpdate 113 m x v)
    {b : Nat} {L : List OpT} (hm : a.eval m = .map (some b)) (h : MapT w b L) (p : OpT) (hx : a.eval x = opV p) (hv : a.eval v = .int .i64 (L.length : Int)) (hf : findT p L = none)
    (hK : ∀ w', MapT w' b (L ++ [p]) → w.grownBy w' (some b) → wpList Tryz.prog ops Q rest (a.put o.dst undef) w') : wpList Tryz.prog ops Q (o :: rest) a w := by
  refine wpList_plain hg fun K' hK' => ?_
  have hrun := run_putT h hf
  have hb1 := h.put (L ++ [p])
  have hb2 := h.grown (L ++ [p])
  generalize w.putObj b (.map (entsT 0 (L ++ [p])).toArray (L ++ [p]).length) = w' at hrun hb1 hb2
  unfold Oper.wp
  simp [execOp, hop, hm, hx, hv, hrun, Result.andThen]
  exact hK' _ _ (hK _ hb1 hb2)
end Go.Proofs.YtpkgpkabmechkaaGreat

/- Contracts: an operation without what it does not need, the program's and the reference's. -/
namespace Go.Proofs.YtpkgpkabmechkaaGreat
set_option linter.unusedSimpArgs false
set_option linter.unusedVariables false
open Go.RowKit
open Fl

theorem bareT_1 (A B N : Int) (lo hi : Nat) : bareT ⟨1, A, B, N, lo, hi⟩ = ⟨1, 0, 0, 0, lo, hi⟩ := rfl
theorem bareT_2 (A B N : Int) (lo hi : Nat) : bareT ⟨2, A, B, N, lo, hi⟩ = ⟨2, 0, 0, N, 0, 0⟩ := rfl
theorem bareT_8 (A B N : Int) (lo hi : Nat) : bareT ⟨8, A, B, N, lo, hi⟩ = ⟨8, A, 0, N, 0, 0⟩ := rfl
theorem bareT_two {K : Int} (h : 3 ≤ K ∧ K ≤ 6) (A B N : Int) (lo hi : Nat) : bareT ⟨K, A, B, N, lo, hi⟩ = ⟨K, A, B, 0, 0, 0⟩ := by
  have e : needI K = 2 := by unfold needI; rw [if_neg (by omega), if_pos h]
  unfold bareT
  simp only [e]
  rw [if_pos (by decide), if_pos (by decide), if_neg (by omega), if_neg (by omega), if_neg (by omega)]
theorem bareT_one {K : Int} (h : K = 7 ∨ 9 ≤ K ∧ K ≤ 14) (A B N : Int) (lo hi : Nat) : bareT ⟨K, A, B, N, lo, hi⟩ = ⟨K, A, 0, 0, 0, 0⟩ := by
  have e : needI K = 1 := by unfold needI; rw [if_neg (by omega), if_neg (by omega), if_pos (by omega)]
  unfold bareT
  simp only [e]
  rw [if_pos (by decide), if_neg (by decide), if_neg (by omega), if_neg (by omega), if_neg (by omega)]
theorem bareT_no {K : Int} (h : K ≤ 0 ∨ 15 ≤ K) (A B N : Int) (lo hi : Nat) : bareT ⟨K, A, B, N, lo, hi⟩ = ⟨K, 0, 0, 0, 0, 0⟩ := by
  have e : needI K = -1 := by unfold needI; rw [if_neg (by omega), if_neg (by omega), if_neg (by omega)]
  unfold bareT
  simp only [e]
  rw [if_neg (by decide), if_neg (by decide), if_neg (by omega), if_neg (by omega), if_neg (by omega)]

set_option maxHeartbeats 4000000 in
set_option maxRecDepth 100000 in
theorem bare_any (o : OpT) : Gives 114 #[opV o] (opV (bareT o)) := by
  intro w
  obtain ⟨K, A, B, N, lo, hi⟩ := o
  have hn := needs_any K
  rcases op_kinds K with h | h | h | h | h | h
  · subst h
    rw [bareT_1]
    rw [show needI 1 = 0 by decide] at hn
    unfold opV
    go_enter Tryz.func114, Tryz.ntmps114
    go_wp2_with (go_at_call 113; refine (hn.go _).mono ?_; rintro _ _ ⟨n, rfl, rfl⟩)
    go_returns
    exact ⟨rfl, by (repeat' first | (with_reducible first | exact Below.refl _ _ | assumption | refine Later.belowOf _ ?_ ?_ | refine Below.alloc ?_ ?_ _ | refine Below.setCell ?_ ?_ _ | refine Below.drewN' _ ?_ | refine Below.drew ?_ | exact Ge.le) | go_size)⟩
  · subst h
    rw [bareT_2]
    rw [show needI 2 = 0 by decide] at hn
    unfold opV
    go_enter Tryz.func114, Tryz.ntmps114
    go_wp2_with (go_at_call 113; refine (hn.go _).mono ?_; rintro _ _ ⟨n, rfl, rfl⟩)
    go_returns
    exact ⟨rfl, by (repeat' first | (with_reducible first | exact Below.refl _ _ | assumption | refine Later.belowOf _ ?_ ?_ | refine Below.alloc ?_ ?_ _ | refine Below.setCell ?_ ?_ _ | refine Below.drewN' _ ?_ | refine Below.drew ?_ | exact Ge.le) | go_size)⟩
  · subst h
    rw [bareT_8]
    rw [show needI 8 = 1 by decide] at hn
    unfold opV
    go_enter Tryz.func114, Tryz.ntmps114
    go_wp2_with (go_at_call 113; refine (hn.go _).mono ?_; rintro _ _ ⟨n, rfl, rfl⟩)
    go_returns
    exact ⟨rfl, by (repeat' first | (with_reducible first | exact Below.refl _ _ | assumption | refine Later.belowOf _ ?_ ?_ | refine Below.alloc ?_ ?_ _ | refine Below.setCell ?_ ?_ _ | refine Below.drewN' _ ?_ | refine Below.drew ?_ | exact Ge.le) | go_size)⟩
  · rw [bareT_two h]
    have e1 : (K == 1) = false := by simp; omega
    have e2 : (K == 2) = false := by simp; omega
    have e8 : (K == 8) = false := by simp; omega
    have i1 : (K != 1) = true := by simp; omega
    have i2 : (K != 2) = true := by simp; omega
    have i8 : (K != 8) = true := by simp; omega
    rw [show needI K = 2 by unfold needI; rw [if_neg (by omega), if_pos h]] at hn
    clear h
    unfold opV
    go_enter Tryz.func114, Tryz.ntmps114
    go_wp2_with (go_at_call 113; refine (hn.go _).mono ?_; rintro _ _ ⟨n, rfl, rfl⟩)
    go_returns
    exact ⟨rfl, by (repeat' first | (with_reducible first | exact Below.refl _ _ | assumption | refine Later.belowOf _ ?_ ?_ | refine Below.alloc ?_ ?_ _ | refine Below.setCell ?_ ?_ _ | refine Below.drewN' _ ?_ | refine Below.drew ?_ | exact Ge.le) | go_size)⟩
  · rw [bareT_one h]
    have e1 : (K == 1) = false := by simp; omega
    have e2 : (K == 2) = false := by simp; omega
    have e8 : (K == 8) = false := by simp; omega
    have i1 : (K != 1) = true := by simp; omega
    have i2 : (K != 2) = true := by simp; omega
    have i8 : (K != 8) = true := by simp; omega
    rw [show needI K = 1 by unfold needI; rw [if_neg (by omega), if_neg (by omega), if_pos (by omega)]] at hn
    clear h
    unfold opV
    go_enter Tryz.func114, Tryz.ntmps114
    go_wp2_with (go_at_call 113; refine (hn.go _).mono ?_; rintro _ _ ⟨n, rfl, rfl⟩)
    go_returns
    exact ⟨rfl, by (repeat' first | (with_reducible first | exact Below.refl _ _ | assumption | refine Later.belowOf _ ?_ ?_ | refine Below.alloc ?_ ?_ _ | refine Below.setCell ?_ ?_ _ | refine Below.drewN' _ ?_ | refine Below.drew ?_ | exact Ge.le) | go_size)⟩
  · rw [bareT_no h]
    have e1 : (K == 1) = false := by simp; omega
    have e2 : (K == 2) = false := by simp; omega
    have e8 : (K == 8) = false := by simp; omega
    have i1 : (K != 1) = true := by simp; omega
    have i2 : (K != 2) = true := by simp; omega
    have i8 : (K != 8) = true := by simp; omega
    rw [show needI K = -1 by unfold needI; rw [if_neg (by omega), if_neg (by omega), if_neg (by omega)]] at hn
    clear h
    unfold opV
    go_enter Tryz.func114, Tryz.ntmps114
    go_wp2_with (go_at_call 113; refine (hn.go _).mono ?_; rintro _ _ ⟨n, rfl, rfl⟩)
    go_returns
    exact ⟨rfl, by (repeat' first | (with_reducible first | exact Below.refl _ _ | assumption | refine Later.belowOf _ ?_ ?_ | refine Below.alloc ?_ ?_ _ | refine Below.setCell ?_ ?_ _ | refine Below.drewN' _ ?_ | refine Below.drew ?_ | exact Ge.le) | go_size)⟩

end Go.Proofs.YtpkgpkabmechkaaGreat
