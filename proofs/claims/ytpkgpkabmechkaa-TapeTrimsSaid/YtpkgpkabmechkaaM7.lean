/- Rows of operations and of numbers that the call itself makes. -/
import Derived.Test.YtpkgpkabmechkaaM6H
import Derived.Deep.AppendLies
namespace Go.Proofs.Ytpkgpkabmechkaa
set_option linter.unusedSimpArgs false
set_option linter.unusedVariables false
open Go.RowKit Go.Shelf
open Fl

theorem ownM_lt {base : Nat} {w : World} {e : TypeId} {size : Nat} {v : Value} {k : Nat} {xs : List Value} (h : w.ownsRow base e size v k xs) : ∀ g, v.ownBlock = some g → base ≤ g ∧ g < w.heap.size := h.lt
theorem ownM_far {base : Nat} {w w' : World} {e : TypeId} {size : Nat} {v : Value} {k : Nat} {xs : List Value} (h : w.ownsRow base e size v k xs) (hb : ∀ g, v.ownBlock = some g → w'.heap[g]? = w.heap[g]?) : w'.ownsRow base e size v k xs := by
  refine ⟨h.1, ?_⟩
  rcases h.2 with e | ⟨g, cap, cur, e, h1, h2, r⟩
  · exact Or.inl e
  · exact Or.inr ⟨g, cap, cur, e, h1, (hb g (by rw [e]; rfl)).trans h2, r⟩

def opCs (o : OpT) : List Value := [.int .i64 o.K, .int .i64 o.A, .int .i64 o.B, .int .i64 o.N, (.float .f64 o.lo), (.float .f64 o.hi)]
def opCells (L : List OpT) : List Value := L.flatMap opCs
theorem opCells_snoc (L : List OpT) (o : OpT) : opCells (L ++ [o]) = opCells L ++ opCs o := by simp [opCells, opCs]
theorem opCells_len (L : List OpT) : (opCells L).length = L.length * 6 := by
  induction L with
  | nil => rfl
  | cons o L ih => simp only [opCells, List.flatMap_cons, List.length_append] at ih ⊢; rw [ih]; simp [opCs]; omega
theorem opCells_get (c : Nat) (hc : c < 6) : ∀ (L : List OpT) (j : Nat), j < L.length → (opCells L)[j * 6 + c]? = (opCs (listF L j))[c]?
  | [], j, h => by simp at h
  | o :: L, 0, _ => by
    simp only [opCells, List.flatMap_cons]
    rw [Nat.zero_mul, Nat.zero_add, List.getElem?_append_left (by simp [opCs]; omega)]
    rfl
  | o :: L, j + 1, h => by
    have ih := opCells_get c hc L j (by simpa using h)
    simp only [opCells, List.flatMap_cons] at ih ⊢
    have hl : (opCs o).length = 6 := rfl
    rw [List.getElem?_append_right (by rw [hl]; omega), hl, show (j + 1) * 6 + c - 6 = j * 6 + c by omega, ih]
    rfl
def OwnOp (base : Nat) (w : World) (v : Value) (L : List OpT) : Prop := (∀ o ∈ L, o.lo < 18446744073709551616 ∧ o.hi < 18446744073709551616) ∧ w.ownsRow base 41 6 v L.length (opCells L)
theorem ownOp_nil (base : Nat) (w : World) : OwnOp base w (.slice none 0 0) [] := ⟨by simp, World.ownsRow_nil _ _ _ _⟩
theorem OwnOp.lt {base : Nat} {w : World} {v : Value} {L : List OpT} (h : OwnOp base w v L) : ∀ g, v.ownBlock = some g → base ≤ g ∧ g < w.heap.size := ownM_lt h.2
theorem OwnOp.far {base : Nat} {w w' : World} {v : Value} {L : List OpT} (h : OwnOp base w v L) (hb : ∀ g, v.ownBlock = some g → w'.heap[g]? = w.heap[g]?) : OwnOp base w' v L := ⟨h.1, ownM_far h.2 hb⟩
theorem OwnOp.below {base : Nat} {w w' : World} {v : Value} {L : List OpT} (h : OwnOp base w v L) (hb : Below w.heap.size w w') : OwnOp base w' v L := h.far fun g hg => hb.block g (h.lt g hg).2
theorem OwnOp.set {base : Nat} {w : World} {v : Value} {L : List OpT} (h : OwnOp base w v L) {a : Addr} (u : Value) (ha : a.block < base) : OwnOp base (w.setCell a u) v L :=
  h.far fun g hg => Below.heap_setCell _ _ _ _ (fun e => by have := (h.lt g hg).1; omega)
theorem OwnOp.slice {base : Nat} {w : World} {v : Value} {L : List OpT} (h : OwnOp base w v L) : ∃ A c, v = .slice A L.length c := by
  rcases h.2.2 with ⟨e, e2⟩ | ⟨g, cap, cur, e, _⟩
  · exact ⟨none, 0, by rw [e, e2]⟩
  · exact ⟨_, _, e⟩
theorem OwnOp.ops {base : Nat} {w : World} {v : Value} {L : List OpT} (h : OwnOp base w v L) : OpsAt w v (listF L) L.length := by
  rcases h.2.2 with ⟨e, e2⟩ | ⟨g, cap, cur, e, hg, hh, hnc, hcm, r⟩
  · exact ⟨none, 0, by rw [e, e2], fun i hi => by omega⟩
  · refine ⟨_, cap, e, fun i hi => ⟨g, 0, rfl, ?_⟩⟩
    have hc := h.2.cells (g := g) (by rw [e]; rfl)
    have ha : ∀ j, (⟨g, 0, none⟩ : Addr).add j = ⟨g, j, none⟩ := fun j => by unfold Addr.add; split <;> simp_all
    have hm : listF L i ∈ L := by
      unfold listF
      rw [List.getD_eq_getElem?_getD, List.getElem?_eq_getElem hi, Option.getD_some]
      exact List.getElem_mem hi
    obtain ⟨l1, l2⟩ := h.1 _ hm
    have each : ∀ c u, c < 6 → (opCs (listF L i))[c]? = some u → w.cell? ⟨g, i * 6 + c, none⟩ = some u := fun c u hc' hu => by
      have := hc (i * 6 + c) u (by rw [opCells_get c hc' L i hi]; exact hu)
      rw [ha] at this
      exact this
    rw [Nat.zero_add]
    exact ⟨l1, l2, each 0 _ (by omega) rfl, each 1 _ (by omega) rfl, each 2 _ (by omega) rfl, each 3 _ (by omega) rfl, each 4 _ (by omega) rfl, each 5 _ (by omega) rfl⟩

def intCells (f : Nat → Int) (n : Nat) : List Value := (List.range n).map fun i => .int .i64 (f i)
theorem intCells_succ (f : Nat → Int) (n : Nat) : intCells f (n + 1) = intCells f n ++ [.int .i64 (f n)] := by simp [intCells, List.range_succ]
def OwnInt (base : Nat) (w : World) (v : Value) (f : Nat → Int) (n : Nat) : Prop := w.ownsRow base 3 1 v n (intCells f n)
theorem ownInt_nil (base : Nat) (w : World) (f : Nat → Int) : OwnInt base w (.slice none 0 0) f 0 := World.ownsRow_nil _ _ _ _
theorem OwnInt.far {base : Nat} {w w' : World} {v : Value} {f : Nat → Int} {n : Nat} (h : OwnInt base w v f n) (hb : ∀ g, v.ownBlock = some g → w'.heap[g]? = w.heap[g]?) : OwnInt base w' v f n := ownM_far h hb
theorem OwnInt.below {base : Nat} {w w' : World} {v : Value} {f : Nat → Int} {n : Nat} (h : OwnInt base w v f n) (hb : Below w.heap.size w w') : OwnInt base w' v f n := h.far fun g hg => hb.block g (ownM_lt h g hg).2
theorem OwnInt.set {base : Nat} {w : World} {v : Value} {f : Nat → Int} {n : Nat} (h : OwnInt base w v f n) {a : Addr} (u : Value) (ha : a.block < base) : OwnInt base (w.setCell a u) v f n :=
  h.far fun g hg => Below.heap_setCell _ _ _ _ (fun e => by have := (ownM_lt h g hg).1; omega)
theorem OwnInt.slice {base : Nat} {w : World} {v : Value} {f : Nat → Int} {n : Nat} (h : OwnInt base w v f n) : ∃ A c, v = .slice A n c := by
  rcases h.2 with ⟨e, e2⟩ | ⟨g, cap, cur, e, _⟩
  · exact ⟨none, 0, by rw [e, e2]⟩
  · exact ⟨_, _, e⟩
theorem OwnInt.outs {base : Nat} {w : World} {v : Value} {f : Nat → Int} {n : Nat} (h : OwnInt base w v f n) : OutsAt w v f n := by
  rcases h.2 with ⟨e, e2⟩ | ⟨g, cap, cur, e, hg, hh, hnc, hcm, r⟩
  · exact ⟨none, 0, by rw [e, e2], fun i hi => by omega⟩
  · refine ⟨_, cap, e, fun i hi => ⟨g, 0, rfl, ?_⟩⟩
    have hc := World.ownsRow.cells h (g := g) (by rw [e]; rfl)
    have := hc i (.int .i64 (f i)) (by simp [intCells, hi])
    have ha : (⟨g, 0, none⟩ : Addr).add i = ⟨g, i, none⟩ := by unfold Addr.add; split <;> simp_all
    rw [ha] at this
    rw [Nat.zero_add]
    exact this

section
variable {w : World} {ops : Array Oper} {rest : List Oper} {o : Oper} {a : Act} {Q : Exit → Act → World → Prop} {K : Act → World → Prop} {E : Prop} {s x : Operand} {base : Nat} {v : Value} {L : List OpT} {p : OpT} {f : Nat → Int} {n B : Nat}
theorem wpList_append_op (hgd : o.guard = none)
    (ho : o.op = .call { callee := .builtin .append, args := #[s, x], argTypes := #[22, 22] })
    (hs : a.eval s = v) (hx : a.eval x = .slice (some ⟨B, 0, none⟩) 1 1) (hB : OpBox w B p) (hown : OwnOp base w v L) (hl : p.lo < 18446744073709551616 ∧ p.hi < 18446744073709551616) (hL : L.length ≤ 3000000) (hb : base ≤ w.heap.size)
    (h : ∀ g cap w', OwnOp base w' (.slice (some ⟨g, 0, none⟩) (L ++ [p]).length cap) (L ++ [p]) → Below base w w' → wpList Try.prog ops Q rest (a.put o.dst (.slice (some ⟨g, 0, none⟩) (L ++ [p]).length cap)) w') :
    wpList Try.prog ops Q (o :: rest) a w := by
  obtain ⟨i0, hi, hz0, hz1, hz2⟩ := info_parts info41
  refine wpList_append_lies _ hgd s x 22 ho base 41 i0 (.agg #[.int .i64 0, .int .i64 0, .int .i64 0, .int .i64 0, .float .f64 0, .float .f64 0]) 6 48 Try.underlying22 hi hz0 hz1 hz2 rfl (by decide) v L.length (opCells L) hs hown.2 ⟨B, 0, none⟩ 1 1 (opCs p) hx rfl (World.news_of_block hB) ?_ (by omega) (by unfold maxLen; omega) (by omega) hb w.heap.size rfl ?_
  · intro u hu
    simp [opCs] at hu
    rcases hu with rfl | rfl | rfl | rfl | rfl | rfl <;> rfl
  · intro g cap w1 h1 h2 h3 h4
    rw [← opCells_snoc] at h1
    have e : L.length + 1 = (L ++ [p]).length := by simp
    rw [e] at h1
    rw [e]
    refine h g cap w1 ⟨fun q hq => ?_, h1⟩ ((Below.refl base w).grown h2 hb (fun g hg => (hown.lt g hg).1))
    rcases List.mem_append.1 hq with hq | hq
    · exact hown.1 q hq
    · simp at hq; subst hq; exact hl
theorem step_append_int (hgd : o.guard = none)
    (ho : o.op = .call { callee := .builtin .append, args := #[s, x], argTypes := #[23, 23] }) {fr : Nat × Nat} {i : Int}
    (hs : a.eval s = v) (hx : a.eval x = .slice (some ⟨B, 0, none⟩) 1 1) (hB : w.heap[B]? = some (.cells #[.int .i64 i] 3 fr)) (hown : OwnInt base w v f n) (hi : f n = i) (hL : n ≤ 3000000) (hb : base ≤ w.heap.size)
    (h : ∀ g cap w', OwnInt base w' (.slice (some ⟨g, 0, none⟩) (n + 1) cap) f (n + 1) → Below base w w' → K (a.put o.dst (.slice (some ⟨g, 0, none⟩) (n + 1) cap)) w') :
    if Region.wanted o (yielded ops a.tmps) = true then Oper.wp Try.prog o a w K Q else E := by
  obtain ⟨i0, hi', hz0, hz1, hz2⟩ := info_parts info3
  refine step_append_lies _ hgd s x 23 ho base 3 i0 (.int .i64 0) 1 8 Try.underlying23 hi' hz0 hz1 hz2 rfl (by decide) v n (intCells f n) hs hown ⟨B, 0, none⟩ 1 1 [.int .i64 i] hx rfl (World.news_of_block hB) ?_ (by omega) (by unfold maxLen; omega) (by omega) hb w.heap.size rfl ?_
  · intro u hu
    simp at hu
    subst hu; rfl
  · intro g cap w1 h1 h2 h3 h4
    rw [← hi, ← intCells_succ] at h1
    exact h g cap w1 h1 ((Below.refl base w).grown h2 hb (fun g hg => (ownM_lt hown g hg).1))
end

/-! ### What lies behind one while the trimmed tape is made -/
structure LW (W5 : World) (OB : Nat) (V : Int) (nO : Nat) (Lm L : List OpT) (ix : Nat → Int) (vL : Value) (W : World) : Prop where
  ob : TapeBox W OB V vL (.slice none 0 0)
  mp : MapT W (OB + 1) Lm
  row : RowB W (OB + 2) (fun j => .int .i64 (ix j)) nO
  own : OwnOp (OB + 3) W vL L
  bel : Below OB W5 W
namespace LW
variable {W5 W W' : World} {OB : Nat} {V : Int} {nO : Nat} {Lm Lm' L L' : List OpT} {ix : Nat → Int} {vL v' : Value}
theorem lt (h : LW W5 OB V nO Lm L ix vL W) : OB + 2 < W.heap.size := h.row.lt
theorem below (h : LW W5 OB V nO Lm L ix vL W) (hb : Below W.heap.size W W') : LW W5 OB V nO Lm L ix vL W' :=
  ⟨h.ob.below hb, h.mp.below hb, h.row.below hb, h.own.below hb, h.bel.trans (hb.mono (by have := h.lt; omega))⟩
theorem far (h : LW W5 OB V nO Lm L ix vL W) {a : Addr} (u : Value) (ha : OB + 2 < a.block) (hv : ∀ g, vL.ownBlock = some g → a.block ≠ g) : LW W5 OB V nO Lm L ix vL (W.setCell a u) :=
  ⟨h.ob.set_other u (by omega), h.mp.set u (by omega), h.row.set_other u (by omega), h.own.far fun g hg => Below.heap_setCell _ _ _ _ (fun e => hv g hg e.symm), h.bel.setCell (by omega) _⟩
theorem far6 (h : LW W5 OB V nO Lm L ix vL W) {b : Nat} (ha : OB + 2 < b) (hv : ∀ g, vL.ownBlock = some g → b ≠ g) (u0 u1 u2 u3 u4 u5 : Value) :
    LW W5 OB V nO Lm L ix vL ((((((W.setCell ⟨b, 0, none⟩ u0).setCell ⟨b, 1, none⟩ u1).setCell ⟨b, 2, none⟩ u2).setCell ⟨b, 3, none⟩ u3).setCell ⟨b, 4, none⟩ u4).setCell ⟨b, 5, none⟩ u5) :=
  (((((h.far u0 ha hv).far u1 ha hv).far u2 ha hv).far u3 ha hv).far u4 ha hv).far u5 ha hv
theorem mapped (h : LW W5 OB V nO Lm L ix vL W) (hm : MapT W' (OB + 1) Lm') (hg : W.grownBy W' (some (OB + 1))) : LW W5 OB V nO Lm' L ix vL W' :=
  ⟨h.ob.grown hg (by simp), hm, h.row.grown hg (by simp), h.own.far fun g hg' => hg.block g (h.own.lt g hg').2 (fun e => by have := (h.own.lt g hg').1; simp at e; omega), h.bel.grown hg (by have := h.lt; omega) (fun k e => by cases e; omega)⟩
theorem appended (h : LW W5 OB V nO Lm L ix vL W) (ho : OwnOp (OB + 3) W' v' L') (hb : Below (OB + 3) W W') : LW W5 OB V nO Lm L' ix v' (W'.setCell ⟨OB, 1, none⟩ v') := by
  have e : ∀ b, b < OB + 3 → W'.heap[b]? = W.heap[b]? := fun b hb' => hb.block b hb'
  have r := h.row
  refine ⟨TapeBox.set1 (v := vL) ((e OB (by omega)).trans h.ob) v', MapT.set ((e (OB + 1) (by omega)).trans h.mp) v' (by simp), ?_, ho.set v' (by first | omega | (simp; omega) | simp), (h.bel.trans (hb.mono (by omega))).setCell (p := ⟨OB, 1, none⟩) (Nat.le_refl _) v'⟩
  refine RowB.set_other ⟨Nat.lt_of_lt_of_le r.lt hb.size, fun j hj => ?_, fun j hj => ?_⟩ v' (by simp)
  · have := r.c j hj
    simp only [World.cell?] at this ⊢
    rw [e (OB + 2) (by omega)]; exact this
  · have := r.z j hj
    simp only [World.frozen?] at this ⊢
    rw [e (OB + 2) (by omega)]; exact this
theorem set (h : LW W5 OB V nO Lm L ix vL W) {i : Nat} (hi : i < nO) (n : Int) : LW W5 OB V nO Lm L (setF ix i n) vL (W.setCell ⟨OB + 2, i, none⟩ (.int .i64 n)) := by
  refine ⟨h.ob.set_other _ (by simp), h.mp.set _ (by simp), (h.row.set hi (.int .i64 n)).congr fun j _ => ?_, h.own.set _ (by simp), h.bel.setCell (p := ⟨OB + 2, i, none⟩) (by simp) _⟩
  unfold setF
  by_cases e : j = i <;> simp [e]
theorem get (h : LW W5 OB V nO Lm L ix vL W) {i : Nat} (hi : i < nO) : W.cell? ⟨OB + 2, i, none⟩ = some (.int .i64 (ix i)) := h.row.c i hi
theorem fz (h : LW W5 OB V nO Lm L ix vL W) {i : Nat} (hi : i < nO) : W.frozen? ⟨OB + 2, i, none⟩ = false := h.row.z i hi
end LW
theorem at_oldM {w : World} {o o' : Obj} {k : Nat} (h : w.heap[k]? = some o) : (w.alloc o').heap[k]? = some o := ((Below.refl w.heap.size w).alloc (Nat.le_refl _) o' |>.block k (Array.getElem?_eq_some_iff.1 h).1).trans h
theorem at_newM {w : World} {o : Obj} {k : Nat} (h : k = w.heap.size) : (w.alloc o).heap[k]? = some o := by subst h; exact heap_alloc_new _ _
theorem at_drewM {w : World} {o : Obj} {k : Nat} (h : w.heap[k]? = some o) : w.drew.heap[k]? = some o := h
/-- What lies behind one while the numbers of the results are gathered. -/
structure OW (W5 Wl : World) (OB : Nat) (V : Int) (vL vN : Value) (f : Nat → Int) (n : Nat) (W : World) : Prop where
  ob : TapeBox W OB V vL vN
  own : OwnInt Wl.heap.size W vN f n
  but : ButS OB Wl.heap.size Wl W
  bel : Below OB W5 W
  lt : OB < Wl.heap.size
theorem OW.next {W5 Wl W W' : World} {OB : Nat} {V : Int} {vL vN v' : Value} {f : Nat → Int} {n n' : Nat} (h : OW W5 Wl OB V vL vN f n W) (ho : OwnInt Wl.heap.size W' v' f n') (hb : Below Wl.heap.size W W') : OW W5 Wl OB V vL v' f n' (W'.setCell ⟨OB, 2, none⟩ v') := by
  refine ⟨TapeBox.set2 (v' := vN) ((hb.block OB h.lt).trans h.ob) v', ho.set v' h.lt, ⟨by have := h.but.size; have := hb.size; simp; omega, fun b h1 h2 => ?_⟩, (h.bel.trans (hb.mono (Nat.le_of_lt h.lt))).setCell (p := ⟨OB, 2, none⟩) (Nat.le_refl _) v', h.lt⟩
  rw [Below.heap_setCell _ _ _ _ h2, hb.block b h1, h.but.blk b h1 h2]
theorem OpBox.set6 {W : World} {b : Nat} {o : OpT} (h : OpBox W b o) (p : OpT) :
    OpBox ((((((W.setCell ⟨b, 0, none⟩ (.int .i64 p.K)).setCell ⟨b, 1, none⟩ (.int .i64 p.A)).setCell ⟨b, 2, none⟩ (.int .i64 p.B)).setCell ⟨b, 3, none⟩ (.int .i64 p.N)).setCell ⟨b, 4, none⟩ (.float .f64 p.lo)).setCell ⟨b, 5, none⟩ (.float .f64 p.hi)) b p := by
  have hl := h.lt
  unfold OpBox at h ⊢
  unfold World.setCell
  simp [Array.getElem?_modify, h]
theorem OpBox.setA {W : World} {b : Nat} {o : OpT} (h : OpBox W b o) (n : Int) : OpBox (W.setCell ⟨b, 1, none⟩ (.int .i64 n)) b { o with A := n } := by
  have hl := h.lt
  unfold OpBox at h ⊢
  unfold World.setCell
  simp [Array.getElem?_modify, h]
theorem OpBox.setB {W : World} {b : Nat} {o : OpT} (h : OpBox W b o) (n : Int) : OpBox (W.setCell ⟨b, 2, none⟩ (.int .i64 n)) b { o with B := n } := by
  have hl := h.lt
  unfold OpBox at h ⊢
  unfold World.setCell
  simp [Array.getElem?_modify, h]
theorem sub_0 {o : OpT} {ix : Nat → Int} (e : needI o.K = 0) : subT o ix = bareT o := by simp [subT, bareT, e]
theorem sub_1 {o : OpT} {ix : Nat → Int} (e : needI o.K = 1) : subT o ix = { bareT o with A := ix o.A.toNat } := by simp [subT, bareT, e]
theorem sub_2 {o : OpT} {ix : Nat → Int} (e : needI o.K = 2) : subT o ix = { { bareT o with A := ix o.A.toNat } with B := ix o.B.toNat } := by simp [subT, bareT, e]
theorem sub_lits {o : OpT} {ix : Nat → Int} (h : o.lo < 18446744073709551616 ∧ o.hi < 18446744073709551616) : (subT o ix).lo < 18446744073709551616 ∧ (subT o ix).hi < 18446744073709551616 := by
  simp only [subT, bareT]
  split
  · exact h
  · exact ⟨by decide, by decide⟩
end Go.Proofs.Ytpkgpkabmechkaa
