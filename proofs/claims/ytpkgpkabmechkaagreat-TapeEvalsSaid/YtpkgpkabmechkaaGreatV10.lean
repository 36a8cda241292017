/- Contracts: may a slice be a tape's variables; are two slices the same; is a tape short; a slice of intervals as an argument. -/
import Derived.Test.YtpkgpkabmechkaaGreatV9
import Derived.Test.YtpkgpkabmechkaaGreatT6
import Derived.Deep.AppendLies
import Derived.Deep.RegionHeld3
namespace Go.Proofs.YtpkgpkabmechkaaGreat
set_option linter.unusedSimpArgs false
set_option linter.unusedVariables false
open Go.RowKit
open Fl

set_option maxHeartbeats 2000000 in
set_option maxRecDepth 100000 in
theorem vars_c {V : Int} {vO vN vx : Value} {nx : Nat} {xs : Nat → Nat × Nat} {w : World} (hx : IvsAt w vx xs nx) :
    Calls Tryz.prog 86 #[.agg #[.int .i64 V, vO, vN], vx] w fun e w' => ∃ q : Later w, e = .returned (.bool (decide ((nx : Int) = V ∧ anyB xs nx (fun x => noneB x.1 x.2) = false))) ∧ w' = q.val := by
  have b0 : Below w.heap.size w (w.alloc (Obj.cells #[.int .i64 V, vO, vN] 45)) := (Below.refl _ _).alloc (Nat.le_refl _) _
  obtain ⟨Ax, cx, rfl, hnx, hcx⟩ := hx
  have HX := Lib.hid hcx
  clear hcx
  have hx0 : (0 : Int) ≤ (nx : Int) := by omega
  obtain ⟨R, hR⟩ : ∃ R : Bool, R = decide ((nx : Int) = V ∧ anyB xs nx (fun x => noneB x.1 x.2) = false) := ⟨_, rfl⟩
  rw [← hR]
  have HR := Lib.hid hR
  clear hR
  go_enter Tryz.func86, Tryz.ntmps86
  go_wp2
  go_loopw [9] (fun i wr => IvInv (w.alloc (Obj.cells #[.int .i64 V, vO, vN] 45)) xs nx (fun x => noneB x.1 x.2) i wr) (fun i _ => nx - (intOf i).toNat)
  case atStart => exact ⟨0, rfl, Nat.zero_le _, fun j hj => by omega, Below.refl _ _⟩
  case round =>
    obtain ⟨k, rfl, hk, hE, hbel⟩ := hrel
    have HE := Lib.hid hE
    have hk2 : (k : Int) ≤ 9223372036854775807 := by omega
    have b1 := b0.trans (hbel.mono b0.size)
    have g0 : wr.cell? ⟨w.heap.size, 0, none⟩ = some (.int .i64 V) := cellBelow hbel (by simp [go_sem])
    haveI hge : Ge wr (w.heap.size + 1) := ⟨by have := hbel.size; simpa using this⟩
    clear hE
    by_cases h1 : k < nx
    · obtain ⟨b, o, eA, lx, c1, c2⟩ := HX.out k h1
      subst eA
      have c1 := cellBelow b1 c1
      have c2 := cellBelow b1 c2
      have nn := none_ref_any (xs k).1 (xs k).2 lx.1 lx.2
      generalize hx : xs k = x at *
      have HX2 := Lib.hid hx
      clear hx lx
      obtain ⟨x1, x2⟩ := x
      simp only at c1 c2 nn
      generalize hbx : noneB x1 x2 = bx at nn
      have HBX := Lib.hid hbx
      clear hbx
      cases bx
      · go_wp2_with (go_at_call 68; (with_reducible refine (nn.go _).mono ?_); rintro _ _ ⟨n1, rfl, rfl⟩)
        go_roundw
        case rel => exact ⟨k + 1, by go_num, h1, fun j hj => by rcases Nat.lt_succ_iff_lt_or_eq.1 hj with h | h; exact HE.out j h; rw [h, HX2.out]; exact HBX.out, hbel.trans (Below.mono (B := wr.heap.size) (by (repeat' (first | (with_reducible exact Below.refl _ _) | (with_reducible assumption) | (with_reducible refine Later.belowOf _ ?_ ?_) | (with_reducible refine Below.alloc ?_ ?_ _) | (with_reducible refine Below.setCell ?_ ?_ _) | (with_reducible refine Below.drewN' _ ?_) | (with_reducible refine Below.drew ?_) | (with_reducible exact Ge.le) | go_size))) hbel.size)⟩
        case measure => simp [intOf]; omega
      · go_wp2_with (go_at_call 68; (with_reducible refine (nn.go _).mono ?_); rintro _ _ ⟨n1, rfl, rfl⟩)
        go_ret
        refine ⟨⟨_, ?_⟩, ret_bool ?_, rfl⟩
        · exact b1.trans (Below.mono (B := wr.heap.size) (by (repeat' (first | (with_reducible exact Below.refl _ _) | (with_reducible assumption) | (with_reducible refine Later.belowOf _ ?_ ?_) | (with_reducible refine Below.alloc ?_ ?_ _) | (with_reducible refine Below.setCell ?_ ?_ _) | (with_reducible refine Below.drewN' _ ?_) | (with_reducible refine Below.drew ?_) | (with_reducible exact Ge.le) | go_size))) b1.size)
        · rw [HR.out]
          refine (decide_eq_false fun hh => ?_).symm
          have := anyB_iff (xs := xs) (n := nx) (bad := fun x => noneB x.1 x.2) |>.2 ⟨k, h1, by rw [HX2.out]; exact HBX.out⟩
          rw [hh.2] at this; cases this
    · obtain rfl : k = nx := by omega
      go_wp2
      go_ret
      first
        | refine ⟨⟨_, b1⟩, ret_bool ?_, rfl⟩
        | refine ⟨ret_bool ?_, ⟨_, b1⟩, rfl⟩
      have ha : anyB xs k (fun x => noneB x.1 x.2) = false := by
        rcases fot (anyB xs k (fun x => noneB x.1 x.2)) with h | h
        · exact h
        · obtain ⟨j, hj, hb⟩ := anyB_iff.1 h
          have := HE.out j hj
          rw [this] at hb; cases hb
      rw [HR.out, ha, Bool.eq_iff_iff]; simp

def SameInv (W : World) (n : Nat) (i : Value) (w : World) : Prop := ∃ k : Nat, i = .int .i64 k ∧ k ≤ n ∧ Below W.heap.size W w
set_option maxHeartbeats 2000000 in
set_option maxRecDepth 100000 in
/-- Two slices of the same intervals. -/
theorem same4_c {v v' : Value} {n : Nat} {xs : Nat → Nat × Nat} {w : World} (hx : IvsAt w v xs n) (hy : IvsAt w v' xs n) :
    Calls Tryz.prog 35 #[v, v'] w fun e w' => ∃ q : Later w, e = .returned (.bool true) ∧ w' = q.val := by
  obtain ⟨A, c, rfl, hn, hx⟩ := hx
  obtain ⟨B, d, rfl, _, hy⟩ := hy
  have HX := Lib.hid hx
  have HY := Lib.hid hy
  clear hx hy
  go_enter Tryz.func35, Tryz.ntmps35
  go_wp2
  go_loopw [13] (fun i wr => SameInv w n i wr) (fun i _ => n - (intOf i).toNat)
  case atStart => exact ⟨0, rfl, Nat.zero_le _, Below.refl _ _⟩
  case round =>
    obtain ⟨k, rfl, hk, hbel⟩ := hrel
    have hk2 : (k : Int) ≤ 9223372036854775807 := by omega
    have HB := Lib.hid hbel
    by_cases h1 : k < n
    · obtain ⟨b, o, eA, lx, c1, c2⟩ := HX.out k h1
      obtain ⟨b', o', eB, ly, d1, d2⟩ := HY.out k h1
      subst eA eB
      have c1 := cellBelow hbel c1
      have c2 := cellBelow hbel c2
      have d1 := cellBelow hbel d1
      have d2 := cellBelow hbel d2
      haveI g1 : Ge wr (b + 1) := ⟨World.block_lt_of_cell? wr _ c1⟩
      haveI g2 : Ge wr (b' + 1) := ⟨World.block_lt_of_cell? wr _ d1⟩
      have ss := same2_refl (xs k).1 (xs k).2
      generalize xs k = x at *
      obtain ⟨x1, x2⟩ := x
      simp only at c1 c2 d1 d2 ss
      clear lx ly hbel
      have k0 : (0 : Int) ≤ (k : Int) := by omega
      have k1 : (k : Int) < (n : Int) := by omega
      go_wp2_with (fail)
      refine wp_region_later (by kernel_rfl) (by kernel_rfl) ?_
      repeat (go_big_quiet_step ((go_at_call 21; (with_reducible exact ss.later _))))
      (refine wpQuiet_nil ?_; rintro _ ⟨nq, rfl⟩)
      go_wp2
      go_roundw
      case rel => exact ⟨k + 1, by go_num, h1, HB.out.trans (Below.mono (B := wr.heap.size) (by (repeat' (first | (with_reducible exact Below.refl _ _) | (with_reducible assumption) | (with_reducible refine Later.belowOf _ ?_ ?_) | (with_reducible refine Below.alloc ?_ ?_ _) | (with_reducible refine Below.setCell ?_ ?_ _) | (with_reducible refine Below.drewN' _ ?_) | (with_reducible refine Below.drew ?_) | (with_reducible exact Ge.le) | go_size))) HB.out.size)⟩
      case measure => simp [intOf]; omega
    · go_wp2
      go_ret
      exact ⟨⟨_, hbel⟩, rfl, rfl⟩

set_option maxHeartbeats 400000 in
theorem short_c {V : Int} {AO AN : Option Addr} {nO nN cO cN : Nat} (w : World) :
    Calls Tryz.prog 32 #[.agg #[.int .i64 V, .slice AO nO cO, .slice AN nN cN]] w fun e w' => e = .returned (.bool (decide ((nO : Int) ≤ 120) && decide ((nN : Int) ≤ 40))) ∧ Below w.heap.size w w' := by
  have b0 : Below w.heap.size w (w.alloc (Obj.cells #[.int .i64 V, .slice AO nO cO, .slice AN nN cN] 45)) := (Below.refl _ _).alloc (Nat.le_refl _) _
  by_cases h1 : (nO : Int) ≤ 120
  · go_enter Tryz.func32, Tryz.ntmps32
    go_wp2
    go_ret
    refine ⟨ret_bool ?_, b0⟩
    simp [h1]
  · go_enter Tryz.func32, Tryz.ntmps32
    go_wp2
    go_ret
    refine ⟨ret_bool ?_, b0⟩
    simp; omega

section
open Go.ChangeShapes Go.WideShapes Go.ChangeAt Go.RowKit Go.Joins Go.Deep
variable {H : Type} {enc : TypeId × Value → H} {P : Program} {w W : World} {base : Nat} {sp : Nat → Bool} {held : Bool} {fuel : Nat} {cs : List Value} {x : DataW H × List MemPlace}
theorem trod_ival (h : DataW.trod enc Tryz.prog w base sp held fuel 24 cs = some x) :
    ∃ o : Nat × Nat, cs = [.float .f64 o.1, .float .f64 o.2] ∧ Lt o := by
  obtain ⟨z0, z1, m, _, hl, g0, g1⟩ := trod_struct2 Tryz.underlying24 h
  rw [Tryz.cells24] at hl
  obtain ⟨c0, c1, rfl⟩ := list2 hl
  simp [Tryz.cells22] at g0 g1
  obtain ⟨lo, e4, l4⟩ := trod_float Tryz.underlying22 g0
  obtain ⟨hi, e5, l5⟩ := trod_float Tryz.underlying22 g1
  simp only [List.cons.injEq, and_true] at e4 e5
  subst e4 e5
  exact ⟨(lo, hi), rfl, l4, l5⟩
theorem trod_ivs {v : Value} (h : DataW.trod enc Tryz.prog w base (fun _ => true) held fuel 46 [v] = some x) : ∃ xs n, IvsAt w v xs n := by
  rcases open_slice Tryz.underlying46 h with ⟨e, _⟩ | ⟨a, len, cap, m, n, D, Pl, e, _, hl, hw, hm, _, hc⟩
  · simp only [List.cons.injEq, and_true] at e
    subst e
    exact ⟨fun _ => (0, 0), 0, ivs_nil _ _⟩
  · simp only [List.cons.injEq, and_true] at e
    subst e
    simp only [if_true] at hm
    rw [Tryz.cells24] at hc
    have each : ∀ i, i < len → ∃ z : Nat × Nat, w.cells? base (a.add (i * 2)) 2 = some [.float .f64 z.1, .float .f64 z.2] ∧ Lt z := fun i hi => by
      obtain ⟨cs', h1, h2⟩ := hc i (by omega)
      obtain ⟨z, rfl, l⟩ := trod_ival h2
      exact ⟨z, h1, l⟩
    obtain ⟨Z, hZ⟩ := choose_lt each
    refine ⟨Z, len, some a, cap, rfl, ?_, fun i hi => ?_⟩
    · unfold maxLen at hw; omega
    obtain ⟨_, _, q0⟩ := World.cells?_some (hZ 0 (by omega)).1
    have h0 := World.cell?_spot (q0 0 (by omega))
    obtain ⟨b, o, s⟩ := a
    have hs : s = none := by simpa [Addr.add] using h0
    subst hs
    obtain ⟨hz, l⟩ := hZ i hi
    obtain ⟨_, _, q⟩ := World.cells?_some hz
    refine ⟨b, o, rfl, l, ?_, ?_⟩
    · have := q 0 (by omega); rw [add_plain, add_plain] at this; exact this
    · have := q 1 (by omega); rw [add_plain, add_plain] at this; exact this
set_option maxRecDepth 100000 in
theorem arg_ivs {v : Value} {d : DataW H} {ps : List MemPlace} (hval : Value.okWide Tryz.prog W .any base 46 v) (h : DataW.Trod enc Tryz.prog W 0 (fun _ => true) held 46 v d ps) :
    ∃ A n c xs, v = .slice A n c ∧ IvsAt W (.slice A n c) xs n := by
  obtain ⟨a, len, cap, rfl⟩ := okWide_slice Tryz.underlying46 hval
  obtain ⟨fuel, hf⟩ := h
  obtain ⟨xs, n, hi⟩ := trod_ivs (x := (d, ps)) (by simpa [Value.cells] using hf)
  obtain ⟨A, c, e, h2⟩ := id hi
  rw [e] at hi ⊢
  exact ⟨A, n, c, xs, rfl, hi⟩
end
end Go.Proofs.YtpkgpkabmechkaaGreat

/- Two slices that a call makes side by side: intervals, and as many nil slices. -/
namespace Go.Proofs.YtpkgpkabmechkaaGreat
set_option linter.unusedSimpArgs false
set_option linter.unusedVariables false
open Go.RowKit
open Fl

def nils (m : Nat) : List Value := List.replicate m (.slice none 0 0)
theorem nils_succ (m : Nat) : nils (m + 1) = nils m ++ [.slice none 0 0] := List.replicate_succ'
structure Own2 (base : Nat) (w : World) (v : Value) (xs : Nat → Nat × Nat) (k : Nat) (d : Value) (m : Nat) : Prop where
  iv : OwnIv base w v xs k
  nl : w.ownsRow base 46 1 d m (nils m)
  ne : ∀ g, v.ownBlock = some g → d.ownBlock ≠ some g
theorem at_old {w : World} {o o' : Obj} {k : Nat} (h : w.heap[k]? = some o) : (w.alloc o').heap[k]? = some o := (heap_alloc_old w o' (lt_of_block h)).trans h
theorem at_new {w : World} {o : Obj} {k : Nat} (h : k = w.heap.size) : (w.alloc o).heap[k]? = some o := by subst h; exact heap_alloc_new _ _
theorem at_drew {w : World} {o : Obj} {k : Nat} (h : w.heap[k]? = some o) : w.drew.heap[k]? = some o := h
theorem at_far {w w' : World} {o : Obj} {k n : Nat} {v : Value} (hf : ∀ b, b < w.heap.size → some b ≠ v.ownBlock → w'.heap[b]? = w.heap[b]?) (hq : ∀ g, v.ownBlock = some g → g < n) (hn : n ≤ k) (h : w.heap[k]? = some o) : w'.heap[k]? = some o :=
  (hf k (lt_of_block h) (fun e => by have := hq k e.symm; omega)).trans h
theorem own_lt {base : Nat} {w : World} {e : TypeId} {size : Nat} {v : Value} {k : Nat} {xs : List Value} (h : w.ownsRow base e size v k xs) : ∀ g, v.ownBlock = some g → base ≤ g ∧ g < w.heap.size := by
  intro g hg
  rcases h.2 with ⟨e, _⟩ | ⟨g', cap, cur, e, h1, h2, _⟩
  · subst e; cases hg
  · subst e
    obtain rfl : g' = g := by simpa [Value.ownBlock] using hg
    exact ⟨h1, lt_of_block h2⟩
theorem own_far {base : Nat} {w w' : World} {e : TypeId} {size : Nat} {v : Value} {k : Nat} {xs : List Value} (h : w.ownsRow base e size v k xs) (hb : ∀ g, v.ownBlock = some g → w'.heap[g]? = w.heap[g]?) : w'.ownsRow base e size v k xs := by
  refine ⟨h.1, ?_⟩
  rcases h.2 with e | ⟨g, cap, cur, e, h1, h2, r⟩
  · exact Or.inl e
  · exact Or.inr ⟨g, cap, cur, e, h1, (hb g (by rw [e]; rfl)).trans h2, r⟩
theorem Own2.below {base : Nat} {w w' : World} {v d : Value} {xs : Nat → Nat × Nat} {k m : Nat} (h : Own2 base w v xs k d m) (hb : Below w.heap.size w w') : Own2 base w' v xs k d m :=
  ⟨h.iv.below hb, own_far h.nl fun g hg => hb.block g (own_lt h.nl g hg).2, h.ne⟩
theorem own2_nil (base : Nat) (w : World) (xs : Nat → Nat × Nat) : Own2 base w (.slice none 0 0) xs 0 (.slice none 0 0) 0 := ⟨ownIv_nil _ _ _, World.ownsRow_nil _ _ _ _, fun g hg => by cases hg⟩
theorem nil_at {base : Nat} {w : World} {d : Value} {m : Nat} (h : w.ownsRow base 46 1 d m (nils m)) : ∃ A c, d = .slice A m c ∧ ∀ i, i < m → ∃ g, A = some ⟨g, 0, none⟩ ∧ w.cell? ⟨g, i, none⟩ = some (.slice none 0 0) := by
  rcases h.2 with ⟨rfl, rfl⟩ | ⟨g, cap, cur, rfl, hg, hh, hnc, hcm, r⟩
  · exact ⟨none, 0, rfl, fun i hi => by omega⟩
  · refine ⟨_, cap, rfl, fun i hi => ⟨g, rfl, ?_⟩⟩
    rw [World.ownsRow.cellAt h i (by omega)]
    unfold nils
    rw [List.getElem?_replicate, if_pos hi]

theorem info46 : (Tryz.prog.info? 46).map (fun i => (i.zero, i.size, i.bytes)) = some (some (.slice none 0 0), 1, 24) := by kernel_rfl

theorem Own2.grow {base : Nat} {w w1 : World} {v d : Value} {xs : Nat → Nat × Nat} {k m g cap p q : Nat} (h : Own2 base w v xs k d m)
    (hown : w1.ownsRow base 24 2 (.slice (some ⟨g, 0, none⟩) (k + 1) cap) (k + 1) (ivCells xs k ++ [(.float .f64 p), (.float .f64 q)])) (hg : w.grownBy w1 v.ownBlock) (hat : v.ownBlock = some g ∨ g = w.heap.size) (hpq : xs k = (p, q)) (hl : Lt (p, q)) :
    Own2 base w1 (.slice (some ⟨g, 0, none⟩) (k + 1) cap) xs (k + 1) d m := by
  refine ⟨⟨fun i hi => ?_, by rw [ivCells_succ, hpq]; exact hown⟩, own_far h.nl fun g' hg' => hg.block g' (own_lt h.nl g' hg').2 (fun e => h.ne g' e.symm hg'), fun g' hg' hd => ?_⟩
  · by_cases e : i = k
    · rw [e, hpq]; exact hl
    · exact h.iv.1 i (by omega)
  · obtain rfl : g = g' := by simpa [Value.ownBlock] using hg'
    rcases hat with e | e
    · exact h.ne _ e hd
    · have := (own_lt h.nl _ hd).2; omega
theorem Own2.growN {base : Nat} {w w1 : World} {v d : Value} {xs : Nat → Nat × Nat} {k m g cap : Nat} (h : Own2 base w v xs k d m)
    (hown : w1.ownsRow base 46 1 (.slice (some ⟨g, 0, none⟩) (m + 1) cap) (m + 1) (nils m ++ [.slice none 0 0])) (hg : w.grownBy w1 d.ownBlock) (hat : d.ownBlock = some g ∨ g = w.heap.size) :
    Own2 base w1 v xs k (.slice (some ⟨g, 0, none⟩) (m + 1) cap) (m + 1) := by
  refine ⟨⟨h.iv.1, own_far h.iv.2 fun g' hg' => hg.block g' (own_lt h.iv.2 g' hg').2 (fun e => h.ne g' hg' e.symm)⟩, by rw [nils_succ]; exact hown, fun g' hv hd => ?_⟩
  obtain rfl : g = g' := by simpa [Value.ownBlock] using hd
  rcases hat with e | e
  · exact h.ne _ hv e
  · have := (own_lt h.iv.2 _ hv).2; omega
theorem grown_below {base : Nat} {w w1 : World} {e : TypeId} {size : Nat} {v : Value} {k : Nat} {xs : List Value} (h : w.ownsRow base e size v k xs) (hg : w.grownBy w1 v.ownBlock) (hb : base ≤ w.heap.size) : Below base w w1 :=
  (Below.refl base w).grown hg hb (fun g hg => (own_lt h g hg).1)

section
variable {w : World} {ops : Array Oper} {rest : List Oper} {o : Oper} {a : Act} {Q : Exit → Act → World → Prop} {K : Act → World → Prop} {E : Prop} {s x : Operand} {base : Nat} {v d : Value} {xs : Nat → Nat × Nat} {k m B p q : Nat} {fr : Nat × Nat}
theorem wpList_append_p (hgd : o.guard = none) 
    (ho : o.op = .call { callee := .builtin .append, args := #[s, x], argTypes := #[46, 46] })
    (hs : a.eval s = v) (hx : a.eval x = .slice (some ⟨B, 0, none⟩) 1 1) (hB : w.heap[B]? = some (.cells #[(.float .f64 p), (.float .f64 q)] 24 fr)) (hown : Own2 base w v xs k d m) (hpq : xs k = (p, q)) (hl : Lt (p, q)) (hL : k ≤ 3000000) (hb : base ≤ w.heap.size)
    (h : ∀ g cap w', Own2 base w' (.slice (some ⟨g, 0, none⟩) (k + 1) cap) xs (k + 1) d m → Below base w w' → wpList Tryz.prog ops Q rest (a.put o.dst (.slice (some ⟨g, 0, none⟩) (k + 1) cap)) w') :
    wpList Tryz.prog ops Q (o :: rest) a w := by
  obtain ⟨i0, hi, hz0, hz1, hz2⟩ := info_parts info24
  refine wpList_append_lies _ hgd s x 46 ho base 24 i0 (.agg #[.float .f64 0, .float .f64 0]) 2 16 Tryz.underlying46 hi hz0 hz1 hz2 rfl (by decide) v k (ivCells xs k) hs hown.iv.2 ⟨B, 0, none⟩ 1 1 [(.float .f64 p), (.float .f64 q)] hx rfl (World.news_of_block hB) ?_ (by omega) (by unfold maxLen; omega) (by omega) hb w.heap.size rfl ?_
  · intro u hu
    simp at hu
    rcases hu with rfl | rfl <;> rfl
  · intro g cap w1 h1 h2 h3 h4
    exact h g cap w1 (hown.grow h1 h2 h3 hpq hl) (grown_below hown.iv.2 h2 hb)
theorem wpList_append_n (hgd : o.guard = none)
    (ho : o.op = .call { callee := .builtin .append, args := #[s, x], argTypes := #[51, 51] })
    (hs : a.eval s = d) (hx : a.eval x = .slice (some ⟨B, 0, none⟩) 1 1) (hB : w.heap[B]? = some (.cells #[.slice none 0 0] 46 fr)) (hown : Own2 base w v xs k d m) (hL : m ≤ 3000000) (hb : base ≤ w.heap.size)
    (h : ∀ g cap w', Own2 base w' v xs k (.slice (some ⟨g, 0, none⟩) (m + 1) cap) (m + 1) → Below base w w' → wpList Tryz.prog ops Q rest (a.put o.dst (.slice (some ⟨g, 0, none⟩) (m + 1) cap)) w') :
    wpList Tryz.prog ops Q (o :: rest) a w := by
  obtain ⟨i0, hi, hz0, hz1, hz2⟩ := info_parts info46
  refine wpList_append_lies _ hgd s x 51 ho base 46 i0 (.slice none 0 0) 1 24 Tryz.underlying51 hi hz0 hz1 hz2 rfl (by decide) d m (nils m) hs hown.nl ⟨B, 0, none⟩ 1 1 [.slice none 0 0] hx rfl (World.news_of_block hB) ?_ (by omega) (by unfold maxLen; omega) (by omega) hb w.heap.size rfl ?_
  · intro u hu
    simp at hu
    subst hu; rfl
  · intro g cap w1 h1 h2 h3 h4
    exact h g cap w1 (hown.growN h1 h2 h3) (grown_below hown.nl h2 hb)
theorem step_append_p (hgd : o.guard = none)
    (ho : o.op = .call { callee := .builtin .append, args := #[s, x], argTypes := #[46, 46] })
    (hs : a.eval s = v) (hx : a.eval x = .slice (some ⟨B, 0, none⟩) 1 1) (hB : w.heap[B]? = some (.cells #[(.float .f64 p), (.float .f64 q)] 24 fr)) (hown : Own2 base w v xs k d m) (hpq : xs k = (p, q)) (hl : Lt (p, q)) (hL : k ≤ 3000000) (hb : base ≤ w.heap.size)
    (h : ∀ g cap w', Own2 base w' (.slice (some ⟨g, 0, none⟩) (k + 1) cap) xs (k + 1) d m → Below base w w' → (∀ b, b < w.heap.size → some b ≠ v.ownBlock → w'.heap[b]? = w.heap[b]?) → w.heap.size ≤ w'.heap.size → K (a.put o.dst (.slice (some ⟨g, 0, none⟩) (k + 1) cap)) w') :
    if Region.wanted o (yielded ops a.tmps) = true then Oper.wp Tryz.prog o a w K Q else E := by
  obtain ⟨i0, hi, hz0, hz1, hz2⟩ := info_parts info24
  refine step_append_lies _ hgd s x 46 ho base 24 i0 (.agg #[.float .f64 0, .float .f64 0]) 2 16 Tryz.underlying46 hi hz0 hz1 hz2 rfl (by decide) v k (ivCells xs k) hs hown.iv.2 ⟨B, 0, none⟩ 1 1 [(.float .f64 p), (.float .f64 q)] hx rfl (World.news_of_block hB) ?_ (by omega) (by unfold maxLen; omega) (by omega) hb w.heap.size rfl ?_
  · intro u hu
    simp at hu
    rcases hu with rfl | rfl <;> rfl
  · intro g cap w1 h1 h2 h3 h4
    exact h g cap w1 (hown.grow h1 h2 h3 hpq hl) (grown_below hown.iv.2 h2 hb) (fun b hb hn => h2.block b hb hn) h2.size
theorem step_append_n (hgd : o.guard = none)
    (ho : o.op = .call { callee := .builtin .append, args := #[s, x], argTypes := #[51, 51] })
    (hs : a.eval s = d) (hx : a.eval x = .slice (some ⟨B, 0, none⟩) 1 1) (hB : w.heap[B]? = some (.cells #[.slice none 0 0] 46 fr)) (hown : Own2 base w v xs k d m) (hL : m ≤ 3000000) (hb : base ≤ w.heap.size)
    (h : ∀ g cap w', Own2 base w' v xs k (.slice (some ⟨g, 0, none⟩) (m + 1) cap) (m + 1) → Below base w w' → K (a.put o.dst (.slice (some ⟨g, 0, none⟩) (m + 1) cap)) w') :
    if Region.wanted o (yielded ops a.tmps) = true then Oper.wp Tryz.prog o a w K Q else E := by
  obtain ⟨i0, hi, hz0, hz1, hz2⟩ := info_parts info46
  refine step_append_lies _ hgd s x 51 ho base 46 i0 (.slice none 0 0) 1 24 Tryz.underlying51 hi hz0 hz1 hz2 rfl (by decide) d m (nils m) hs hown.nl ⟨B, 0, none⟩ 1 1 [.slice none 0 0] hx rfl (World.news_of_block hB) ?_ (by omega) (by unfold maxLen; omega) (by omega) hb w.heap.size rfl ?_
  · intro u hu
    simp at hu
    subst hu; rfl
  · intro g cap w1 h1 h2 h3 h4
    exact h g cap w1 (hown.growN h1 h2 h3) (grown_below hown.nl h2 hb)
end
end Go.Proofs.YtpkgpkabmechkaaGreat
