/- Contracts: the law's value of a tape's operation; bounded ones. -/
import Derived.Test.YtpkgpkabmechkaaGreatPqV8
import Derived.Test.YtpkgpkabmechkaaGreatPqT5x
import Derived.Deep.AppendLies
import Derived.Deep.RegionHeld3
namespace Go.Proofs.YtpkgpkabmechkaaGreat
set_option linter.unusedSimpArgs false
set_option linter.unusedVariables false
open Go.RowKit
open Fl

/-! ### What may be -/
end Go.Proofs.YtpkgpkabmechkaaGreat

/- Contracts: may a slice be a tape's variables; are two slices the same; is a tape short; a slice of intervals as an argument. -/
namespace Go.Proofs.YtpkgpkabmechkaaGreat
set_option linter.unusedSimpArgs false
set_option linter.unusedVariables false
open Go.RowKit
open Fl

set_option maxHeartbeats 2000000 in
set_option maxRecDepth 100000 in
theorem vars_c {V : Int} {vO vN vx : Value} {nx : Nat} {xs : Nat → Nat × Nat} {w : World} (hx : IvsAt w vx xs nx) :
    Calls Tryz.prog 86 #[.agg #[.int .i64 V, vO, vN], vx] w fun e w' => ∃ q : Later w, e = .returned (.bool (decide ((nx : Int) = V ∧ anyB xs nx (fun x => noneB x.1 x.2) = false))) ∧ w' = q.val := by
  have b0 : Below w.heap.size w (w.alloc (Obj.cells #[.int .i64 V, vO, vN] 45)) := (Below.refl _ _).alloc (Nat.le_refl _) _
  obtain ⟨Ax, cx, rfl, hnx, hcx⟩ := hx
  have HX := Lib.hid hcx
  clear hcx
  have hx0 : (0 : Int) ≤ (nx : Int) := by omega
  obtain ⟨R, hR⟩ : ∃ R : Bool, R = decide ((nx : Int) = V ∧ anyB xs nx (fun x => noneB x.1 x.2) = false) := ⟨_, rfl⟩
  rw [← hR]
  have HR := Lib.hid hR
  clear hR
  go_enter Tryz.func86, Tryz.ntmps86
  go_wp2
  go_loopw [9] (fun i wr => IvInv (w.alloc (Obj.cells #[.int .i64 V, vO, vN] 45)) xs nx (fun x => noneB x.1 x.2) i wr) (fun i _ => nx - (intOf i).toNat)
  case atStart => exact ⟨0, rfl, Nat.zero_le _, fun j hj => by omega, Below.refl _ _⟩
  case round =>
    obtain ⟨k, rfl, hk, hE, hbel⟩ := hrel
    have HE := Lib.hid hE
    have hk2 : (k : Int) ≤ 9223372036854775807 := by omega
    have b1 := b0.trans (hbel.mono b0.size)
    have g0 : wr.cell? ⟨w.heap.size, 0, none⟩ = some (.int .i64 V) := cellBelow hbel (by simp [go_sem])
    haveI hge : Ge wr (w.heap.size + 1) := ⟨by have := hbel.size; simpa using this⟩
    clear hE
    by_cases h1 : k < nx
    · obtain ⟨b, o, eA, lx, c1, c2⟩ := HX.out k h1
      subst eA
      have c1 := cellBelow b1 c1
      have c2 := cellBelow b1 c2
      have nn := none_ref_any (xs k).1 (xs k).2 lx.1 lx.2
      generalize hx : xs k = x at *
      have HX2 := Lib.hid hx
      clear hx lx
      obtain ⟨x1, x2⟩ := x
      simp only at c1 c2 nn
      generalize hbx : noneB x1 x2 = bx at nn
      have HBX := Lib.hid hbx
      clear hbx
      cases bx
      · go_wp2_with (go_at_call 68; (with_reducible refine (nn.go _).mono ?_); rintro _ _ ⟨n1, rfl, rfl⟩)
        go_roundw
        case rel => exact ⟨k + 1, by go_num, h1, fun j hj => by rcases Nat.lt_succ_iff_lt_or_eq.1 hj with h | h; exact HE.out j h; rw [h, HX2.out]; exact HBX.out, hbel.trans (Below.mono (B := wr.heap.size) (by (repeat' first | (with_reducible first | exact Below.refl _ _ | assumption | refine Later.belowOf _ ?_ ?_ | refine Below.alloc ?_ ?_ _ | refine Below.setCell ?_ ?_ _ | refine Below.drewN' _ ?_ | refine Below.drew ?_ | exact Ge.le) | go_size)) hbel.size)⟩
        case measure => simp [intOf]; omega
      · go_wp2_with (go_at_call 68; (with_reducible refine (nn.go _).mono ?_); rintro _ _ ⟨n1, rfl, rfl⟩)
        go_ret
        refine ⟨⟨_, ?_⟩, ret_bool ?_, rfl⟩
        · exact b1.trans (Below.mono (B := wr.heap.size) (by (repeat' first | (with_reducible first | exact Below.refl _ _ | assumption | refine Later.belowOf _ ?_ ?_ | refine Below.alloc ?_ ?_ _ | refine Below.setCell ?_ ?_ _ | refine Below.drewN' _ ?_ | refine Below.drew ?_ | exact Ge.le) | go_size)) b1.size)
        · rw [HR.out]
          refine (decide_eq_false fun hh => ?_).symm
          have := anyB_iff (xs := xs) (n := nx) (bad := fun x => noneB x.1 x.2) |>.2 ⟨k, h1, by rw [HX2.out]; exact HBX.out⟩
          rw [hh.2] at this; cases this
    · obtain rfl : k = nx := by omega
      go_wp2
      go_ret
      first
        | refine ⟨⟨_, b1⟩, ret_bool ?_, rfl⟩
        | refine ⟨ret_bool ?_, ⟨_, b1⟩, rfl⟩
      have ha : anyB xs k (fun x => noneB x.1 x.2) = false := by
        rcases fot (anyB xs k (fun x => noneB x.1 x.2)) with h | h
        · exact h
        · obtain ⟨j, hj, hb⟩ := anyB_iff.1 h
          have := HE.out j hj
          rw [this] at hb; cases hb
      rw [HR.out, ha, Bool.eq_iff_iff]; simp

def SameInv (W : World) (n : Nat) (i : Value) (w : World) : Prop := ∃ k : Nat, i = .int .i64 k ∧ k ≤ n ∧ Below W.heap.size W w
set_option maxHeartbeats 2000000 in
set_option maxRecDepth 100000 in
/-- Two slices of the same intervals. -/
theorem same4_c {v v' : Value} {n : Nat} {xs : Nat → Nat × Nat} {w : World} (hx : IvsAt w v xs n) (hy : IvsAt w v' xs n) :
    Calls Tryz.prog 35 #[v, v'] w fun e w' => ∃ q : Later w, e = .returned (.bool true) ∧ w' = q.val := by
  obtain ⟨A, c, rfl, hn, hx⟩ := hx
  obtain ⟨B, d, rfl, _, hy⟩ := hy
  have HX := Lib.hid hx
  have HY := Lib.hid hy
  clear hx hy
  go_enter Tryz.func35, Tryz.ntmps35
  go_wp2
  go_loopw [13] (fun i wr => SameInv w n i wr) (fun i _ => n - (intOf i).toNat)
  case atStart => exact ⟨0, rfl, Nat.zero_le _, Below.refl _ _⟩
  case round =>
    obtain ⟨k, rfl, hk, hbel⟩ := hrel
    have hk2 : (k : Int) ≤ 9223372036854775807 := by omega
    have HB := Lib.hid hbel
    by_cases h1 : k < n
    · obtain ⟨b, o, eA, lx, c1, c2⟩ := HX.out k h1
      obtain ⟨b', o', eB, ly, d1, d2⟩ := HY.out k h1
      subst eA eB
      have c1 := cellBelow hbel c1
      have c2 := cellBelow hbel c2
      have d1 := cellBelow hbel d1
      have d2 := cellBelow hbel d2
      haveI g1 : Ge wr (b + 1) := ⟨World.block_lt_of_cell? wr _ c1⟩
      haveI g2 : Ge wr (b' + 1) := ⟨World.block_lt_of_cell? wr _ d1⟩
      have ss := same2_refl (xs k).1 (xs k).2
      generalize xs k = x at *
      obtain ⟨x1, x2⟩ := x
      simp only at c1 c2 d1 d2 ss
      clear lx ly hbel
      have k0 : (0 : Int) ≤ (k : Int) := by omega
      have k1 : (k : Int) < (n : Int) := by omega
      go_wp2_with (fail)
      refine wp_region_later (by kernel_rfl) (by kernel_rfl) ?_
      repeat (go_big_quiet_step ((go_at_call 21; (with_reducible exact ss.later _))))
      (refine wpQuiet_nil ?_; rintro _ ⟨nq, rfl⟩)
      go_wp2
      go_roundw
      case rel => exact ⟨k + 1, by go_num, h1, HB.out.trans (Below.mono (B := wr.heap.size) (by (repeat' first | (with_reducible first | exact Below.refl _ _ | assumption | refine Later.belowOf _ ?_ ?_ | refine Below.alloc ?_ ?_ _ | refine Below.setCell ?_ ?_ _ | refine Below.drewN' _ ?_ | refine Below.drew ?_ | exact Ge.le) | go_size)) HB.out.size)⟩
      case measure => simp [intOf]; omega
    · go_wp2
      go_ret
      exact ⟨⟨_, hbel⟩, rfl, rfl⟩

section
open Go.ChangeShapes Go.WideShapes Go.ChangeAt Go.RowKit Go.Joins Go.Deep
variable {H : Type} {enc : TypeId × Value → H} {P : Program} {w W : World} {base : Nat} {sp : Nat → Bool} {held : Bool} {fuel : Nat} {cs : List Value} {x : DataW H × List MemPlace}
theorem trod_ival (h : DataW.trod enc Tryz.prog w base sp held fuel 24 cs = some x) :
    ∃ o : Nat × Nat, cs = [.float .f64 o.1, .float .f64 o.2] ∧ Lt o := by
  obtain ⟨z0, z1, m, _, hl, g0, g1⟩ := trod_struct2 Tryz.underlying24 h
  rw [Tryz.cells24] at hl
  obtain ⟨c0, c1, rfl⟩ := list2 hl
  simp [Tryz.cells22] at g0 g1
  obtain ⟨lo, e4, l4⟩ := trod_float Tryz.underlying22 g0
  obtain ⟨hi, e5, l5⟩ := trod_float Tryz.underlying22 g1
  simp only [List.cons.injEq, and_true] at e4 e5
  subst e4 e5
  exact ⟨(lo, hi), rfl, l4, l5⟩
theorem trod_ivs {v : Value} (h : DataW.trod enc Tryz.prog w base (fun _ => true) held fuel 46 [v] = some x) : ∃ xs n, IvsAt w v xs n := by
  rcases open_slice Tryz.underlying46 h with ⟨e, _⟩ | ⟨a, len, cap, m, n, D, Pl, e, _, hl, hw, hm, _, hc⟩
  · simp only [List.cons.injEq, and_true] at e
    subst e
    exact ⟨fun _ => (0, 0), 0, ivs_nil _ _⟩
  · simp only [List.cons.injEq, and_true] at e
    subst e
    simp only [if_true] at hm
    rw [Tryz.cells24] at hc
    have each : ∀ i, i < len → ∃ z : Nat × Nat, w.cells? base (a.add (i * 2)) 2 = some [.float .f64 z.1, .float .f64 z.2] ∧ Lt z := fun i hi => by
      obtain ⟨cs', h1, h2⟩ := hc i (by omega)
      obtain ⟨z, rfl, l⟩ := trod_ival h2
      exact ⟨z, h1, l⟩
    obtain ⟨Z, hZ⟩ := choose_lt each
    refine ⟨Z, len, some a, cap, rfl, ?_, fun i hi => ?_⟩
    · unfold maxLen at hw; omega
    obtain ⟨_, _, q0⟩ := World.cells?_some (hZ 0 (by omega)).1
    have h0 := World.cell?_spot (q0 0 (by omega))
    obtain ⟨b, o, s⟩ := a
    have hs : s = none := by simpa [Addr.add] using h0
    subst hs
    obtain ⟨hz, l⟩ := hZ i hi
    obtain ⟨_, _, q⟩ := World.cells?_some hz
    refine ⟨b, o, rfl, l, ?_, ?_⟩
    · have := q 0 (by omega); rw [add_plain, add_plain] at this; exact this
    · have := q 1 (by omega); rw [add_plain, add_plain] at this; exact this
set_option maxRecDepth 100000 in
theorem arg_ivs {v : Value} {d : DataW H} {ps : List MemPlace} (hval : Value.okWide Tryz.prog W .any base 46 v) (h : DataW.Trod enc Tryz.prog W 0 (fun _ => true) held 46 v d ps) :
    ∃ A n c xs, v = .slice A n c ∧ IvsAt W (.slice A n c) xs n := by
  obtain ⟨a, len, cap, rfl⟩ := okWide_slice Tryz.underlying46 hval
  obtain ⟨fuel, hf⟩ := h
  obtain ⟨xs, n, hi⟩ := trod_ivs (x := (d, ps)) (by simpa [Value.cells] using hf)
  obtain ⟨A, c, e, h2⟩ := id hi
  rw [e] at hi ⊢
  exact ⟨A, n, c, xs, rfl, hi⟩
end
end Go.Proofs.YtpkgpkabmechkaaGreat

/- Two slices that a call makes side by side: intervals, and as many nil slices. -/
namespace Go.Proofs.YtpkgpkabmechkaaGreat
set_option linter.unusedSimpArgs false
set_option linter.unusedVariables false
open Go.RowKit
open Fl

theorem at_old {w : World} {o o' : Obj} {k : Nat} (h : w.heap[k]? = some o) : (w.alloc o').heap[k]? = some o := (heap_alloc_old w o' (lt_of_block h)).trans h
theorem at_new {w : World} {o : Obj} {k : Nat} (h : k = w.heap.size) : (w.alloc o).heap[k]? = some o := by subst h; exact heap_alloc_new _ _
theorem at_drew {w : World} {o : Obj} {k : Nat} (h : w.heap[k]? = some o) : w.drew.heap[k]? = some o := h
theorem own_lt {base : Nat} {w : World} {e : TypeId} {size : Nat} {v : Value} {k : Nat} {xs : List Value} (h : w.ownsRow base e size v k xs) : ∀ g, v.ownBlock = some g → base ≤ g ∧ g < w.heap.size := by
  intro g hg
  rcases h.2 with ⟨e, _⟩ | ⟨g', cap, cur, e, h1, h2, _⟩
  · subst e; cases hg
  · subst e
    obtain rfl : g' = g := by simpa [Value.ownBlock] using hg
    exact ⟨h1, lt_of_block h2⟩
theorem own_far {base : Nat} {w w' : World} {e : TypeId} {size : Nat} {v : Value} {k : Nat} {xs : List Value} (h : w.ownsRow base e size v k xs) (hb : ∀ g, v.ownBlock = some g → w'.heap[g]? = w.heap[g]?) : w'.ownsRow base e size v k xs := by
  refine ⟨h.1, ?_⟩
  rcases h.2 with e | ⟨g, cap, cur, e, h1, h2, r⟩
  · exact Or.inl e
  · exact Or.inr ⟨g, cap, cur, e, h1, (hb g (by rw [e]; rfl)).trans h2, r⟩
theorem info46 : (Tryz.prog.info? 46).map (fun i => (i.zero, i.size, i.bytes)) = some (some (.slice none 0 0), 1, 24) := by kernel_rfl

theorem grown_below {base : Nat} {w w1 : World} {e : TypeId} {size : Nat} {v : Value} {k : Nat} {xs : List Value} (h : w.ownsRow base e size v k xs) (hg : w.grownBy w1 v.ownBlock) (hb : base ≤ w.heap.size) : Below base w w1 :=
  (Below.refl base w).grown hg hb (fun g hg => (own_lt h g hg).1)

section
variable {w : World} {ops : Array Oper} {rest : List Oper} {o : Oper} {a : Act} {Q : Exit → Act → World → Prop} {K : Act → World → Prop} {E : Prop} {s x : Operand} {base : Nat} {v d : Value} {xs : Nat → Nat × Nat} {k m B p q : Nat} {fr : Nat × Nat}
end
end Go.Proofs.YtpkgpkabmechkaaGreat
