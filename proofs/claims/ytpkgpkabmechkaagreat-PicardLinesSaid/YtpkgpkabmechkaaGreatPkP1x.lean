/- Contracts: picard's small functions: bounded, inside, hull, reach. -/
import Derived.Test.YtpkgpkabmechkaaGreatPkV9x
import Derived.Test.YtpkgpkabmechkaaGreatPkV6x
namespace Go.Proofs.YtpkgpkabmechkaaGreat
set_option linter.unusedSimpArgs false
set_option linter.unusedVariables false
open Go.RowKit
open Fl

def pbB (x : Nat × Nat) : Bool := !flt 9218868437227405311 (rung x.1) && !flt 9218868437227405311 (rung x.2)
theorem wide_pb (x : Nat × Nat) : wideB x = (eqI x.1 x.2 9218868437227405312 18442240474082181120 || !pbB x) := by
  unfold wideB pbB
  cases eqI x.1 x.2 9218868437227405312 18442240474082181120 <;> cases flt 9218868437227405311 (rung x.1) <;> cases flt 9218868437227405311 (rung x.2) <;> rfl

set_option maxHeartbeats 1000000 in
theorem pb_c {x : Nat × Nat} (hx : Lt x) : Gives 175 #[(.agg #[.float .f64 x.1, .float .f64 x.2])] (.bool (pbB x)) := by
  intro w
  have I1 := isInf0_any x.1 hx.1
  have I2 := isInf0_any x.2 hx.2
  unfold pbB
  obtain ⟨a, b⟩ := x
  simp only at *
  generalize flt 9218868437227405311 (rung a) = p at *
  generalize flt 9218868437227405311 (rung b) = q at *
  clear hx
  cases p
  all_goals
    go_enter Tryz.func175, Tryz.ntmps175
    go_wp2_with (go_at_call 167; first | ((with_reducible refine (I1.go _).mono ?_); rintro _ _ ⟨n, rfl, rfl⟩) | ((with_reducible refine (I2.go _).mono ?_); rintro _ _ ⟨n, rfl, rfl⟩))
    go_ret
    exact ⟨rfl, by (repeat' first | (with_reducible first | exact Below.refl _ _ | assumption | refine Later.belowOf _ ?_ ?_ | refine Below.alloc ?_ ?_ _ | refine Below.setCell ?_ ?_ _ | refine Below.drewN' _ ?_ | refine Below.drew ?_ | exact Ge.le) | go_size)⟩

set_option maxHeartbeats 1000000 in
theorem pstart1_c : FnB 173 (fun x => noneB x.1 x.2) := by
  refine ⟨fun x w' => by simp [go_sem], fun x hx w => ?_⟩
  have R := right_any x.1 x.2
  show Calls _ _ _ _ fun e w' => e = .returned (.bool (noneB x.1 x.2)) ∧ _
  obtain ⟨a, b⟩ := x
  simp only at *
  unfold noneB
  rcases fot (rightB a b) with h1 | h1
  · rw [h1] at R ⊢
    go_enter Tryz.func173, Tryz.ntmps173
    go_wp2_with (fail)
    refine wp_region_later (by kernel_rfl) (by kernel_rfl) ?_
    repeat (go_big_quiet_step (first | (go_at_call 134; (with_reducible exact R.later _)) | (go_at_call 135; (with_reducible exact empty_any.later _))))
    (refine wpQuiet_nil ?_; rintro _ ⟨nq, rfl⟩)
    go_wp2
    go_ret
    exact ⟨rfl, by (repeat' first | (with_reducible first | exact Below.refl _ _ | assumption | refine Later.belowOf _ ?_ ?_ | refine Below.alloc ?_ ?_ _ | refine Below.setCell ?_ ?_ _ | refine Below.drewN' _ ?_ | refine Below.drew ?_ | exact Ge.le) | go_size)⟩
  · rw [h1] at R ⊢
    go_enter Tryz.func173, Tryz.ntmps173
    go_wp2_with (fail)
    refine wp_region_later (by kernel_rfl) (by kernel_rfl) ?_
    repeat (go_big_quiet_step (first | (go_at_call 134; (with_reducible exact R.later _)) | (go_at_call 135; (with_reducible exact empty_any.later _))))
    (refine wpQuiet_nil ?_; rintro _ ⟨nq, rfl⟩)
    go_wp2
    go_ret
    exact ⟨rfl, by (repeat' first | (with_reducible first | exact Below.refl _ _ | assumption | refine Later.belowOf _ ?_ ?_ | refine Below.alloc ?_ ?_ _ | refine Below.setCell ?_ ?_ _ | refine Below.drewN' _ ?_ | refine Below.drew ?_ | exact Ge.le) | go_size)⟩

set_option maxHeartbeats 1000000 in
theorem pstart2_c : FnB 174 (fun x => !pbB x) := by
  refine ⟨fun x w' => by simp [go_sem], fun x hx w => ?_⟩
  have R := pb_c hx
  show Calls _ _ _ _ fun e w' => e = .returned (.bool (!pbB x)) ∧ _
  generalize pbB x = p at *
  obtain ⟨a, b⟩ := x
  simp only at *
  go_enter Tryz.func174, Tryz.ntmps174
  go_wp2_with (go_at_call 175; (with_reducible refine (R.go _).mono ?_); rintro _ _ ⟨n, rfl, rfl⟩)
  go_ret
  exact ⟨rfl, by (repeat' first | (with_reducible first | exact Below.refl _ _ | assumption | refine Later.belowOf _ ?_ ?_ | refine Below.alloc ?_ ?_ _ | refine Below.setCell ?_ ?_ _ | refine Below.drewN' _ ?_ | refine Below.drew ?_ | exact Ge.le) | go_size)⟩

def inAll (a b : Nat → Nat × Nat) (n : Nat) : Bool := (List.range n).all fun i => insideB (a i).1 (a i).2 (b i).1 (b i).2
theorem inAll_iff {a b : Nat → Nat × Nat} {n : Nat} : inAll a b n = true ↔ ∀ i, i < n → insideB (a i).1 (a i).2 (b i).1 (b i).2 = true := by
  unfold inAll
  rw [List.all_eq_true]
  exact ⟨fun h i hi => h i (List.mem_range.2 hi), fun h i hi => h i (List.mem_range.1 hi)⟩
def InInv (W : World) (a b : Nat → Nat × Nat) (n : Nat) (i : Value) (w : World) : Prop :=
  ∃ k : Nat, i = .int .i64 k ∧ k ≤ n ∧ (∀ j, j < k → insideB (a j).1 (a j).2 (b j).1 (b j).2 = true) ∧ Below W.heap.size W w

set_option maxHeartbeats 2000000 in
set_option maxRecDepth 100000 in
theorem inside_c {v v' : Value} {n m : Nat} {a b : Nat → Nat × Nat} {w : World} (hx : IvsAt w v a n) (hy : IvsAt w v' b m) (hnm : n ≤ m) :
    Calls Tryz.prog 97 #[v, v'] w fun e w' => ∃ q : Later w, e = .returned (.bool (inAll a b n)) ∧ w' = q.val := by
  obtain ⟨A, c, rfl, hn, hx⟩ := hx
  obtain ⟨B, d, rfl, hm, hy⟩ := hy
  have HX := Lib.hid hx
  have HY := Lib.hid hy
  clear hx hy
  obtain ⟨R, hR⟩ : ∃ R : Bool, R = inAll a b n := ⟨_, rfl⟩
  rw [← hR]
  have HR := Lib.hid hR
  clear hR
  go_enter Tryz.func97, Tryz.ntmps97
  go_wp2
  go_loopw [8] (fun i wr => InInv w a b n i wr) (fun i _ => n - (intOf i).toNat)
  case atStart => exact ⟨0, rfl, Nat.zero_le _, fun j hj => by omega, Below.refl _ _⟩
  case round =>
    obtain ⟨k, rfl, hk, hE, hbel⟩ := hrel
    have HE := Lib.hid hE
    have hk2 : (k : Int) ≤ 9223372036854775807 := by omega
    have HB := Lib.hid hbel
    clear hE
    by_cases h1 : k < n
    · obtain ⟨b1, o1, eA, lx, c1, c2⟩ := HX.out k h1
      obtain ⟨b2, o2, eB, ly, d1, d2⟩ := HY.out k (by omega)
      subst eA eB
      have c1 := cellBelow hbel c1
      have c2 := cellBelow hbel c2
      have d1 := cellBelow hbel d1
      have d2 := cellBelow hbel d2
      haveI g1 : Ge wr (b1 + 1) := ⟨World.block_lt_of_cell? wr _ c1⟩
      haveI g2 : Ge wr (b2 + 1) := ⟨World.block_lt_of_cell? wr _ d1⟩
      have ss := inside_any (a k).1 (a k).2 (b k).1 (b k).2
      generalize hak : a k = x at *
      generalize hbk : b k = y at *
      generalize hi : insideB x.1 x.2 y.1 y.2 = r at *
      have HI := Lib.hid (show _ ∧ _ ∧ _ from ⟨hak, hbk, hi⟩)
      obtain ⟨x1, x2⟩ := x
      obtain ⟨y1, y2⟩ := y
      simp only at c1 c2 d1 d2 ss
      clear lx ly hbel hi hak hbk
      have k0 : (0 : Int) ≤ (k : Int) := by omega
      have k1 : (k : Int) < (n : Int) := by omega
      have k2 : (k : Int) < (m : Int) := by omega
      cases r
      · go_wp2_with (fail)
        refine wp_region_later (by kernel_rfl) (by kernel_rfl) ?_
        repeat (go_big_quiet_step ((go_at_call 44; (with_reducible exact ss.later _))))
        (refine wpQuiet_nil ?_; rintro _ ⟨nq, rfl⟩)
        go_wp2
        go_ret
        refine ⟨⟨_, HB.out.trans (Below.mono (B := wr.heap.size) (by (repeat' first | (with_reducible first | exact Below.refl _ _ | assumption | refine Later.belowOf _ ?_ ?_ | refine Below.alloc ?_ ?_ _ | refine Below.setCell ?_ ?_ _ | refine Below.drewN' _ ?_ | refine Below.drew ?_ | exact Ge.le) | go_size)) HB.out.size)⟩, ret_bool ?_, rfl⟩
        rw [HR.out]
        rcases fot (inAll a b n) with h | h
        · exact h.symm
        · have h2 := inAll_iff.1 h k h1
          obtain ⟨e1, e2, e3⟩ := HI.out
          rw [e1, e2, e3] at h2; cases h2
      · go_wp2_with (fail)
        refine wp_region_later (by kernel_rfl) (by kernel_rfl) ?_
        repeat (go_big_quiet_step ((go_at_call 44; (with_reducible exact ss.later _))))
        (refine wpQuiet_nil ?_; rintro _ ⟨nq, rfl⟩)
        go_wp2
        go_roundw
        case rel =>
          refine ⟨k + 1, by go_num, h1, fun j hj => ?_, HB.out.trans (Below.mono (B := wr.heap.size) (by (repeat' first | (with_reducible first | exact Below.refl _ _ | assumption | refine Later.belowOf _ ?_ ?_ | refine Below.alloc ?_ ?_ _ | refine Below.setCell ?_ ?_ _ | refine Below.drewN' _ ?_ | refine Below.drew ?_ | exact Ge.le) | go_size)) HB.out.size)⟩
          rcases Nat.lt_succ_iff_lt_or_eq.1 hj with h | h
          · exact HE.out j h
          · obtain ⟨e1, e2, e3⟩ := HI.out
            rw [h, e1, e2, e3]
        case measure => simp [intOf]; omega
    · obtain rfl : k = n := by omega
      go_wp2
      go_ret
      have hin : inAll a b k = true := inAll_iff.2 HE.out
      first
        | exact ⟨⟨_, hbel⟩, ret_bool (by rw [HR.out, hin]), rfl⟩
        | exact ⟨ret_bool (by rw [HR.out, hin]), ⟨_, hbel⟩, rfl⟩

theorem far_cell {w w' : World} {v : Value} {n b o : Nat} {u : Value} (hf : ∀ b, b < w.heap.size → some b ≠ v.ownBlock → w'.heap[b]? = w.heap[b]?) (hq : ∀ g, v.ownBlock = some g → g < n) (hb : n ≤ b) (h : w.cell? ⟨b, o, none⟩ = some u) : w'.cell? ⟨b, o, none⟩ = some u :=
  (World.cell?_of_block (hf b (World.block_lt_of_cell? _ _ h) (fun e => by have := hq b e.symm; omega))).trans h
section
variable {w : World} {ops : Array Oper} {o : Oper} {a : Act} {Q : Exit → Act → World → Prop} {K : Act → World → Prop} {E : Prop} {s x : Operand} {base : Nat} {v : Value} {xs : Nat → Nat × Nat} {k B p q : Nat} {fr : Nat × Nat}
theorem step_append_iv (hgd : o.guard = none)
    (ho : o.op = .call { callee := .builtin .append, args := #[s, x], argTypes := #[46, 46] })
    (hs : a.eval s = v) (hx : a.eval x = .slice (some ⟨B, 0, none⟩) 1 1) (hB : w.heap[B]? = some (.cells #[(.float .f64 p), (.float .f64 q)] 24 fr)) (hown : OwnIv base w v xs k) (hpq : xs k = (p, q)) (hl : Lt (p, q)) (hL : k ≤ 3000000) (hb : base ≤ w.heap.size)
    (h : ∀ g cap w', OwnIv base w' (.slice (some ⟨g, 0, none⟩) (k + 1) cap) xs (k + 1) → Below base w w' → (∀ b, b < w.heap.size → some b ≠ v.ownBlock → w'.heap[b]? = w.heap[b]?) → K (a.put o.dst (.slice (some ⟨g, 0, none⟩) (k + 1) cap)) w') :
    if Region.wanted o (yielded ops a.tmps) = true then Oper.wp Tryz.prog o a w K Q else E := by
  obtain ⟨i0, hi, hz0, hz1, hz2⟩ := info_parts info24
  refine step_append_lies _ hgd s x 46 ho base 24 i0 (.agg #[.float .f64 0, .float .f64 0]) 2 16 Tryz.underlying46 hi hz0 hz1 hz2 rfl (by decide) v k (ivCells xs k) hs hown.2 ⟨B, 0, none⟩ 1 1 [(.float .f64 p), (.float .f64 q)] hx rfl (World.news_of_block hB) ?_ (by omega) (by unfold maxLen; omega) (by omega) hb w.heap.size rfl ?_
  · intro u hu
    simp at hu
    rcases hu with rfl | rfl <;> rfl
  · intro g cap w1 h1 h2 h3 h4
    refine h g cap w1 ⟨fun i hi => ?_, by rw [ivCells_succ, hpq]; exact h1⟩ (grown_below hown.2 h2 hb) (fun b hb hn => h2.block b hb hn)
    by_cases e : i = k
    · rw [e, hpq]; exact hl
    · exact hown.1 i (by omega)
end

def hullF (a b : Nat → Nat × Nat) (i : Nat) : Nat × Nat := hullP (a i) (b i)
def OutInv1 (W : World) (ys : Nat → Nat × Nat) (n : Nat) (i v : Value) (wr : World) : Prop :=
  ∃ j : Nat, i = .int .i64 j ∧ j ≤ n ∧ OwnIv W.heap.size wr v ys j ∧ Below W.heap.size W wr

set_option maxHeartbeats 4000000 in
set_option maxRecDepth 100000 in
theorem phull_c {v v' : Value} {n m : Nat} {a b : Nat → Nat × Nat} {w : World} (hx : IvsAt w v a n) (hy : IvsAt w v' b m) (hnm : n ≤ m) (hn1 : n ≤ 1000) :
    Calls Tryz.prog 98 #[v, v'] w fun e w' => ∃ u, e = .returned u ∧ OwnIv w.heap.size w' u (hullF a b) n ∧ Below w.heap.size w w' := by
  obtain ⟨A, c, rfl, hn, hx⟩ := hx
  obtain ⟨B, d, rfl, hm, hy⟩ := hy
  have HX := Lib.hid hx
  have HY := Lib.hid hy
  clear hx hy
  go_enter Tryz.func98, Tryz.ntmps98
  go_wp2
  go_loopw [9, 5] (fun i v wr => OutInv1 w (hullF a b) n i v wr) (fun i _ _ => n - (intOf i).toNat)
  case atStart => exact ⟨0, rfl, Nat.zero_le _, ownIv_nil _ _ _, Below.refl _ _⟩
  case round =>
    obtain ⟨k, rfl, hk, hown, hbel⟩ := hrel
    have hk2 : (k : Int) ≤ 1000 := by omega
    by_cases h1 : k < n
    · obtain ⟨b1, o1, eA, lx, c1, c2⟩ := HX.out k h1
      obtain ⟨b2, o2, eB, ly, d1, d2⟩ := HY.out k (by omega)
      subst eA eB
      have e1 := c1
      have e2 := d1
      have c1 := cellBelow hbel c1
      have c2 := cellBelow hbel c2
      have d1 := cellBelow hbel d1
      have d2 := cellBelow hbel d2
      haveI g1 : Ge wr (b1 + 1) := ⟨World.block_lt_of_cell? wr _ c1⟩
      haveI g2 : Ge wr (b2 + 1) := ⟨World.block_lt_of_cell? wr _ d1⟩
      haveI g3 : Ge wr w.heap.size := ⟨hbel.size⟩
      have q1 := World.block_lt_of_cell? _ _ e1
      have q2 := World.block_lt_of_cell? _ _ e2
      simp only at q1 q2
      clear e1 e2
      have ss := hullC lx ly
      have lz := lt_hull lx ly
      have hz : hullF a b k = hullP (a k) (b k) := rfl
      generalize hullP (a k) (b k) = z at *
      generalize a k = x at *
      generalize b k = y at *
      have HZ := Lib.hid (show _ ∧ _ from ⟨hz, lz⟩)
      have HR := Lib.hid (show _ ∧ _ from ⟨hown, hbel⟩)
      obtain ⟨x1, x2⟩ := x
      obtain ⟨y1, y2⟩ := y
      obtain ⟨z1, z2⟩ := z
      simp only at c1 c2 d1 d2 ss
      clear lx ly hown hbel hz lz
      have k0 : (0 : Int) ≤ (k : Int) := by omega
      have k1 : (k : Int) < (n : Int) := by omega
      have k2 : (k : Int) < (m : Int) := by omega
      go_wp2_with (fail)
      go_region_held3 (fun w' => w'.cell? ⟨b1, o1 + k * 2, none⟩ = some (.float .f64 x1) ∧ w'.cell? ⟨b1, o1 + k * 2 + 1, none⟩ = some (.float .f64 x2) ∧ w'.cell? ⟨b2, o2 + k * 2, none⟩ = some (.float .f64 y1) ∧ w'.cell? ⟨b2, o2 + k * 2 + 1, none⟩ = some (.float .f64 y2))
        (first | (go_simp; done) | go_keep | (go_split_ands; refine ⟨?_, ?_, ?_, ?_⟩ <;> first | (rw [hb4.cell q1]; assumption) | (rw [hb4.cell q2]; assumption)))
        (first
          | (go_at_call 152; (with_reducible refine (ss.go _).mono ?_); rintro _ _ ⟨nn, rfl, rfl⟩)
          | (refine step_append_iv (fr := (0, 0)) rfl (by rfl) (by rfl) (by rfl) (by (repeat' (first | (with_reducible refine at_drew ?_) | (with_reducible refine at_new ?_; (first | rfl | (simp; done))) | (with_reducible refine at_old ?_)))) (OwnIv.below HR.out.1 (by (repeat' first | (with_reducible first | exact Below.refl _ _ | assumption | refine Later.belowOf _ ?_ ?_ | refine Below.alloc ?_ ?_ _ | refine Below.setCell ?_ ?_ _ | refine Below.drewN' _ ?_ | refine Below.drew ?_ | exact Ge.le) | go_size))) HZ.out.1 HZ.out.2 (by omega) (by first | omega | exact Ge.le | go_size) ?_; intro g4 cap4 w4 hown4 hb4 hf4))
      go_wp2
      go_roundw
      case rel => exact ⟨k + 1, by go_num, h1, hown4, HR.out.2.trans (Below.trans (by (repeat' first | (with_reducible first | exact Below.refl _ _ | assumption | refine Later.belowOf _ ?_ ?_ | refine Below.alloc ?_ ?_ _ | refine Below.setCell ?_ ?_ _ | refine Below.drewN' _ ?_ | refine Below.drew ?_ | exact Ge.le) | go_size)) hb4)⟩
      case measure => simp [intOf]; omega
    · obtain rfl : k = n := by omega
      go_wp2
      go_ret
      exact ⟨_, rfl, hown, hbel⟩
end Go.Proofs.YtpkgpkabmechkaaGreat

/- Contracts: picard.reach. -/
namespace Go.Proofs.YtpkgpkabmechkaaGreat
set_option linter.unusedSimpArgs false
set_option linter.unusedVariables false
open Go.RowKit
open Fl

/-- Where solutions come. -/
def goP (x f : Nat × Nat) (time : Nat) : Nat × Nat := addP x (mulP (makeI 0 time) f)
def reachOk (x f : Nat → Nat × Nat) (time n : Nat) : Bool := (List.range n).all fun i => !wideB (goP (x i) (f i) time)
theorem reachOk_iff {x f : Nat → Nat × Nat} {time n : Nat} : reachOk x f time n = true ↔ ∀ i, i < n → wideB (goP (x i) (f i) time) = false := by
  unfold reachOk
  rw [List.all_eq_true]
  exact ⟨fun h i hi => by have := h i (List.mem_range.2 hi); simpa using this, fun h i hi => by rw [h i (List.mem_range.1 hi)]; rfl⟩
def ReachRes (w : World) (ok : Bool) (ys : Nat → Nat × Nat) (n : Nat) (e : Ending) (w' : World) : Prop :=
  ∃ v, e = .returned (.tuple #[v, .bool ok]) ∧ (ok = false → v = .slice none 0 0) ∧ (ok = true → OwnIv w.heap.size w' v ys n) ∧ Below w.heap.size w w'
def ReachInv (W : World) (ys : Nat → Nat × Nat) (n : Nat) (i v : Value) (wr : World) : Prop :=
  ∃ j : Nat, i = .int .i64 j ∧ j ≤ n ∧ OwnIv W.heap.size wr v ys j ∧ (∀ l, l < j → wideB (ys l) = false) ∧ Below W.heap.size W wr

theorem cut_boxB {W wc : World} {B : Nat} {x : Nat × Nat} (hb : Below W.heap.size W wc) (hx : Box wc B x) :
    ∃ (B' : Nat) (q : Later W), Value.pointer (some ⟨B, 0, none⟩) = .pointer (some ⟨B', 0, none⟩) ∧ wc = q.val ∧ Box wc B' x := ⟨B, ⟨wc, hb⟩, rfl, rfl, hx⟩

set_option maxHeartbeats 8000000 in
set_option maxRecDepth 100000 in
theorem reach_c {V : Int} {vO vN vx vb : Value} {ops : Nat → OpT} {outs : Nat → Int} {nO nN n nb : Nat} {x b : Nat → Nat × Nat} {time : Nat} {w : World} (hO : OpsAt w vO ops nO) (hN : OutsAt w vN outs nN) (hx : IvsAt w vx x n) (hb : IvsAt w vb b nb) (hn : n ≤ nN) (hn1 : n ≤ 1000) (ht : time < 18446744073709551616) :
    Calls Tryz.prog 96 #[.agg #[.int .i64 V, vO, vN], vx, vb, (.float .f64 time)] w (ReachRes w (decide (evalE V nO ops nN outs b nb = 0) && reachOk x (outF ops outs b) time n) (fun i => goP (x i) (outF ops outs b i) time) n) := by
  have b0 : Below w.heap.size w (w.alloc (Obj.cells #[.int .i64 V, vO, vN] 45)) := (Below.refl _ _).alloc (Nat.le_refl _) _
  have EV := eval_c (V := V) (hO.below b0) (hN.below b0) (hb.below b0)
  generalize evalE V nO ops nN outs b nb = E at *
  have hys : ∀ i, (fun i => goP (x i) (outF ops outs b i) time) i = goP (x i) (outF ops outs b i) time := fun i => rfl
  generalize hY : (fun i => goP (x i) (outF ops outs b i) time) = Y at *
  by_cases hE : E = 0
  · subst hE
    simp only [decide_true, Bool.true_and]
    obtain ⟨R, hR⟩ : ∃ R : Bool, R = reachOk x (outF ops outs b) time n := ⟨_, rfl⟩
    rw [← hR]
    have HR := Lib.hid hR
    have HX := Lib.hid hx
    have HYS := Lib.hid hys
    clear hR hx hO hN hb b0 hys hY
    generalize outF ops outs b = F at *
    go_enter Tryz.func96, Tryz.ntmps96
    go_upto_region 4 with (go_at_call 33; refine EV.mono ?_; rintro _ w2 ⟨va, rfl, ha1, ha2, hb2⟩; replace ha2 := (ha2 rfl).ivs; clear ha1 EV)
    obtain ⟨n2, rfl⟩ : ∃ n2 : Later (w.alloc (Obj.cells #[.int .i64 V, vO, vN] 45)), w2 = n2.val := ⟨⟨w2, hb2⟩, rfl⟩
    have bw : Below w.heap.size w n2.val := by (repeat' first | (with_reducible first | exact Below.refl _ _ | assumption | refine Later.belowOf _ ?_ ?_ | refine Below.alloc ?_ ?_ _ | refine Below.setCell ?_ ?_ _ | refine Below.drewN' _ ?_ | refine Below.drew ?_ | exact Ge.le) | go_size)
    have hx2 := HX.out.below bw
    have hnw := bw.size
    clear hb2
    obtain ⟨Ax, cx, rfl, hnx, hcx⟩ := hx2
    obtain ⟨Af, cf, rfl, hnf, hcf⟩ := ha2
    have HCX := Lib.hid hcx
    have HCF := Lib.hid hcf
    have HBW := Lib.hid bw
    clear hcx hcf bw
    go_wp2
    go_loopw [25, 12] (fun i v wr => ReachInv n2.val Y n i v wr) (fun i _ _ => n - (intOf i).toNat)
    case atStart => exact ⟨0, rfl, Nat.zero_le _, ownIv_nil _ _ _, fun l hl => by omega, Below.refl _ _⟩
    case round =>
      obtain ⟨k, rfl, hk, hown, hE, hbel⟩ := hrel
      have hk2 : (k : Int) ≤ 1000 := by omega
      by_cases h1 : k < n
      · obtain ⟨b1, o1, eA, lx, c1, c2⟩ := HCX.out k h1
        obtain ⟨b2, o2, eB, lf, d1, d2⟩ := HCF.out k (by omega)
        subst eA eB
        have q1 := World.block_lt_of_cell? _ _ c1
        have q2 := World.block_lt_of_cell? _ _ d1
        simp only at q1 q2
        have c1 := cellBelow hbel c1
        have c2 := cellBelow hbel c2
        have d1 := cellBelow hbel d1
        have d2 := cellBelow hbel d2
        haveI g1 : Ge wr (b1 + 1) := ⟨World.block_lt_of_cell? wr _ c1⟩
        haveI g2 : Ge wr (b2 + 1) := ⟨World.block_lt_of_cell? wr _ d1⟩
        haveI g3 : Ge wr n2.val.heap.size := ⟨hbel.size⟩
        have MK := make_any 0 time (by decide) ht
        have lm : Lt (makeI 0 time) := lt_make (by decide) ht
        have ML := mulC lm lf
        have lp := lt_mul lm lf
        have AD := addC lx lp
        have lz := lt_add lx lp
        have PB := pb_c lz
        have hz := HYS.out k
        have hw : wideB (goP (x k) (F k) time) = (eqI (goP (x k) (F k) time).1 (goP (x k) (F k) time).2 9218868437227405312 18442240474082181120 || !pbB (goP (x k) (F k) time)) := wide_pb _
        unfold goP at hz hw
        generalize addP (x k) (mulP (makeI 0 time) (F k)) = z at *
        generalize mulP (makeI 0 time) (F k) = p at *
        generalize makeI 0 time = mk at *
        generalize x k = xk at *
        generalize F k = fk at *
        have HZ := Lib.hid (show _ ∧ _ ∧ _ from ⟨hz, lz, hw⟩)
        have HI := Lib.hid (show _ ∧ _ ∧ _ from ⟨hown, hbel, hE⟩)
        obtain ⟨x1, x2⟩ := xk
        obtain ⟨f1, f2⟩ := fk
        obtain ⟨p1, p2⟩ := p
        obtain ⟨m1, m2⟩ := mk
        obtain ⟨z1, z2⟩ := z
        simp only at c1 c2 d1 d2 MK ML AD PB
        clear lx lf lm lp lz hz hw hown hbel hE
        have k0 : (0 : Int) ≤ (k : Int) := by omega
        have k1 : (k : Int) < (n : Int) := by omega
        have k2 : (k : Int) < (nN : Int) := by omega
        go_wp2_with (fail)
        go_cut [14] (fun v wc => ∃ (B : Nat) (q : Later wr), v = .pointer (some ⟨B, 0, none⟩) ∧ wc = q.val ∧ Box wc B (z1, z2))
        case first =>
          go_region_held3 (fun w' => w'.cell? ⟨b1, o1 + k * 2, none⟩ = some (.float .f64 x1) ∧ w'.cell? ⟨b1, o1 + k * 2 + 1, none⟩ = some (.float .f64 x2) ∧ w'.cell? ⟨b2, o2 + k * 2, none⟩ = some (.float .f64 f1) ∧ w'.cell? ⟨b2, o2 + k * 2 + 1, none⟩ = some (.float .f64 f2))
            (first | (go_simp; done) | go_keep)
            (first | (go_at_call 136; (with_reducible refine (MK.go _).mono ?_); rintro _ _ ⟨nn, rfl, rfl⟩) | (go_at_call 140; (with_reducible refine (ML.go _).mono ?_); rintro _ _ ⟨nn, rfl, rfl⟩) | (go_at_call 80; (with_reducible refine (AD.go _).mono ?_); rintro _ _ ⟨nn, rfl, rfl⟩))
          all_goals
            rename_i hHeld
            clear hHeld
            go_wp2
            go_meet
            case rel =>
              refine cut_boxB ?_ ?_
              · (repeat' first | (with_reducible first | exact Below.refl _ _ | assumption | refine Later.belowOf _ ?_ ?_ | refine Below.alloc ?_ ?_ _ | refine Below.setCell ?_ ?_ _ | refine Below.drewN' _ ?_ | refine Below.drew ?_ | exact Ge.le) | go_size)
              · first | exact Box.new _ _ _ | exact Box.set ((Box.new _ 0 0).below (by (repeat' first | (with_reducible first | exact Below.refl _ _ | assumption | refine Later.belowOf _ ?_ ?_ | refine Below.alloc ?_ ?_ _ | refine Below.setCell ?_ ?_ _ | refine Below.drewN' _ ?_ | refine Below.drew ?_ | exact Ge.le) | go_size))) _ _
        obtain ⟨B, q, rfl, rfl, hbx⟩ := hcut
        have hb1 : Below n2.val.heap.size n2.val q.val := HI.out.2.1.trans (q.below.mono HI.out.2.1.size)
        have e0 := hbx.c0
        have e1 := hbx.c1
        haveI gq : Ge q.val (B + 1) := ⟨hbx.lt⟩
        haveI gq2 : Ge q.val n2.val.heap.size := ⟨hb1.size⟩
        have HBQ := Lib.hid hb1
        have hR0 : wideB (z1, z2) = true → R = false := fun hw => by
          rw [HR.out]
          rcases fot (reachOk x F time n) with h | h
          · exact h
          · have := reachOk_iff.1 h k h1
            rw [← HYS.out k, HZ.out.1, hw] at this; cases this
        have HR0 := Lib.hid hR0
        have hw3 := HZ.out.2.2
        clear hbx hb1 hR0 MK ML AD c1 c2 d1 d2
        generalize hpb : pbB (z1, z2) = pb at *
        clear hpb
        rcases fot (eqI z1 z2 9218868437227405312 18442240474082181120) with h0 | h0
        · simp only [h0, Bool.false_or] at hw3
          cases pb
          · have hRf := HR0.out hw3
            clear hw3
            go_wp2_with (fail)
            refine wp_region_later (by kernel_rfl) (by kernel_rfl) ?_
            repeat (go_big_quiet_step (first | (go_at_call 135; (with_reducible exact empty_any.later _)) | (go_at_call 175; (with_reducible exact PB.later _))))
            (refine wpQuiet_nil ?_; rintro _ ⟨nq, rfl⟩)
            go_wp2
            go_ret2
            exact ⟨_, by rw [hRf]; rfl, fun _ => rfl, fun h => absurd (hRf.symm.trans h) (by decide), HBW.out.trans (Below.mono (B := n2.val.heap.size) (HBQ.out.trans (Below.mono (B := q.val.heap.size) (by (repeat' first | (with_reducible first | exact Below.refl _ _ | assumption | refine Later.belowOf _ ?_ ?_ | refine Below.alloc ?_ ?_ _ | refine Below.setCell ?_ ?_ _ | refine Below.drewN' _ ?_ | refine Below.drew ?_ | exact Ge.le) | go_size)) HBQ.out.size)) hnw)⟩
          · have HW3 := Lib.hid hw3
            clear hw3
            go_wp2_with (fail)
            refine wp_region_later (by kernel_rfl) (by kernel_rfl) ?_
            repeat (go_big_quiet_step (first | (go_at_call 135; (with_reducible exact empty_any.later _)) | (go_at_call 175; (with_reducible exact PB.later _))))
            (refine wpQuiet_nil ?_; rintro _ ⟨nq, rfl⟩)
            have hown3 := OwnIv.below HI.out.1 (w' := nq.val) (q.below.trans (Below.mono (B := q.val.heap.size) (by (repeat' first | (with_reducible first | exact Below.refl _ _ | assumption | refine Later.belowOf _ ?_ ?_ | refine Below.alloc ?_ ?_ _ | refine Below.setCell ?_ ?_ _ | refine Below.drewN' _ ?_ | refine Below.drew ?_ | exact Ge.le) | go_size)) q.below.size))
            have hbel3 : Below n2.val.heap.size n2.val nq.val := HBQ.out.trans (Below.mono (B := q.val.heap.size) (by (repeat' first | (with_reducible first | exact Below.refl _ _ | assumption | refine Later.belowOf _ ?_ ?_ | refine Below.alloc ?_ ?_ _ | refine Below.setCell ?_ ?_ _ | refine Below.drewN' _ ?_ | refine Below.drew ?_ | exact Ge.le) | go_size)) HBQ.out.size)
            have HB3 := Lib.hid hbel3
            have hle3 := hbel3.size
            clear hbel3
            go_wp2_with (at_builtin; refine wpList_append_iv nq.val rfl (.tmp 48) (.tmp 50) rfl n2.val.heap.size _ Y k z1 z2 rfl rfl hown3 HZ.out.1 HZ.out.2.1 (by omega) (by omega) ?_; intro v4 w4 hown4 hb4)
            go_roundw
            case rel =>
              refine ⟨k + 1, by go_num, h1, hown4, fun l hl => ?_, HB3.out.trans hb4⟩
              rcases Nat.lt_succ_iff_lt_or_eq.1 hl with h | h
              · exact HI.out.2.2 l h
              · rw [h, HZ.out.1]; exact HW3.out
            case measure => simp [intOf]; omega
        · simp only [h0, Bool.true_or] at hw3
          have hRf := HR0.out hw3
          clear hw3
          go_wp2_with (fail)
          refine wp_region_later (by kernel_rfl) (by kernel_rfl) ?_
          repeat (go_big_quiet_step (first | (go_at_call 135; (with_reducible exact empty_any.later _)) | (go_at_call 175; (with_reducible exact PB.later _))))
          (refine wpQuiet_nil ?_; rintro _ ⟨nq, rfl⟩)
          go_wp2
          go_ret2
          exact ⟨_, by rw [hRf]; rfl, fun _ => rfl, fun h => absurd (hRf.symm.trans h) (by decide), HBW.out.trans (Below.mono (B := n2.val.heap.size) (HBQ.out.trans (Below.mono (B := q.val.heap.size) (by (repeat' first | (with_reducible first | exact Below.refl _ _ | assumption | refine Later.belowOf _ ?_ ?_ | refine Below.alloc ?_ ?_ _ | refine Below.setCell ?_ ?_ _ | refine Below.drewN' _ ?_ | refine Below.drew ?_ | exact Ge.le) | go_size)) HBQ.out.size)) hnw)⟩
      · obtain rfl : k = n := by omega
        have hR1 : R = true := by rw [HR.out]; exact reachOk_iff.2 fun i hi => by rw [← HYS.out i]; exact hE i hi
        go_wp2
        go_ret2
        exact ⟨_, by rw [hR1]; rfl, fun h => absurd (hR1.symm.trans h) (by decide), fun _ => hown.base hnw, HBW.out.trans (hbel.mono hnw)⟩
  · have hd : decide (E = 0) = false := decide_eq_false hE
    rw [hd, Bool.false_and]
    clear hx hO hN hb b0 hys hY
    go_enter Tryz.func96, Tryz.ntmps96
    go_wp2_with (go_at_call 33; refine EV.mono ?_; rintro _ w2 ⟨va, rfl, ha1, ha2, hb2⟩; obtain rfl := ha1 hE; clear ha1 ha2 EV; obtain ⟨n2, rfl⟩ : ∃ n2 : Later (w.alloc (Obj.cells #[.int .i64 V, vO, vN] 45)), w2 = n2.val := ⟨⟨w2, hb2⟩, rfl⟩; clear hb2)
    go_ret2
    exact ⟨_, rfl, fun _ => rfl, fun h => (by cases h), by (repeat' first | (with_reducible first | exact Below.refl _ _ | assumption | refine Later.belowOf _ ?_ ?_ | refine Below.alloc ?_ ?_ _ | refine Below.setCell ?_ ?_ _ | refine Below.drewN' _ ?_ | refine Below.drew ?_ | exact Ge.le) | go_size)⟩
end Go.Proofs.YtpkgpkabmechkaaGreat

/- Contracts: picard.wider, picard.evenly. -/
namespace Go.Proofs.YtpkgpkabmechkaaGreat
set_option linter.unusedSimpArgs false
set_option linter.unusedVariables false
open Go.RowKit
open Fl

theorem lt_magI {x : Nat × Nat} : magI x.1 x.2 < 18446744073709551616 := by
  rcases fot (noneB x.1 x.2) with h | h
  · exact (can_mag h).1.lt
  · unfold magI; rw [h, if_pos rfl]; decide
def moreD (m share : Nat) : Nat := (mulP (ptP share) (addP (ptP 4607182418800017408) (ptP m))).2
def widerF (b : Nat → Nat × Nat) (share i : Nat) : Nat × Nat := aroundP (b i) (moreD (magI (b i).1 (b i).2) share)

set_option maxHeartbeats 8000000 in
set_option maxRecDepth 100000 in
theorem pwider_c {v : Value} {n share : Nat} {b : Nat → Nat × Nat} {w : World} (hx : IvsAt w v b n) (hn1 : n ≤ 1000) (hsh : share < 18446744073709551616) :
    Calls Tryz.prog 100 #[v, (.float .f64 share)] w fun e w' => ∃ u, e = .returned u ∧ OwnIv w.heap.size w' u (widerF b share) n ∧ Below w.heap.size w w' := by
  obtain ⟨A, c, rfl, hn, hx⟩ := hx
  have HX := Lib.hid hx
  clear hx
  go_enter Tryz.func100, Tryz.ntmps100
  go_wp2
  go_loopw [11, 5] (fun i v wr => OutInv1 w (widerF b share) n i v wr) (fun i _ _ => n - (intOf i).toNat)
  case atStart => exact ⟨0, rfl, Nat.zero_le _, ownIv_nil _ _ _, Below.refl _ _⟩
  case round =>
    obtain ⟨k, rfl, hk, hown, hbel⟩ := hrel
    have hk2 : (k : Int) ≤ 1000 := by omega
    by_cases h1 : k < n
    · obtain ⟨b1, o1, eA, lx, c1, c2⟩ := HX.out k h1
      subst eA
      have c1 := cellBelow hbel c1
      have c2 := cellBelow hbel c2
      haveI g3 : Ge wr w.heap.size := ⟨hbel.size⟩
      have MG := mag_any (b k).1 (b k).2 lx.1 lx.2
      have lmg : magI (b k).1 (b k).2 < 18446744073709551616 := lt_magI
      have PM := ptC lmg
      have P1 := ptC (show 4607182418800017408 < 18446744073709551616 by decide)
      have PS := ptC hsh
      have l1 := lt_pt (show 4607182418800017408 < 18446744073709551616 by decide)
      have lpm := lt_pt lmg
      have lps := lt_pt hsh
      have A1 := addC l1 lpm
      have la := lt_add l1 lpm
      have M1 := mulC lps la
      have lm := lt_mul lps la
      have hz : widerF b share k = addP (b k) (makeI (fneg (moreD (magI (b k).1 (b k).2) share)) (moreD (magI (b k).1 (b k).2) share)) := rfl
      unfold moreD at hz
      have ne := fneg_eq lm.2
      have MK := make_any (fneg (mulP (ptP share) (addP (ptP 4607182418800017408) (ptP (magI (b k).1 (b k).2)))).2) _ (fneg_lt _) lm.2
      have lk := lt_make (fneg_lt (mulP (ptP share) (addP (ptP 4607182418800017408) (ptP (magI (b k).1 (b k).2)))).2) lm.2
      have A2 := addC lx lk
      have lz := lt_add lx lk
      generalize magI (b k).1 (b k).2 = mg at *
      generalize ptP mg = pm at *
      generalize ptP 4607182418800017408 = p1 at *
      generalize ptP share = ps at *
      generalize addP p1 pm = s at *
      generalize mulP ps s = m at *
      obtain ⟨m1, d⟩ := m
      simp only at *
      generalize fneg d = nd at *
      generalize makeI nd d = mk at *
      generalize b k = x at *
      generalize addP x mk = z at *
      have HZ := Lib.hid (show _ ∧ _ from ⟨hz, lz⟩)
      have HR := Lib.hid (show _ ∧ _ from ⟨hown, hbel⟩)
      obtain ⟨x1, x2⟩ := x
      obtain ⟨z1, z2⟩ := z
      simp only at *
      clear lx lmg l1 lpm lps la lm lk lz hown hbel hz
      have k0 : (0 : Int) ≤ (k : Int) := by omega
      have k1 : (k : Int) < (n : Int) := by omega
      go_wp2_with (fail)
      refine wp_region_later (by kernel_rfl) (by kernel_rfl) ?_
      repeat (go_big_quiet_step (first | (go_at_call 139; first | (with_reducible exact PS.later _) | (with_reducible exact P1.later _) | (with_reducible exact PM.later _)) | (go_at_call 151; (with_reducible exact MG.later _)) | (go_at_call 80; (with_reducible exact A1.later _)) | (go_at_call 140; (with_reducible exact M1.later _))))
      (refine wpQuiet_nil ?_; rintro _ ⟨nq, rfl⟩)
      have s0 : nq.val.cell? ⟨wr.heap.size, 0, none⟩ = some (.float .f64 x1) := by simp [go_sem]
      have s1 : nq.val.cell? ⟨wr.heap.size, 1, none⟩ = some (.float .f64 x2) := by simp [go_sem]
      have hbq : Below wr.heap.size wr nq.val := by (repeat' first | (with_reducible first | exact Below.refl _ _ | assumption | refine Later.belowOf _ ?_ ?_ | refine Below.alloc ?_ ?_ _ | refine Below.setCell ?_ ?_ _ | refine Below.drewN' _ ?_ | refine Below.drew ?_ | exact Ge.le) | go_size)
      have QV := fun g h => (OwnIv.lt HR.out.1 g h).2
      have hle := HR.out.2.size
      haveI gq : Ge nq.val (wr.heap.size + 1) := ⟨World.block_lt_of_cell? _ _ s0⟩
      have hown3 := OwnIv.below HR.out.1 hbq
      have hbel3 : Below w.heap.size w nq.val := HR.out.2.trans (hbq.mono hle)
      have HB3 := Lib.hid (show _ ∧ _ from ⟨hown3, hbel3⟩)
      have hle3 := hbel3.size
      haveI gq2 : Ge nq.val w.heap.size := ⟨hle3⟩
      clear hbel3 hown3 hbq c1 c2 PS P1 PM MG A1 M1
      go_wp2_with (fail)
      go_region_held3 (fun w' => w'.cell? ⟨wr.heap.size, 0, none⟩ = some (.float .f64 x1) ∧ w'.cell? ⟨wr.heap.size, 1, none⟩ = some (.float .f64 x2))
        (first | (go_simp; done) | go_keep | (go_split_ands; refine ⟨?_, ?_⟩ <;> exact far_cell hf4 QV (Nat.le_refl _) (by assumption)))
        (first
          | (go_at_call 136; (with_reducible refine (MK.go _).mono ?_); rintro _ _ ⟨nn, rfl, rfl⟩)
          | (go_at_call 80; (with_reducible refine (A2.go _).mono ?_); rintro _ _ ⟨nn, rfl, rfl⟩)
          | (refine step_append_iv (fr := (0, 0)) rfl (by rfl) (by rfl) (by rfl) (by (repeat' (first | (with_reducible refine at_drew ?_) | (with_reducible refine at_new ?_; (first | rfl | (simp; done))) | (with_reducible refine at_old ?_)))) (OwnIv.below HB3.out.1 (by (repeat' first | (with_reducible first | exact Below.refl _ _ | assumption | refine Later.belowOf _ ?_ ?_ | refine Below.alloc ?_ ?_ _ | refine Below.setCell ?_ ?_ _ | refine Below.drewN' _ ?_ | refine Below.drew ?_ | exact Ge.le) | go_size))) HZ.out.1 HZ.out.2 (by omega) (by first | omega | exact Ge.le | go_size) ?_; intro g4 cap4 w4 hown4 hb4 hf4))
      go_wp2
      go_roundw
      case rel => exact ⟨k + 1, by go_num, h1, hown4, HB3.out.2.trans (Below.trans (by (repeat' first | (with_reducible first | exact Below.refl _ _ | assumption | refine Later.belowOf _ ?_ ?_ | refine Below.alloc ?_ ?_ _ | refine Below.setCell ?_ ?_ _ | refine Below.drewN' _ ?_ | refine Below.drew ?_ | exact Ge.le) | go_size)) hb4)⟩
      case measure => simp [intOf]; omega
    · obtain rfl : k = n := by omega
      go_wp2
      go_ret
      exact ⟨_, rfl, hown, hbel⟩

theorem can_magI {x : Nat × Nat} : Can (magI x.1 x.2) := by
  rcases fot (noneB x.1 x.2) with h | h
  · exact (can_mag h).1
  · unfold magI; rw [h, if_pos rfl]; exact can_zero
def MostInv (W : World) (n : Nat) (i m : Value) (wr : World) : Prop :=
  ∃ k q : Nat, i = .int .i64 k ∧ k ≤ n ∧ m = (.float .f64 q) ∧ Can q ∧ Below W.heap.size W wr
def evenF (b : Nat → Nat × Nat) (m share i : Nat) : Nat × Nat := aroundP (b i) (moreD m share)

set_option maxHeartbeats 8000000 in
set_option maxRecDepth 100000 in
theorem pevenly_c {v : Value} {n share : Nat} {b : Nat → Nat × Nat} {w : World} (hx : IvsAt w v b n) (hn1 : n ≤ 1000) (hsh : share < 18446744073709551616) :
    Calls Tryz.prog 102 #[v, (.float .f64 share)] w fun e w' => ∃ u m, e = .returned u ∧ OwnIv w.heap.size w' u (evenF b m share) n ∧ Below w.heap.size w w' := by
  obtain ⟨A, c, rfl, hn, hx⟩ := hx
  have HX := Lib.hid hx
  clear hx
  go_enter Tryz.func102, Tryz.ntmps102
  go_wp2
  go_loopw [14, 5] (fun i m wr => MostInv w n i m wr) (fun i _ _ => n - (intOf i).toNat)
  case atStart => exact ⟨0, 0, rfl, Nat.zero_le _, rfl, can_zero, Below.refl _ _⟩
  case round =>
    obtain ⟨k, q, rfl, hk, rfl, hq, hbel⟩ := hrel
    have hk2 : (k : Int) ≤ 1000 := by omega
    by_cases h1 : k < n
    · obtain ⟨b1, o1, eA, lx, c1, c2⟩ := HX.out k h1
      subst eA
      have c1 := cellBelow hbel c1
      have c2 := cellBelow hbel c2
      have MG := mag_any (b k).1 (b k).2 lx.1 lx.2
      have cm : Can (magI (b k).1 (b k).2) := can_magI
      have m1 := fun (w : World) ts t => run_max_f (P := Tryz.prog) w ts t q (magI (b k).1 (b k).2) hq.num cm.num (hq.inj cm)
      have cx := can_max hq cm
      generalize maxF q (magI (b k).1 (b k).2) = r at *
      generalize magI (b k).1 (b k).2 = mg at *
      generalize b k = x at *
      obtain ⟨x1, x2⟩ := x
      simp only at c1 c2 MG
      have HR := Lib.hid (show _ ∧ _ from ⟨cx, hbel⟩)
      clear lx cm cx hbel hq
      go_wp2_with (go_at_call 151; (with_reducible refine (MG.go _).mono ?_); rintro _ _ ⟨nn, rfl, rfl⟩)
      go_roundw
      case rel => exact ⟨k + 1, r, by go_num, h1, rfl, HR.out.1, HR.out.2.trans (Below.mono (B := wr.heap.size) (by (repeat' first | (with_reducible first | exact Below.refl _ _ | assumption | refine Later.belowOf _ ?_ ?_ | refine Below.alloc ?_ ?_ _ | refine Below.setCell ?_ ?_ _ | refine Below.drewN' _ ?_ | refine Below.drew ?_ | exact Ge.le) | go_size)) HR.out.2.size)⟩
      case measure => simp [intOf]; omega
    · obtain rfl : k = n := by omega
      have lq := hq.lt
      have PM := ptC lq
      have P1 := ptC (show 4607182418800017408 < 18446744073709551616 by decide)
      have PS := ptC hsh
      have l1 := lt_pt (show 4607182418800017408 < 18446744073709551616 by decide)
      have lpm := lt_pt lq
      have lps := lt_pt hsh
      have A1 := addC l1 lpm
      have la := lt_add l1 lpm
      have M1 := mulC lps la
      have lm := lt_mul lps la
      have hz : ∀ i, evenF b q share i = addP (b i) (makeI (fneg (mulP (ptP share) (addP (ptP 4607182418800017408) (ptP q))).2) (mulP (ptP share) (addP (ptP 4607182418800017408) (ptP q))).2) := fun i => rfl
      have ne := fneg_eq lm.2
      have MK := make_any (fneg (mulP (ptP share) (addP (ptP 4607182418800017408) (ptP q))).2) _ (fneg_lt _) lm.2
      have lk := lt_make (fneg_lt (mulP (ptP share) (addP (ptP 4607182418800017408) (ptP q))).2) lm.2
      generalize hEV : evenF b q share = EV at *
      generalize ptP q = pm at *
      generalize ptP 4607182418800017408 = p1 at *
      generalize ptP share = ps at *
      generalize addP p1 pm = s at *
      generalize mulP ps s = m at *
      obtain ⟨m1, d⟩ := m
      simp only at *
      generalize fneg d = nd at *
      generalize makeI nd d = mk at *
      have HZ := Lib.hid (show _ ∧ _ ∧ _ from ⟨hz, lk, hEV⟩)
      clear hz lk hEV l1 lpm lps la lm lq hq
      go_upto_region 8 with (first
        | (go_at_call 139; first | ((with_reducible refine (PS.go _).mono ?_); rintro _ _ ⟨nn, rfl, rfl⟩) | ((with_reducible refine (P1.go _).mono ?_); rintro _ _ ⟨nn, rfl, rfl⟩) | ((with_reducible refine (PM.go _).mono ?_); rintro _ _ ⟨nn, rfl, rfl⟩))
        | (go_at_call 80; (with_reducible refine (A1.go _).mono ?_); rintro _ _ ⟨nn, rfl, rfl⟩)
        | (go_at_call 140; (with_reducible refine (M1.go _).mono ?_); rintro _ _ ⟨nn, rfl, rfl⟩))
      haveI gr : Ge wr w.heap.size := ⟨hbel.size⟩
      have hbw : Below w.heap.size w nn.val := by (repeat' first | (with_reducible first | exact Below.refl _ _ | assumption | refine Later.belowOf _ ?_ ?_ | refine Below.alloc ?_ ?_ _ | refine Below.setCell ?_ ?_ _ | refine Below.drewN' _ ?_ | refine Below.drew ?_ | exact Ge.le) | go_size)
      clear PM P1 PS A1 M1
      go_wp2
      go_loopw [33, 9] (fun i v wr => OutInv1 w EV k i v wr) (fun i _ _ => k - (intOf i).toNat)
      case atStart => exact ⟨0, rfl, Nat.zero_le _, ownIv_nil _ _ _, hbw⟩
      case round =>
        clear hbw
        obtain ⟨j, rfl, hj, hown, hbel2⟩ := hrel
        have hj2 : (j : Int) ≤ 1000 := by omega
        by_cases h2 : j < k
        · obtain ⟨b1, o1, eA, lx, c1, c2⟩ := HX.out j h2
          subst eA
          have c1 := cellBelow hbel2 c1
          have c2 := cellBelow hbel2 c2
          haveI g3 : Ge wr w.heap.size := ⟨hbel2.size⟩
          have A2 := addC lx HZ.out.2.1
          have lz := lt_add lx HZ.out.2.1
          have hz := HZ.out.1 j
          generalize b j = x at *
          generalize addP x mk = z at *
          have HZ2 := Lib.hid (show _ ∧ _ from ⟨hz, lz⟩)
          have HR := Lib.hid (show _ ∧ _ from ⟨hown, hbel2⟩)
          obtain ⟨x1, x2⟩ := x
          obtain ⟨z1, z2⟩ := z
          simp only at c1 c2 A2
          clear lx lz hown hbel2 hz
          have k0 : (0 : Int) ≤ (j : Int) := by omega
          have k1 : (j : Int) < (k : Int) := by omega
          go_wp2_with (fail)
          have s0 : (wr.alloc (Obj.cells #[(.float .f64 x1), (.float .f64 x2)] 24)).cell? ⟨wr.heap.size, 0, none⟩ = some (.float .f64 x1) := by simp [go_sem]
          have s1 : (wr.alloc (Obj.cells #[(.float .f64 x1), (.float .f64 x2)] 24)).cell? ⟨wr.heap.size, 1, none⟩ = some (.float .f64 x2) := by simp [go_sem]
          have hbq : Below wr.heap.size wr (wr.alloc (Obj.cells #[(.float .f64 x1), (.float .f64 x2)] 24)) := by (repeat' first | (with_reducible first | exact Below.refl _ _ | assumption | refine Later.belowOf _ ?_ ?_ | refine Below.alloc ?_ ?_ _ | refine Below.setCell ?_ ?_ _ | refine Below.drewN' _ ?_ | refine Below.drew ?_ | exact Ge.le) | go_size)
          have QV := fun g h => (OwnIv.lt HR.out.1 g h).2
          have hle := HR.out.2.size
          have hown3 := OwnIv.below HR.out.1 hbq
          have hbel3 : Below w.heap.size w (wr.alloc (Obj.cells #[(.float .f64 x1), (.float .f64 x2)] 24)) := HR.out.2.trans (hbq.mono hle)
          generalize hW3 : wr.alloc (Obj.cells #[(.float .f64 x1), (.float .f64 x2)] 24) = W3 at *
          haveI gq : Ge W3 (wr.heap.size + 1) := ⟨World.block_lt_of_cell? _ _ s0⟩
          have HB3 := Lib.hid (show _ ∧ _ from ⟨hown3, hbel3⟩)
          have hle3 := hbel3.size
          haveI gq2 : Ge W3 w.heap.size := ⟨hle3⟩
          clear hbel3 hown3 hbq c1 c2 hW3
          go_region_held3 (fun w' => w'.cell? ⟨wr.heap.size, 0, none⟩ = some (.float .f64 x1) ∧ w'.cell? ⟨wr.heap.size, 1, none⟩ = some (.float .f64 x2))
            (first | (go_simp; done) | go_keep | (go_split_ands; refine ⟨?_, ?_⟩ <;> exact far_cell hf4 QV (Nat.le_refl _) (by assumption)))
            (first
              | (go_at_call 136; (with_reducible refine (MK.go _).mono ?_); rintro _ _ ⟨nn, rfl, rfl⟩)
              | (go_at_call 80; (with_reducible refine (A2.go _).mono ?_); rintro _ _ ⟨nn, rfl, rfl⟩)
              | (refine step_append_iv (fr := (0, 0)) rfl (by rfl) (by rfl) (by rfl) (by (repeat' (first | (with_reducible refine at_drew ?_) | (with_reducible refine at_new ?_; (first | rfl | (simp; done))) | (with_reducible refine at_old ?_)))) (OwnIv.below HB3.out.1 (by (repeat' first | (with_reducible first | exact Below.refl _ _ | assumption | refine Later.belowOf _ ?_ ?_ | refine Below.alloc ?_ ?_ _ | refine Below.setCell ?_ ?_ _ | refine Below.drewN' _ ?_ | refine Below.drew ?_ | exact Ge.le) | go_size))) HZ2.out.1 HZ2.out.2 (by omega) (by first | omega | exact Ge.le | go_size) ?_; intro g4 cap4 w4 hown4 hb4 hf4))
          go_wp2
          go_roundw
          case rel => exact ⟨j + 1, by go_num, h2, hown4, HB3.out.2.trans (Below.trans (by (repeat' first | (with_reducible first | exact Below.refl _ _ | assumption | refine Later.belowOf _ ?_ ?_ | refine Below.alloc ?_ ?_ _ | refine Below.setCell ?_ ?_ _ | refine Below.drewN' _ ?_ | refine Below.drew ?_ | exact Ge.le) | go_size)) hb4)⟩
          case measure => simp [intOf]; omega
        · obtain rfl : j = k := by omega
          go_wp2
          go_ret
          exact ⟨_, q, rfl, by rw [HZ.out.2.2]; exact hown, hbel2⟩
end Go.Proofs.YtpkgpkabmechkaaGreat
