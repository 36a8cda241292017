/- Contracts: picard.start where all is well; a slice's clone; does a box hold. -/
import Derived.Test.YtpkgpkabmechkaaGreatPkP1x
import Derived.Lib.SliceRun
namespace Go.Proofs.YtpkgpkabmechkaaGreat
set_option linter.unusedSimpArgs false
set_option linter.unusedVariables false
open Go.RowKit
open Fl

set_option maxHeartbeats 4000000 in
set_option maxRecDepth 100000 in
theorem pstart_c {V : Int} {vO vN vx : Value} {ops : Nat → OpT} {outs : Nat → Int} {nO nN n : Nat} {x : Nat → Nat × Nat} {time : Nat} {w : World} (hO : OpsAt w vO ops nO) (hN : OutsAt w vN outs nN) (hx : IvsAt w vx x n)
    (hT : TapeR V nO ops nN outs) (hV1 : 1 ≤ V) (hV2 : V ≤ 24) (hnN : (nN : Int) = V) (hn : (n : Int) = V) (ht0 : fle 0 time = true) (ht1 : fle time 4697254411347427328 = true)
    (hno : anyB x n (fun x => noneB x.1 x.2) = false) (hbo : anyB x n (fun x => !pbB x) = false) :
    Calls Tryz.prog 94 #[.agg #[.int .i64 V, vO, vN], vx, (.float .f64 time)] w fun e w' => ∃ q : Later w, e = .returned (.int .i64 0) ∧ w' = q.val := by
  have b0 : Below w.heap.size w (w.alloc (Obj.cells #[.int .i64 V, vO, vN] 45)) := (Below.refl _ _).alloc (Nat.le_refl _) _
  have TR := to_later (tright_any V vO vN ops outs nO nN _ (hO.below b0) (hN.below b0))
  rw [if_pos hT] at TR
  have C1 := fun (W : World) (hW : Below w.heap.size w W) => containsI_c pstart1_c (hx.below hW)
  have C2 := fun (W : World) (hW : Below w.heap.size w W) => containsI_c pstart2_c (hx.below hW)
  rw [hno] at C1
  rw [hbo] at C2
  obtain ⟨Ax, cx, rfl, hnx, hcx⟩ := hx
  obtain ⟨AN, cN, rfl, hN⟩ := hN
  obtain rfl : V = n := hn.symm
  obtain rfl : nN = n := by omega
  clear hno hbo hcx hN hO hT hn hnN
  go_enter Tryz.func94, Tryz.ntmps94
  go_wp2_with (first
    | (go_at_call 49; (with_reducible refine TR.mono ?_); rintro _ _ ⟨n1, rfl, rfl⟩)
    | (go_at_call 161; first | ((with_reducible refine (C1 _ (by (repeat' first | (with_reducible first | exact Below.refl _ _ | assumption | refine Later.belowOf _ ?_ ?_ | refine Below.alloc ?_ ?_ _ | refine Below.setCell ?_ ?_ _ | refine Below.drewN' _ ?_ | refine Below.drew ?_ | exact Ge.le) | go_size))).mono ?_); rintro _ _ ⟨n2, rfl, rfl⟩) | ((with_reducible refine (C2 _ (by (repeat' first | (with_reducible first | exact Below.refl _ _ | assumption | refine Later.belowOf _ ?_ ?_ | refine Below.alloc ?_ ?_ _ | refine Below.setCell ?_ ?_ _ | refine Below.drewN' _ ?_ | refine Below.drew ?_ | exact Ge.le) | go_size))).mono ?_); rintro _ _ ⟨n3, rfl, rfl⟩)))
  go_ret
  exact ⟨⟨_, by (repeat' first | (with_reducible first | exact Below.refl _ _ | assumption | refine Later.belowOf _ ?_ ?_ | refine Below.alloc ?_ ?_ _ | refine Below.setCell ?_ ?_ _ | refine Below.drewN' _ ?_ | refine Below.drew ?_ | exact Ge.le) | go_size)⟩, rfl, rfl⟩

/-- The variables that Bound's functions share. -/
structure Ctx (w : World) (bt bx bm : Nat) (V : Int) (vO vN vx : Value) (time : Nat) : Prop where
  t0 : w.cell? ⟨bt, 0, none⟩ = some (.int .i64 V)
  t1 : w.cell? ⟨bt, 1, none⟩ = some vO
  t2 : w.cell? ⟨bt, 2, none⟩ = some vN
  cx : w.cell? ⟨bx, 0, none⟩ = some vx
  cm : w.cell? ⟨bm, 0, none⟩ = some (.float .f64 time)
theorem Ctx.below {w w' : World} {bt bx bm : Nat} {V : Int} {vO vN vx : Value} {time : Nat} (h : Ctx w bt bx bm V vO vN vx time) (hb : Below w.heap.size w w') : Ctx w' bt bx bm V vO vN vx time :=
  ⟨cellBelow hb h.t0, cellBelow hb h.t1, cellBelow hb h.t2, cellBelow hb h.cx, cellBelow hb h.cm⟩
/-- What is asked of all of Bound. -/
structure Ask (w : World) (V : Int) (vO vN vx : Value) (ops : Nat → OpT) (outs : Nat → Int) (nO nN n : Nat) (x : Nat → Nat × Nat) (time : Nat) : Prop where
  hO : OpsAt w vO ops nO
  hN : OutsAt w vN outs nN
  hx : IvsAt w vx x n
  hn : n ≤ nN
  h1 : n ≤ 1000
  ht : time < 18446744073709551616
theorem Ask.below {w w' : World} {V : Int} {vO vN vx : Value} {ops : Nat → OpT} {outs : Nat → Int} {nO nN n : Nat} {x : Nat → Nat × Nat} {time : Nat} (h : Ask w V vO vN vx ops outs nO nN n x time) (hb : Below w.heap.size w w') : Ask w' V vO vN vx ops outs nO nN n x time :=
  ⟨h.hO.below hb, h.hN.below hb, h.hx.below hb, h.hn, h.h1, h.ht⟩
noncomputable def reachB (V : Int) (nO : Nat) (ops : Nat → OpT) (nN : Nat) (outs : Nat → Int) (x b : Nat → Nat × Nat) (time n : Nat) : Bool := decide (evalE V nO ops nN outs b n = 0) && reachOk x (outF ops outs b) time n
def reachY (ops : Nat → OpT) (outs : Nat → Int) (x b : Nat → Nat × Nat) (time : Nat) (i : Nat) : Nat × Nat := goP (x i) (outF ops outs b i) time
noncomputable def holdsB (V : Int) (nO : Nat) (ops : Nat → OpT) (nN : Nat) (outs : Nat → Int) (x b : Nat → Nat × Nat) (time n : Nat) : Bool :=
  reachB V nO ops nN outs x b time n && (inAll x b n && inAll (reachY ops outs x b time) b n)

set_option maxHeartbeats 8000000 in
set_option maxRecDepth 100000 in
theorem holds_c {V : Int} {vO vN vx vb : Value} {ops : Nat → OpT} {outs : Nat → Int} {nO nN n : Nat} {x b : Nat → Nat × Nat} {time bt bx bm : Nat} {w : World} (hc : Ctx w bt bx bm V vO vN vx time) (ha : Ask w V vO vN vx ops outs nO nN n x time) (hb : IvsAt w vb b n) :
    Calls Tryz.prog 95 #[vb, .pointer (some ⟨bt, 0, none⟩), .pointer (some ⟨bx, 0, none⟩), .pointer (some ⟨bm, 0, none⟩)] w (ReachRes w (holdsB V nO ops nN outs x b time n) (hullF x (reachY ops outs x b time)) n) := by
  have RC := reach_c (V := V) ha.hO ha.hN ha.hx hb ha.hn ha.h1 ha.ht
  unfold holdsB
  change Calls _ _ _ _ (ReachRes w (reachB V nO ops nN outs x b time n) (reachY ops outs x b time) n) at RC
  generalize reachB V nO ops nN outs x b time n = r at *
  generalize reachY ops outs x b time = Y at *
  obtain ⟨t0, t1, t2, cx, cm⟩ := hc
  cases r
  · go_enter Tryz.func95, Tryz.ntmps95
    go_wp2_with (go_at_call 96; (with_reducible refine RC.mono ?_); rintro _ w2 ⟨v, rfl, hv1, hv2, hb2⟩)
    go_ret2
    exact ⟨_, rfl, fun _ => rfl, fun h => (by cases h), hb2⟩
  · have i1 := fun (W : World) (hW : Below w.heap.size w W) => inside_c (ha.hx.below hW) (hb.below hW) (Nat.le_refl n)
    have i2 := fun (W : World) (hW : Below w.heap.size w W) (v : Value) (hv : IvsAt W v Y n) => inside_c hv (hb.below hW) (Nat.le_refl n)
    have hh := fun (W : World) (hW : Below w.heap.size w W) (v : Value) (hv : IvsAt W v Y n) => phull_c (ha.hx.below hW) hv (Nat.le_refl n) ha.h1
    generalize inAll x b n = p1 at *
    generalize inAll Y b n = p2 at *
    haveI gt : Ge w (bt + 1) := ⟨World.block_lt_of_cell? w _ t0⟩
    haveI gx : Ge w (bx + 1) := ⟨World.block_lt_of_cell? w _ cx⟩
    clear ha hb
    cases p1 <;> cases p2
    all_goals
      go_enter Tryz.func95, Tryz.ntmps95
      go_upto_region 2 with (go_at_call 96; (with_reducible refine RC.mono ?_); rintro _ w2 ⟨v, rfl, hv1, hv2, hb2⟩)
      have hv3 := (hv2 (by first | trivial | rfl)).ivs
      obtain ⟨n2, rfl⟩ : ∃ n2 : Later w, w2 = n2.val := ⟨⟨w2, hb2⟩, rfl⟩
      have HV := Lib.hid hv3
      clear hb2 hv1 hv2 hv3 RC
      have I1 := i1 n2.val n2.below
      have I2 := i2 n2.val n2.below v HV.out
      go_wp2_with (first
        | (go_at_call 97; first | ((with_reducible refine I1.mono ?_); rintro _ _ ⟨n3, rfl, rfl⟩) | (refine (i2 _ (by (repeat' first | (with_reducible first | exact Below.refl _ _ | assumption | refine Later.belowOf _ ?_ ?_ | refine Below.alloc ?_ ?_ _ | refine Below.setCell ?_ ?_ _ | refine Below.drewN' _ ?_ | refine Below.drew ?_ | exact Ge.le) | go_size)) v (HV.out.below (by (repeat' first | (with_reducible first | exact Below.refl _ _ | assumption | refine Later.belowOf _ ?_ ?_ | refine Below.alloc ?_ ?_ _ | refine Below.setCell ?_ ?_ _ | refine Below.drewN' _ ?_ | refine Below.drew ?_ | exact Ge.le) | go_size)))).mono ?_; rintro _ _ ⟨n4, rfl, rfl⟩))
        | (go_at_call 98; refine (hh _ (by (repeat' first | (with_reducible first | exact Below.refl _ _ | assumption | refine Later.belowOf _ ?_ ?_ | refine Below.alloc ?_ ?_ _ | refine Below.setCell ?_ ?_ _ | refine Below.drewN' _ ?_ | refine Below.drew ?_ | exact Ge.le) | go_size)) v (HV.out.below (by (repeat' first | (with_reducible first | exact Below.refl _ _ | assumption | refine Later.belowOf _ ?_ ?_ | refine Below.alloc ?_ ?_ _ | refine Below.setCell ?_ ?_ _ | refine Below.drewN' _ ?_ | refine Below.drew ?_ | exact Ge.le) | go_size)))).mono ?_; rintro _ w5 ⟨u, rfl, hu, hb5⟩))
      go_ret2
    · exact ⟨_, rfl, fun _ => rfl, fun h => (by cases h), by (repeat' first | (with_reducible first | exact Below.refl _ _ | assumption | refine Later.belowOf _ ?_ ?_ | refine Below.alloc ?_ ?_ _ | refine Below.setCell ?_ ?_ _ | refine Below.drewN' _ ?_ | refine Below.drew ?_ | exact Ge.le) | go_size)⟩
    · exact ⟨_, rfl, fun _ => rfl, fun h => (by cases h), by (repeat' first | (with_reducible first | exact Below.refl _ _ | assumption | refine Later.belowOf _ ?_ ?_ | refine Below.alloc ?_ ?_ _ | refine Below.setCell ?_ ?_ _ | refine Below.drewN' _ ?_ | refine Below.drew ?_ | exact Ge.le) | go_size)⟩
    · exact ⟨_, rfl, fun _ => rfl, fun h => (by cases h), by (repeat' first | (with_reducible first | exact Below.refl _ _ | assumption | refine Later.belowOf _ ?_ ?_ | refine Below.alloc ?_ ?_ _ | refine Below.setCell ?_ ?_ _ | refine Below.drewN' _ ?_ | refine Below.drew ?_ | exact Ge.le) | go_size)⟩
    · have hb4 : Below w.heap.size w n4.val := by (repeat' first | (with_reducible first | exact Below.refl _ _ | assumption | refine Later.belowOf _ ?_ ?_ | refine Below.alloc ?_ ?_ _ | refine Below.setCell ?_ ?_ _ | refine Below.drewN' _ ?_ | refine Below.drew ?_ | exact Ge.le) | go_size)
      exact ⟨u, rfl, fun h => (by cases h), fun _ => hu.base hb4.size, hb4.trans (hb5.mono hb4.size)⟩
end Go.Proofs.YtpkgpkabmechkaaGreat

/- Contracts: picard.Bound's tight. -/
namespace Go.Proofs.YtpkgpkabmechkaaGreat
set_option linter.unusedSimpArgs false
set_option linter.unusedVariables false
open Go.RowKit
open Fl

def HoldsOk (w : World) (n : Nat) (H : (Nat → Nat × Nat) → Bool) (Yf : (Nat → Nat × Nat) → Nat → Nat × Nat) (bt bx bm : Nat) : Prop :=
  ∀ (W : World) (vb : Value) (b : Nat → Nat × Nat), Below w.heap.size w W → IvsAt W vb b n → Calls Tryz.prog 95 #[vb, .pointer (some ⟨bt, 0, none⟩), .pointer (some ⟨bx, 0, none⟩), .pointer (some ⟨bm, 0, none⟩)] W (ReachRes W (H b) (Yf b) n)
def Shrunk (b ys : Nat → Nat × Nat) (n : Nat) : Prop := ys = b ∨ inAll ys b n = true
/-- What is told is the box, or lies in it, and holds if the box does. -/
def ShrunkH (H : (Nat → Nat × Nat) → Bool) (b ys : Nat → Nat × Nat) (n : Nat) : Prop := Shrunk b ys n ∧ (H b = true → H ys = true)
def TightInv (w : World) (H : (Nat → Nat × Nat) → Bool) (b : Nat → Nat × Nat) (n : Nat) (i v : Value) (wr : World) : Prop :=
  ∃ (k : Nat) (ys : Nat → Nat × Nat), i = .int .i64 k ∧ k ≤ 6 ∧ IvsAt wr v ys n ∧ ShrunkH H b ys n ∧ Below w.heap.size w wr

theorem insideB_trans {a b c d e f : Nat} (h1 : insideB a b c d = true) (h2 : insideB c d e f = true) : insideB a b e f = true := by
  unfold insideB at *
  rcases fot (noneB a b) with n1 | n1
  · rcases fot (noneB c d) with n2 | n2
    · simp only [n1, n2, Bool.false_or, Bool.not_false, Bool.true_and, Bool.and_eq_true] at h1 h2 ⊢
      obtain ⟨p1, p2⟩ := h1
      obtain ⟨p3, p4, p5⟩ := h2
      rw [fle_true] at p1 p2 p4 p5
      exact ⟨p3, fle_true.2 ⟨p4.1, p1.2.1, by omega⟩, fle_true.2 ⟨p2.1, p5.2.1, by omega⟩⟩
    · simp [n1, n2] at h1
  · simp [n1]
theorem shrunk_trans {b ys zs : Nat → Nat × Nat} {n : Nat} (h1 : Shrunk b ys n) (h2 : inAll zs ys n = true) : Shrunk b zs n := by
  rcases h1 with h1 | h1
  · subst h1; exact Or.inr h2
  · exact Or.inr (inAll_iff.2 fun i hi => insideB_trans (inAll_iff.1 h2 i hi) (inAll_iff.1 h1 i hi))

set_option maxHeartbeats 8000000 in
set_option maxRecDepth 100000 in
theorem tight_c {w : World} {n : Nat} {H : (Nat → Nat × Nat) → Bool} {Yf : (Nat → Nat × Nat) → Nat → Nat × Nat} {bt bx bm bh : Nat} {vb : Value} {b : Nat → Nat × Nat} (hH : HoldsOk w n H Yf bt bx bm)
    (hc : w.cell? ⟨bh, 0, none⟩ = some (.func (.func 95) #[] #[.pointer (some ⟨bt, 0, none⟩), .pointer (some ⟨bx, 0, none⟩), .pointer (some ⟨bm, 0, none⟩)])) (hb : IvsAt w vb b n) :
    Calls Tryz.prog 99 #[vb, .pointer (some ⟨bh, 0, none⟩)] w fun e w' => ∃ u ys, e = .returned u ∧ IvsAt w' u ys n ∧ ShrunkH H b ys n ∧ Below w.heap.size w w' := by
  have HH := Lib.hid hH
  clear hH
  go_enter Tryz.func99, Tryz.ntmps99
  go_wp2
  go_loopw [8, 0] (fun i v wr => TightInv w H b n i v wr) (fun i _ _ => 6 - (intOf i).toNat)
  case atStart => exact ⟨0, b, rfl, by omega, hb, ⟨Or.inl rfl, fun h => h⟩, Below.refl _ _⟩
  case round =>
    obtain ⟨k, ys, rfl, hk, hys, hsh, hbel⟩ := hrel
    have hc1 := cellBelow hbel hc
    haveI gh : Ge wr (bh + 1) := ⟨World.block_lt_of_cell? wr _ hc1⟩
    by_cases h1 : k < 6
    · have hk2 : (k : Int) < 6 := by omega
      have C1 := HH.out wr _ ys hbel hys
      generalize hr : H ys = r at *
      have HR := Lib.hid (show _ ∧ _ ∧ _ from ⟨hys, hsh, hbel⟩)
      clear hys hsh hbel hr
      cases r
      · go_wp2_with (go_at_call 95; (with_reducible refine C1.mono ?_); rintro _ w2 ⟨v, rfl, hv1, hv2, hb2⟩)
        go_ret
        exact ⟨_, ys, rfl, HR.out.1.below hb2, HR.out.2.1, HR.out.2.2.trans (hb2.mono HR.out.2.2.size)⟩
      · go_upto_region 4 with (go_at_call 95; (with_reducible refine C1.mono ?_); rintro _ w2 ⟨v, rfl, hv1, hv2, hb2⟩)
        have hv3 := (hv2 (by first | trivial | rfl)).ivs
        have hbw2 : Below w.heap.size w w2 := HR.out.2.2.trans (hb2.mono HR.out.2.2.size)
        have hys2 := HR.out.1.below hb2
        have I1 := inside_c hv3 hys2 (Nat.le_refl n)
        obtain ⟨Z, hZ⟩ : ∃ Z, Z = Yf ys := ⟨_, rfl⟩
        rw [← hZ] at hv3 I1 hv2
        have hc2 := cellBelow hbw2 hc
        haveI gh2 : Ge w2 (bh + 1) := ⟨World.block_lt_of_cell? w2 _ hc2⟩
        generalize hp : inAll Z ys n = p at *
        have HP := Lib.hid hp
        have H2 := Lib.hid (show _ ∧ _ ∧ _ from ⟨hv3, hbw2, hys2⟩)
        clear hp hv1 hv2 hv3 hbw2 hys2 hb2 C1 hZ
        cases p
        · go_wp2_with (go_at_call 97; (with_reducible refine I1.mono ?_); rintro _ _ ⟨n3, rfl, rfl⟩)
          go_ret
          exact ⟨_, ys, rfl, H2.out.2.2.below n3.below, HR.out.2.1, H2.out.2.1.trans (n3.below.mono H2.out.2.1.size)⟩
        · go_upto_region 5 with (go_at_call 97; (with_reducible refine I1.mono ?_); rintro _ _ ⟨n3, rfl, rfl⟩)
          have hbw3 : Below w.heap.size w n3.val := H2.out.2.1.trans (n3.below.mono H2.out.2.1.size)
          have C2 := HH.out n3.val _ Z hbw3 (H2.out.1.below n3.below)
          have HB3 := Lib.hid hbw3
          clear hbw3
          generalize hr2 : H Z = r2 at *
          have HR2 := Lib.hid hr2
          clear hr2
          cases r2
          · go_wp2_with (go_at_call 95; (with_reducible refine C2.mono ?_); rintro _ w4 ⟨v4, rfl, hv41, hv42, hb4⟩)
            go_ret
            exact ⟨_, ys, rfl, (H2.out.2.2.below n3.below).below hb4, HR.out.2.1, HB3.out.trans (hb4.mono HB3.out.size)⟩
          · go_wp2_with (go_at_call 95; (with_reducible refine C2.mono ?_); rintro _ w4 ⟨v4, rfl, hv41, hv42, hb4⟩)
            go_roundw
            case rel => exact ⟨k + 1, Z, by go_num, by omega, (H2.out.1.below n3.below).below hb4, ⟨shrunk_trans HR.out.2.1.1 HP.out, fun _ => HR2.out⟩, HB3.out.trans (hb4.mono HB3.out.size)⟩
            case measure => simp [intOf]; omega
    · obtain rfl : k = 6 := by omega
      go_wp2
      go_ret
      exact ⟨_, ys, rfl, hys, hsh, hbel⟩
end Go.Proofs.YtpkgpkabmechkaaGreat

/- Contracts: picard.Bound's grown. -/
namespace Go.Proofs.YtpkgpkabmechkaaGreat
set_option linter.unusedSimpArgs false
set_option linter.unusedVariables false
open Go.RowKit
open Fl

theorem HoldsOk.below {w w' : World} {n : Nat} {H : (Nat → Nat × Nat) → Bool} {Yf : (Nat → Nat × Nat) → Nat → Nat × Nat} {bt bx bm : Nat} (h : HoldsOk w n H Yf bt bx bm) (hb : Below w.heap.size w w') : HoldsOk w' n H Yf bt bx bm :=
  fun W vb b hW hi => h W vb b (hb.trans (hW.mono hb.size)) hi
def GrownInv (w : World) (n : Nat) (i v : Value) (wr : World) : Prop :=
  ∃ (k : Nat) (ys : Nat → Nat × Nat), i = .int .i64 k ∧ k ≤ 12 ∧ IvsAt wr v ys n ∧ Below w.heap.size w wr
def GrownRes (w : World) (n : Nat) (e : Ending) (w' : World) : Prop :=
  ∃ v ok, e = .returned (.tuple #[v, .bool ok]) ∧ (ok = true → ∃ ys, IvsAt w' v ys n) ∧ Below w.heap.size w w'

set_option maxHeartbeats 16000000 in
set_option maxRecDepth 100000 in
theorem grown_c {V : Int} {vO vN vx : Value} {ops : Nat → OpT} {outs : Nat → Int} {nO nN n : Nat} {x : Nat → Nat × Nat} {time bt bx bm bh bg : Nat} {w : World} {K : FuncId} (hK : K = 100 ∨ K = 102)
    {H : (Nat → Nat × Nat) → Bool} {Yf : (Nat → Nat × Nat) → Nat → Nat × Nat} (hH : HoldsOk w n H Yf bt bx bm) (hc : Ctx w bt bx bm V vO vN vx time) (ha : Ask w V vO vN vx ops outs nO nN n x time)
    (hh : w.cell? ⟨bh, 0, none⟩ = some (.func (.func 95) #[] #[.pointer (some ⟨bt, 0, none⟩), .pointer (some ⟨bx, 0, none⟩), .pointer (some ⟨bm, 0, none⟩)]))
    (hg : w.cell? ⟨bg, 0, none⟩ = some (.func (.func 99) #[] #[.pointer (some ⟨bh, 0, none⟩)])) :
    Calls Tryz.prog 101 #[.func (.func K) #[] #[], .pointer (some ⟨bx, 0, none⟩), .pointer (some ⟨bh, 0, none⟩), .pointer (some ⟨bg, 0, none⟩), .pointer (some ⟨bt, 0, none⟩), .pointer (some ⟨bm, 0, none⟩)] w (GrownRes w n) := by
  have HA := Lib.hid ha
  have HC := Lib.hid (show _ ∧ _ ∧ _ from ⟨hc, hh, hg⟩)
  have HH := Lib.hid hH
  have W1 := pwider_c (share := 4562146422526312448) ha.hx ha.h1 (by decide)
  have cx := hc.cx
  haveI gx : Ge w (bx + 1) := ⟨World.block_lt_of_cell? w _ cx⟩
  clear ha hc hh hg hH
  rcases hK with rfl | rfl
  all_goals
    go_enter Tryz.func101, Tryz.ntmps101
    go_upto_region 2 with (go_at_call 100; (with_reducible refine W1.mono ?_); rintro _ w1 ⟨u1, rfl, hu1, hb1⟩)
    replace hu1 := hu1.ivs
    clear W1 cx
    go_wp2
    go_loopw [16, 9] (fun i v wr => GrownInv w n i v wr) (fun i _ _ => 12 - (intOf i).toNat)
    case atStart => exact ⟨0, _, rfl, by omega, hu1, hb1⟩
    case round =>
      clear hu1 hb1
      obtain ⟨k, ys, rfl, hk, hys, hbel⟩ := hrel
      obtain ⟨hc, hh, hg⟩ := HC.out
      have ha := HA.out.below hbel
      obtain ⟨ct0, ct1, ct2, cx, cm⟩ := hc.below hbel
      have hh := cellBelow hbel hh
      have hg := cellBelow hbel hg
      haveI gh : Ge wr (bh + 1) := ⟨World.block_lt_of_cell? wr _ hh⟩
      haveI gg : Ge wr (bg + 1) := ⟨World.block_lt_of_cell? wr _ hg⟩
      haveI gx : Ge wr (bx + 1) := ⟨World.block_lt_of_cell? wr _ cx⟩
      haveI gt : Ge wr (bt + 1) := ⟨World.block_lt_of_cell? wr _ ct0⟩
      haveI gm : Ge wr (bm + 1) := ⟨World.block_lt_of_cell? wr _ cm⟩
      by_cases h1 : k < 12
      · have hk2 : (k : Int) < 12 := by omega
        have C1 := HH.out wr _ ys hbel hys
        generalize hr : H ys = r at *
        have HA2 := Lib.hid ha
        have HR := Lib.hid (show _ ∧ _ from ⟨hys, hbel⟩)
        clear hys hbel hr ha
        cases r
        · go_upto_region 7 with (go_at_call 95; (with_reducible refine C1.mono ?_); rintro _ w2 ⟨v, rfl, hv1, hv2, hb2⟩)
          obtain ⟨n2, rfl⟩ : ∃ n2 : Later wr, w2 = n2.val := ⟨⟨w2, hb2⟩, rfl⟩
          have ha2 := HA2.out.below n2.below
          have hy2 := HR.out.1.below n2.below
          have RC := reach_c (V := V) ha2.hO ha2.hN ha2.hx hy2 ha2.hn ha2.h1 ha2.ht
          have hb02 : Below w.heap.size w n2.val := HR.out.2.trans (n2.below.mono HR.out.2.size)
          generalize (decide (evalE V nO ops nN outs ys n = 0) && reachOk x (outF ops outs ys) time n) = ok at *
          generalize (fun i => goP (x i) (outF ops outs ys i) time) = Y at *
          have HB2 := Lib.hid (show _ ∧ _ ∧ _ from ⟨ha2, hy2, hb02⟩)
          clear ha2 hy2 hb02 hb2 hv1 hv2 C1
          cases ok
          · go_wp2_with (go_at_call 96; (with_reducible refine RC.mono ?_); rintro _ w3 ⟨v3, rfl, hv31, hv32, hb3⟩)
            go_ret2
            exact ⟨_, _, rfl, fun h => (by cases h), HB2.out.2.2.trans (hb3.mono HB2.out.2.2.size)⟩
          · go_upto_region 9 with (go_at_call 96; (with_reducible refine RC.mono ?_); rintro _ w3 ⟨v3, rfl, hv31, hv32, hb3⟩)
            replace hv32 := (hv32 (by first | trivial | rfl)).ivs
            obtain ⟨n3, rfl⟩ : ∃ n3 : Later n2.val, w3 = n3.val := ⟨⟨w3, hb3⟩, rfl⟩
            have ha3 := HB2.out.1.below n3.below
            have h5 := fun (W : World) (hW : Below n3.val.heap.size n3.val W) => phull_c (ha3.hx.below hW) (hv32.below hW) (Nat.le_refl n) ha3.h1
            have hy3 := HB2.out.2.1.below n3.below
            have h6 := fun (W : World) (hW : Below n3.val.heap.size n3.val W) (u : Value) (hu : IvsAt W u (hullF x Y) n) => phull_c (hy3.below hW) hu (Nat.le_refl n) ha3.h1
            have hn1 := ha3.h1
            have hb03 : Below w.heap.size w n3.val := HB2.out.2.2.trans (n3.below.mono HB2.out.2.2.size)
            have HB3 := Lib.hid hb03
            clear ha3 hv31 hv32 hb3 hy3 RC hb03
            go_wp2_with (first
              | (go_at_call 98; first
                | (refine (h5 _ (by (repeat' first | (with_reducible first | exact Below.refl _ _ | assumption | refine Later.belowOf _ ?_ ?_ | refine Below.alloc ?_ ?_ _ | refine Below.setCell ?_ ?_ _ | refine Below.drewN' _ ?_ | refine Below.drew ?_ | exact Ge.le) | go_size))).mono ?_; rintro _ w5 ⟨u5, rfl, hu5, hb5⟩; obtain ⟨n5, rfl⟩ : ∃ n5 : Later n3.val, w5 = n5.val := ⟨⟨w5, hb5⟩, rfl⟩; replace hu5 := hu5.ivs; clear hb5 h5)
                | (refine (h6 _ (by (repeat' first | (with_reducible first | exact Below.refl _ _ | assumption | refine Later.belowOf _ ?_ ?_ | refine Below.alloc ?_ ?_ _ | refine Below.setCell ?_ ?_ _ | refine Below.drewN' _ ?_ | refine Below.drew ?_ | exact Ge.le) | go_size)) _ hu5).mono ?_; rintro _ w6 ⟨u6, rfl, hu6, hb6⟩; obtain ⟨n6, rfl⟩ : ∃ n6 : Later n5.val, w6 = n6.val := ⟨⟨w6, hb6⟩, rfl⟩; replace hu6 := hu6.ivs; clear hb6 h6 hu5))
              | (go_at_call 100; (with_reducible refine (pwider_c hu6 hn1 (by decide)).mono ?_); rintro _ w7 ⟨u7, rfl, hu7, hb7⟩)
              | (go_at_call 102; (with_reducible refine (pevenly_c hu6 hn1 (by decide)).mono ?_); rintro _ w7 ⟨u7, m7, rfl, hu7, hb7⟩))
            go_roundw
            case rel =>
              have hb06 : Below w.heap.size w n6.val := HB3.out.trans ((show Below n3.val.heap.size n3.val n6.val by (repeat' first | (with_reducible first | exact Below.refl _ _ | assumption | refine Later.belowOf _ ?_ ?_ | refine Below.alloc ?_ ?_ _ | refine Below.setCell ?_ ?_ _ | refine Below.drewN' _ ?_ | refine Below.drew ?_ | exact Ge.le) | go_size)).mono HB3.out.size)
              exact ⟨k + 1, _, by go_num, by omega, hu7.ivs, hb06.trans (hb7.mono hb06.size)⟩
            case measure => simp [intOf]; omega
        · go_upto_region 6 with (go_at_call 95; (with_reducible refine C1.mono ?_); rintro _ w2 ⟨v, rfl, hv1, hv2, hb2⟩)
          obtain ⟨n2, rfl⟩ : ∃ n2 : Later wr, w2 = n2.val := ⟨⟨w2, hb2⟩, rfl⟩
          have hb02 : Below w.heap.size w n2.val := HR.out.2.trans (n2.below.mono HR.out.2.size)
          have TC := tight_c (HH.out.below hb02) (cellBelow n2.below hh) (HR.out.1.below n2.below)
          have HB2 := Lib.hid hb02
          clear hb02 hb2 hv1 hv2 C1
          go_wp2_with (go_at_call 99; (with_reducible refine TC.mono ?_); rintro _ w3 ⟨u3, zs, rfl, hu3, hs3, hb3⟩)
          go_ret2
          exact ⟨_, _, rfl, fun _ => ⟨zs, hu3⟩, HB2.out.trans (hb3.mono HB2.out.size)⟩
      · obtain rfl : k = 12 := by omega
        go_wp2
        go_ret2
        exact ⟨_, _, rfl, fun h => (by cases h), hbel⟩
end Go.Proofs.YtpkgpkabmechkaaGreat

/- Contracts: slices.Clone of intervals; picard.Bound. -/
namespace Go.Proofs.YtpkgpkabmechkaaGreat
set_option linter.unusedSimpArgs false
set_option linter.unusedVariables false
open Go.RowKit
open Fl

theorem ivs_news {w : World} {b o n c : Nat} {x : Nat → Nat × Nat} (h : IvsAt w (.slice (some ⟨b, o, none⟩) n c) x n) : ∀ j u, (ivCells x n)[j]? = some u → w.cell? ((⟨b, o, none⟩ : Addr).add j) = some u := by
  obtain ⟨A, c', e, hn, h⟩ := h
  cases e
  intro j u hu
  have hadd : (⟨b, o, none⟩ : Addr).add j = ⟨b, o + j, none⟩ := by unfold Addr.add; split <;> simp_all
  rw [hadd]
  have hj : j < n * 2 := by
    rcases Nat.lt_or_ge j (n * 2) with h1 | h1
    · exact h1
    · rw [List.getElem?_eq_none (by rw [ivCells_len]; exact h1)] at hu; cases hu
  obtain ⟨b', o', e, l, c0, c1⟩ := h (j / 2) (by omega)
  cases e
  obtain ⟨g0, g1⟩ := ivCells_get x (show j / 2 < n by omega)
  rcases Nat.mod_two_eq_zero_or_one j with h2 | h2
  · have e2 : j / 2 * 2 = j := by omega
    rw [e2] at c0 g0
    rw [g0] at hu; cases hu; exact c0
  · have e2 : j / 2 * 2 + 1 = j := by omega
    have e3 : o + j / 2 * 2 + 1 = o + j := by omega
    rw [e3] at c1
    rw [e2] at g1
    rw [g1] at hu; cases hu; exact c1
theorem ivCells_one (x : Nat → Nat × Nat) (n : Nat) : ∀ u ∈ ivCells x n, u.oneCell' = true := by
  intro u hu
  unfold ivCells at hu
  rw [List.mem_flatMap] at hu
  obtain ⟨i, _, h⟩ := hu
  simp at h
  rcases h with rfl | rfl <;> rfl

set_option maxHeartbeats 2000000 in
set_option maxRecDepth 100000 in
theorem clone_c {b o n c : Nat} {x : Nat → Nat × Nat} {w : World} (hx : IvsAt w (.slice (some ⟨b, o, none⟩) n c) x n) (hn0 : 0 < n) (hn1 : n ≤ 1000) :
    Calls Tryz.prog 93 #[.slice (some ⟨b, o, none⟩) n c] w fun e w' => ∃ u, e = .returned u ∧ IvsAt w' u x n ∧ Below w.heap.size w w' := by
  obtain ⟨i0, hi, hz0, hz1, hz2⟩ := info_parts info24
  have hx2 := hx.below ((Below.refl w.heap.size w).alloc (Nat.le_refl _) (Obj.cells #[] 24))
  have hown : (w.alloc (Obj.cells #[] 24)).ownsRow w.heap.size 24 2 (.slice (some ⟨w.heap.size, 0, none⟩) 0 0) 0 [] :=
    ⟨rfl, Or.inr ⟨w.heap.size, 0, #[], rfl, Nat.le_refl _, heap_alloc_new _ _, Nat.le_refl _, by decide, rfl, rfl⟩⟩
  have hlt : ∀ i, i < n → Lt (x i) := fun i hi => hx.lt hi
  have hq := fun (W : World) => Lib.run_eql_slice_nil (P := Tryz.prog) W 46 _ (some ⟨b, o, none⟩) n c 0 0 Tryz.underlying46
  go_enter Tryz.func93, Tryz.ntmps93
  go_wp2_with (at_builtin; refine wpList_append_lies _ rfl (.tmp 5) (.tmp 6) 46 rfl w.heap.size 24 i0 (.agg #[.float .f64 0, .float .f64 0]) 2 16 Tryz.underlying46 hi hz0 hz1 hz2 rfl (by decide) _ 0 [] rfl hown ⟨b, o, none⟩ n c (ivCells x n) rfl (ivCells_len x n) (ivs_news hx2) (ivCells_one x n) hn0 (by unfold maxLen; omega) (by omega) (by simp) _ rfl ?_; intro g cap w1 h1 h2 h3 h4)
  go_ret
  refine ⟨_, rfl, OwnIv.ivs (base := w.heap.size) ⟨hlt, ?_⟩, ?_⟩
  · simpa using h1
  · exact ((Below.refl w.heap.size w).alloc (Nat.le_refl _) _).trans (grown_below hown h2 (by simp))
end Go.Proofs.YtpkgpkabmechkaaGreat
