/- PicardLines: for all slices of intervals and every time the law returns true. -/
import Derived.Test.YtpkgpkabmechkaaGreatPkP14x
namespace Go.Proofs.YtpkgpkabmechkaaGreat
set_option linter.unusedSimpArgs false
set_option linter.unusedVariables false
open Go.ChangeShapes Go.WideShapes Go.ChangeAt Go.RowKit Go.Joins
open Fl

def LinesInv (W : World) (B n : Nat) (x r : Nat → Nat × Nat) (i : Value) (wr : World) : Prop :=
  ∃ (k : Nat) (vO vN : Value), i = .int .i64 k ∧ k ≤ n ∧ BoxT wr B n vO vN ∧ OwnL (B + 1) wr vO vN r k ∧ (∀ j, j < k → flt 4607182418800017408 (magI (r j).1 (r j).2) = false ∧ flt 4652007308841189376 (magI (x j).1 (x j).2) = false) ∧ Below B W wr
theorem BoxT.belowB {w w' : World} {b base : Nat} {n : Int} {vO vN : Value} (h : BoxT w b n vO vN) (hb : Below base w w') (hl : b < base) : BoxT w' b n vO vN := ⟨(hb.block b hl).trans h.blk⟩

set_option maxHeartbeats 16000000 in
set_option maxRecDepth 100000 in
theorem picardLines_walk (vr : Value) (r : Nat → Nat × Nat) (nr : Nat) (vx : Value) (x : Nat → Nat × Nat) (n : Nat) (time : Nat) (ht : time < 18446744073709551616) (w : World) (hr : IvsAt w vr r nr) (hx : IvsAt w vx x n) :
    Calls Tryz.prog 9 #[vr, vx, (.float .f64 time)] w fun e w' => e = .returned (.bool true) ∧ Below w.heap.size w w' := by
  have LX := fun (W : World) (hW : Below w.heap.size w W) => lbounded_c (hx.below hW)
  have LR := fun (W : World) (hW : Below w.heap.size w W) => lbounded_c (hr.below hW)
  have HA := Lib.hid (show _ ∧ _ from ⟨hr, hx⟩)
  obtain ⟨Ar, cr, rfl, hnr, hr⟩ := hr
  obtain ⟨Ax, cx, rfl, hnx, hx⟩ := hx
  have HR := Lib.hid hr
  have HX := Lib.hid hx
  clear hr hx
  obtain ⟨B1, hB1⟩ : ∃ B, anyB x n (fun x => !boundB x) = B := ⟨_, rfl⟩
  obtain ⟨B2, hB2⟩ : ∃ B, anyB r nr (fun x => !boundB x) = B := ⟨_, rfl⟩
  simp only [hB1] at LX
  simp only [hB2] at LR
  have HB := Lib.hid (show _ ∧ _ from ⟨hB1, hB2⟩)
  clear hB1 hB2
  have cs : ((n : Int) < 1) ∨ (1 ≤ (n : Int) ∧ 12 < (n : Int)) ∨ (1 ≤ (n : Int) ∧ (n : Int) ≤ 12 ∧ (nr : Int) ≠ n) ∨ (1 ≤ (n : Int) ∧ (n : Int) ≤ 12 ∧ nr = n) := by omega
  rcases cs with h1 | ⟨h1, h2⟩ | ⟨h1, h2, h3⟩ | ⟨h1, h2, h3⟩
  · clear LX LR
    go_enter Tryz.func9, Tryz.ntmps9
    go_wp2
    go_ret
    exact ⟨rfl, by (repeat' first | (with_reducible first | exact Below.refl _ _ | assumption | refine Later.belowOf _ ?_ ?_ | refine Below.alloc ?_ ?_ _ | refine Below.setCell ?_ ?_ _ | refine Below.drewN' _ ?_ | refine Below.drew ?_ | exact Ge.le) | go_size)⟩
  · clear LX LR
    go_enter Tryz.func9, Tryz.ntmps9
    go_wp2
    go_ret
    exact ⟨rfl, by (repeat' first | (with_reducible first | exact Below.refl _ _ | assumption | refine Later.belowOf _ ?_ ?_ | refine Below.alloc ?_ ?_ _ | refine Below.setCell ?_ ?_ _ | refine Below.drewN' _ ?_ | refine Below.drew ?_ | exact Ge.le) | go_size)⟩
  · clear LX LR
    have h4 : (((nr : Nat) : Int) == ((n : Nat) : Int)) = false := by simpa using h3
    go_enter Tryz.func9, Tryz.ntmps9
    go_wp2
    go_ret
    exact ⟨rfl, by (repeat' first | (with_reducible first | exact Below.refl _ _ | assumption | refine Later.belowOf _ ?_ ?_ | refine Below.alloc ?_ ?_ _ | refine Below.setCell ?_ ?_ _ | refine Below.drewN' _ ?_ | refine Below.drew ?_ | exact Ge.le) | go_size)⟩
  subst h3
  have cs : (B1 = true) ∨ (B1 = false ∧ B2 = true) ∨ (B1 = false ∧ B2 = false ∧ flt 0 time = false) ∨ (B1 = false ∧ B2 = false ∧ flt 0 time = true ∧ fle time 4607182418800017408 = false) ∨ (B1 = false ∧ B2 = false ∧ flt 0 time = true ∧ fle time 4607182418800017408 = true) := by
    cases B1 <;> cases B2 <;> cases flt 0 time <;> cases fle time 4607182418800017408 <;> simp
  rcases cs with rfl | ⟨rfl, rfl⟩ | ⟨rfl, rfl, h4⟩ | ⟨rfl, rfl, h4, h5⟩ | ⟨rfl, rfl, h4, h5⟩
  iterate 4
    · go_enter Tryz.func9, Tryz.ntmps9
      go_wp2_with (go_at_call 41; first | ((with_reducible refine (LX w (Below.refl _ _)).mono ?_); rintro _ _ ⟨n1, rfl, rfl⟩) | ((with_reducible refine (LR n1.val n1.below).mono ?_); rintro _ _ ⟨n2, rfl, rfl⟩))
      go_ret
      exact ⟨rfl, by (repeat' first | (with_reducible first | exact Below.refl _ _ | assumption | refine Later.belowOf _ ?_ ?_ | refine Below.alloc ?_ ?_ _ | refine Below.setCell ?_ ?_ _ | refine Below.drewN' _ ?_ | refine Below.drew ?_ | exact Ge.le) | go_size)⟩
  obtain ⟨q1, lq, nq, i0, i1⟩ := over32 h4 h5
  have HQ := Lib.hid (show _ ∧ _ ∧ _ ∧ _ from ⟨lq, nq, i0, i1⟩)
  clear lq nq i0 i1
  go_enter Tryz.func9, Tryz.ntmps9
  go_upto_region 4 with (go_at_call 41; first | ((with_reducible refine (LX w (Below.refl _ _)).mono ?_); rintro _ _ ⟨n1, rfl, rfl⟩) | ((with_reducible refine (LR n1.val n1.below).mono ?_); rintro _ _ ⟨n2, rfl, rfl⟩))
  have bw2 : Below w.heap.size w n2.val := by (repeat' first | (with_reducible first | exact Below.refl _ _ | assumption | refine Later.belowOf _ ?_ ?_ | refine Below.alloc ?_ ?_ _ | refine Below.setCell ?_ ?_ _ | refine Below.drewN' _ ?_ | refine Below.drew ?_ | exact Ge.le) | go_size)
  have HW2 := Lib.hid bw2
  clear LX LR
  have bt1 := BoxT.new n2.val nr (.slice none 0 0) (.slice none 0 0)
  go_upto_region 5 with (fail)
  refine cut_world (fun W hW => ?_)
  have hB0 : Below n2.val.heap.size n2.val W := by rw [← hW]; (repeat' first | (with_reducible first | exact Below.refl _ _ | assumption | refine Later.belowOf _ ?_ ?_ | refine Below.alloc ?_ ?_ _ | refine Below.setCell ?_ ?_ _ | refine Below.drewN' _ ?_ | refine Below.drew ?_ | exact Ge.le) | go_size)
  rw [hW] at bt1
  clear hW
  have hn2 := bw2.size
  generalize hBB : n2.val.heap.size = B at *
  go_wp2
  go_loopw [51] (fun i wr => LinesInv n2.val B nr x r i wr) (fun i _ => nr - (intOf i).toNat)
  case atStart => exact ⟨0, _, _, rfl, Nat.zero_le _, bt1, ownL_nil _ _ _, fun j hj => by omega, hB0⟩
  case round =>
    clear bt1 hB0
    obtain ⟨k, vO, vN, rfl, hk, bt, own, hE, hbel⟩ := hrel
    have hbw : Below w.heap.size w wr := HW2.out.trans (hbel.mono (by omega))
    have hlt := bt.lt
    haveI gB : Ge wr (B + 1) := ⟨hlt⟩
    by_cases hkn : k < nr
    · obtain ⟨b1, o1, e1, lr, r0, r1⟩ := HR.out k hkn
      obtain ⟨b2, o2, e2, lx, x0, x1⟩ := HX.out k hkn
      subst e1 e2
      have r0 := cellBelow hbw r0
      have r1 := cellBelow hbw r1
      have x0 := cellBelow hbw x0
      have x1 := cellBelow hbw x1
      haveI g1 : Ge wr (b1 + 1) := ⟨World.block_lt_of_cell? wr _ r0⟩
      haveI g2 : Ge wr (b2 + 1) := ⟨World.block_lt_of_cell? wr _ x0⟩
      have M1 := mag_ref_any (r k).1 (r k).2 lr.1 lr.2
      have M2 := mag_ref_any (x k).1 (x k).2 lx.1 lx.2
      obtain ⟨m1, hm1⟩ : ∃ m, magI (r k).1 (r k).2 = m := ⟨_, rfl⟩
      obtain ⟨m2, hm2⟩ : ∃ m, magI (x k).1 (x k).2 = m := ⟨_, rfl⟩
      rw [hm1] at M1
      rw [hm2] at M2
      have HM := Lib.hid (show _ ∧ _ from ⟨hm1, hm2⟩)
      clear hm1 hm2
      have hrk : r k = ((r k).1, (r k).2) := rfl
      have HRK := Lib.hid (show _ ∧ _ from ⟨hrk, lr⟩)
      have HXK := Lib.hid (show x k = ((x k).1, (x k).2) from rfl)
      clear hrk lr lx
      generalize hr1 : (r k).1 = ra at *
      generalize hr2 : (r k).2 = rb at *
      generalize (x k).1 = xa at *
      generalize (x k).2 = xb at *
      clear hr1 hr2
      have k0 : (0 : Int) ≤ (k : Int) := by omega
      have k1 : (k : Int) < (nr : Int) := by omega
      have HI := Lib.hid (show _ ∧ _ ∧ _ ∧ _ ∧ _ from ⟨bt, own, hE, hbel, hbw⟩)
      clear bt own hE hbel hbw
      rcases fot (flt 4607182418800017408 m1) with p1 | p1
      · rcases fot (flt 4652007308841189376 m2) with p2 | p2
        · have hm : flt 4607182418800017408 (magI (r k).1 (r k).2) = false ∧ flt 4652007308841189376 (magI (x k).1 (x k).2) = false := by
            rw [HRK.out.1, HXK.out]
            simp only
            rw [HM.out.1, HM.out.2]
            exact ⟨p1, p2⟩
          have HMM := Lib.hid hm
          clear hm
          go_upto_region 10 with (go_at_call 45; first | ((with_reducible refine (M1.go _).mono ?_); rintro _ _ ⟨n3, rfl, rfl⟩) | ((with_reducible refine (M2.go _).mono ?_); rintro _ _ ⟨n4, rfl, rfl⟩))
          have s0 : n4.val.cell? ⟨wr.heap.size, 0, none⟩ = some (.float .f64 ra) := by simp [go_sem]
          have s1 : n4.val.cell? ⟨wr.heap.size, 1, none⟩ = some (.float .f64 rb) := by simp [go_sem]
          have bq : Below wr.heap.size wr n4.val := by (repeat' first | (with_reducible first | exact Below.refl _ _ | assumption | refine Later.belowOf _ ?_ ?_ | refine Below.alloc ?_ ?_ _ | refine Below.setCell ?_ ?_ _ | refine Below.drewN' _ ?_ | refine Below.drew ?_ | exact Ge.le) | go_size)
          obtain ⟨bt, own, hE, hbel, hbw⟩ := HI.out
          have bl := bt.lt
          have hq4 := bq.size
          have ha1 : Below n4.val.heap.size n4.val (n4.val.alloc (.cells #[.int .i64 1, .int .i64 0, .int .i64 0, .int .i64 0, (.float .f64 ra), (.float .f64 rb)] 66)) := (Below.refl _ _).alloc (Nat.le_refl _) _
          have bt4 := (bt.below bq).below ha1
          have own4 := (own.below bq).below ha1
          have ho4 := own4.o
          have hn4 := own4.n
          have hle4 : B + 1 ≤ (n4.val.alloc (.cells #[.int .i64 1, .int .i64 0, .int .i64 0, .int .i64 0, (.float .f64 ra), (.float .f64 rb)] 66)).heap.size := by simp; omega
          have hbA : Below B n2.val (n4.val.alloc (.cells #[.int .i64 1, .int .i64 0, .int .i64 0, .int .i64 0, (.float .f64 ra), (.float .f64 rb)] 66)) := (hbel.trans (bq.mono (by omega))).trans (ha1.mono (by omega))
          have c41 := (bt.below bq).c1
          have c42 := (bt.below bq).c2
          haveI gq4 : Ge n4.val (B + 1) := ⟨by omega⟩
          haveI gq5 : Ge n4.val (wr.heap.size + 1) := ⟨World.block_lt_of_cell? _ _ s0⟩
          have hpq := HRK.out.1
          have hk4 : k ≤ 3000000 := by omega
          clear hbw bt own own4 M1 M2 r0 r1 x0 x1
          go_upto_region 11 with (at_builtin; refine wpList_append_o rfl rfl rfl rfl (heap_alloc_new _ _) ho4 hn4 hpq hk4 hle4 ?_; intro g5v c5v w5 ho5 hn5 hb5 hg5; have bt5 := bt4.belowB hb5 (by omega); have q51 := bt5.c1; have qf1 := bt5.f1; haveI g5 : Ge w5 (B + 1) := ⟨bt5.lt⟩)
          have bt6 := bt5.setO (.slice (some ⟨g5v, 0, none⟩) (k + 1) c5v)
          have ho6 := own_set (o := 1) (b := B) ho5 (.slice (some ⟨g5v, 0, none⟩) (k + 1) c5v) (fun g hg => by have := (own_lt ho5 g hg).1; omega)
          have hn6 := own_set (o := 1) (b := B) hn5 (.slice (some ⟨g5v, 0, none⟩) (k + 1) c5v) (fun g hg => by have := (own_lt hn5 g hg).1; omega)
          have hb6 : Below B n2.val (w5.setCell ⟨B, 1, none⟩ (.slice (some ⟨g5v, 0, none⟩) (k + 1) c5v)) := (hbA.trans (hb5.mono (by omega))).setCell (Nat.le_refl _) _
          clear s0 s1 bq ha1 bt4 ho4 hn4 hbA c41 c42 gq4 gq5 q51 qf1 g5 ho5 hn5 hb5 hg5 bt5
          refine cut_world (fun W6 hW => ?_)
          rw [hW] at bt6 ho6 hn6 hb6
          clear hW
          have bl6 := bt6.lt
          have c60 := bt6.c2
          haveI g6 : Ge W6 (B + 1) := ⟨bl6⟩
          have ha2 : Below W6.heap.size W6 (W6.alloc (.cells #[.int .i64 (k : Int)] 3)) := (Below.refl _ _).alloc (Nat.le_refl _) _
          have bt7 := bt6.below ha2
          have ho7 := own_far ho6 fun g hg => ha2.block g (own_lt ho6 g hg).2
          have hn7 := own_far hn6 fun g hg => ha2.block g (own_lt hn6 g hg).2
          have hb7 : Below B n2.val (W6.alloc (.cells #[.int .i64 (k : Int)] 3)) := hb6.trans (ha2.mono (by omega))
          have hle7 : B + 1 ≤ (W6.alloc (.cells #[.int .i64 (k : Int)] 3)).heap.size := by simp; omega
          go_upto_region 12 with (at_builtin; refine wpList_append_i rfl rfl rfl rfl (heap_alloc_new _ _) ho7 hn7 hk4 hle7 ?_; intro g8v c8v w8 ho8 hn8 hb8 hg8; have bt8 := bt7.belowB hb8 (by omega); have q82 := bt8.c2; have qf2 := bt8.f2; haveI g8 : Ge w8 (B + 1) := ⟨bt8.lt⟩)
          have bt9 := bt8.setN (.slice (some ⟨g8v, 0, none⟩) (k + 1) c8v)
          have ho9 := own_set (o := 2) (b := B) ho8 (.slice (some ⟨g8v, 0, none⟩) (k + 1) c8v) (fun g hg => by have := (own_lt ho8 g hg).1; omega)
          have hn9 := own_set (o := 2) (b := B) hn8 (.slice (some ⟨g8v, 0, none⟩) (k + 1) c8v) (fun g hg => by have := (own_lt hn8 g hg).1; omega)
          have hb9 : Below B n2.val (w8.setCell ⟨B, 2, none⟩ (.slice (some ⟨g8v, 0, none⟩) (k + 1) c8v)) := (hb7.trans (hb8.mono (by omega))).setCell (Nat.le_refl _) _
          have hE9 : ∀ j, j < k + 1 → flt 4607182418800017408 (magI (r j).1 (r j).2) = false ∧ flt 4652007308841189376 (magI (x j).1 (x j).2) = false := fun j hj => by
            rcases Nat.lt_succ_iff_lt_or_eq.1 hj with h | h
            · exact hE j h
            · rw [h]; exact HMM.out
          have H9 := Lib.hid (show _ ∧ _ ∧ _ ∧ _ ∧ _ from ⟨bt9, ho9, hn9, hb9, hE9⟩)
          clear bt9 ho9 hn9 hb9 hE9 bt8 ho8 hn8 hb8 hg8 q82 qf2 bt7 ho7 hn7 hb7 bt6 ho6 hn6 hb6 hE
          go_wp2
          go_roundw
          case rel =>
            obtain ⟨bt9, ho9, hn9, hb9, hE9⟩ := H9.out
            exact ⟨k + 1, _, _, by go_num, hkn, bt9, ⟨ho9, hn9⟩, hE9, hb9⟩
          case measure => simp [intOf]; omega
        · go_wp2_with (go_at_call 45; first | ((with_reducible refine (M1.go _).mono ?_); rintro _ _ ⟨n3, rfl, rfl⟩) | ((with_reducible refine (M2.go _).mono ?_); rintro _ _ ⟨n4, rfl, rfl⟩))
          go_ret
          exact ⟨rfl, HI.out.2.2.2.2.trans (Below.mono (B := wr.heap.size) (by (repeat' first | (with_reducible first | exact Below.refl _ _ | assumption | refine Later.belowOf _ ?_ ?_ | refine Below.alloc ?_ ?_ _ | refine Below.setCell ?_ ?_ _ | refine Below.drewN' _ ?_ | refine Below.drew ?_ | exact Ge.le) | go_size)) HI.out.2.2.2.2.size)⟩
      · go_wp2_with (go_at_call 45; first | ((with_reducible refine (M1.go _).mono ?_); rintro _ _ ⟨n3, rfl, rfl⟩) | ((with_reducible refine (M2.go _).mono ?_); rintro _ _ ⟨n4, rfl, rfl⟩))
        go_ret
        exact ⟨rfl, HI.out.2.2.2.2.trans (Below.mono (B := wr.heap.size) (by (repeat' first | (with_reducible first | exact Below.refl _ _ | assumption | refine Later.belowOf _ ?_ ?_ | refine Below.alloc ?_ ?_ _ | refine Below.setCell ?_ ?_ _ | refine Below.drewN' _ ?_ | refine Below.drew ?_ | exact Ge.le) | go_size)) HI.out.2.2.2.2.size)⟩
    · obtain rfl : k = nr := by omega
      obtain ⟨hr0, hx0⟩ := HA.out
      have hO := own.ops (fun i hi => hr0.lt hi)
      have hN := own.outs
      have hlr : ∀ i, i < k → Lt (r i) := fun i hi => hr0.lt hi
      have hlx : ∀ i, i < k → Lt (x i) := fun i hi => hx0.lt hi
      have hbx : ∀ i, i < k → boundB (x i) = true := fun i hi => by simpa using any_false HB.out.1 i hi
      have hbr : ∀ i, i < k → boundB (r i) = true := fun i hi => by simpa using any_false HB.out.2 i hi
      obtain ⟨lq, nq, i0, i1⟩ := HQ.out
      obtain ⟨qb0, qb1⟩ := q_bounds nq i0 i1
      have hk1 : 1 ≤ k := by omega
      have hk2 : k ≤ 24 := by omega
      have hpb : anyB x k (fun x => !pbB x) = false := any_of fun i hi => by simp [bound_pb (hlx i hi) (hbx i hi)]
      have hno : anyB x k (fun x => noneB x.1 x.2) = false := any_of fun i hi => bound_none (hbx i hi)
      have BC := bound_c (V := (k : Int)) (time := (fq time 4629700416936869888)) (w := wr) (⟨hO, hN, hx0.below hbw, Nat.le_refl _, by omega, lq⟩ : Ask wr (k : Int) _ _ _ (lineO r) (fun i => (i : Int)) k k k x (fq time 4629700416936869888)) (line_tape hk1 hk2 fun i hi => bound_none (hbr i hi)) (by omega) (by omega) rfl rfl qb0 qb1 hno hpb
      have hHW := line_wide hk1 hk2 hlr hlx hbr hbx hE lq nq i0 i1
      have hHX := line_nought hk1 hk2 hlr hlx hbr hbx lq nq i0 i1
      have hIN := fun ys => line_inside (x := x) (q := fq time 4629700416936869888) (ys := ys) hbr
      generalize hHf : (fun b => holdsB (k : Int) k (lineO r) k (fun i => (i : Int)) x b (fq time 4629700416936869888) k) = H at *
      have hIN2 : ∀ ys, H ys = true → ∀ i, i < k → insideB (goP (x i) (r i) (fq time 4629700416936869888)).1 (goP (x i) (r i) (fq time 4629700416936869888)).2 (ys i).1 (ys i).2 = true := fun ys h => hIN ys (by rw [← hHf] at h; exact h)
      have hHW2 : H (widerF x 4589168020290535424) = true := by rw [← hHf]; exact hHW
      have hHX2 : feq (fq time 4629700416936869888) 0 = true → H x = true := fun h => by rw [← hHf]; exact hHX h
      have HH := Lib.hid (show _ ∧ _ ∧ _ from ⟨hIN2, hHW2, hHX2⟩)
      have HL := Lib.hid (show _ ∧ _ ∧ _ from ⟨hlr, hlx, lq⟩)
      have HBW := Lib.hid hbw
      have c0 := bt.c0
      have c1 := bt.c1
      have c2 := bt.c2
      clear hIN hIN2 hHW hHW2 hHX hHX2 hHf hpb hno hbx hbr hO hN own bt hE hr0 hx0 hlr hlx lq nq i0 i1 qb0 qb1 hbel
      generalize hz : feq (fq time 4629700416936869888) 0 = z at *
      have HZ := Lib.hid hz
      clear hz
      go_upto_region 14 with (go_at_call 38; refine BC.mono ?_; rintro _ w3 ⟨v3, E3, rfl, hb3, hE1, hE2, hz1, hz0⟩)
      have hy : E3 = 0 ∧ ∃ ys, IvsAt w3 v3 ys k ∧ H ys = true := by
        cases z
        · obtain ⟨e, ys, hi, hs⟩ := hz0 rfl HH.out.2.1
          exact ⟨e, ys, hi, hs.2 HH.out.2.1⟩
        · obtain ⟨e, hi⟩ := (hz1 rfl).1 (HH.out.2.2 rfl)
          exact ⟨e, x, hi, HH.out.2.2 rfl⟩
      obtain ⟨rfl, ys, hy, hHy⟩ := hy
      have hin := HH.out.1 ys hHy
      have HY := Lib.hid (show _ ∧ _ from ⟨hin, hy⟩)
      obtain ⟨n3, rfl⟩ : ∃ n3 : Later wr, w3 = n3.val := ⟨⟨w3, hb3⟩, rfl⟩
      clear hE1 hE2 hz1 hz0 BC hb3 hin hHy hy c0 c1 c2
      obtain ⟨A1, ca1, rfl, hy1, hy2⟩ := HY.out.2
      have HY2 := Lib.hid hy2
      clear hy2
      go_wp2
      have bw3 : Below w.heap.size w n3.val := HBW.out.trans (n3.below.mono HBW.out.size)
      have HB3 := Lib.hid bw3
      clear bw3
      go_loopw [99] (fun i wr => InsInv n3.val k i wr) (fun i _ => k - (intOf i).toNat)
      case atStart => exact ⟨0, rfl, Nat.zero_le _, Below.refl _ _⟩
      case round =>
        obtain ⟨j, rfl, hj, hbel⟩ := hrel
        by_cases h1 : j < k
        · obtain ⟨b1, o1, e1, lr, r0, r1⟩ := HR.out j h1
          obtain ⟨b2, o2, e2, lx, x0, x1⟩ := HX.out j h1
          obtain ⟨b3, o3, e3, ly, y0, y1⟩ := HY2.out j h1
          subst e1 e2 e3
          have hbw2 : Below w.heap.size w wr := HB3.out.trans (hbel.mono HB3.out.size)
          have r0 := cellBelow hbw2 r0
          have r1 := cellBelow hbw2 r1
          have x0 := cellBelow hbw2 x0
          have x1 := cellBelow hbw2 x1
          have y0 := cellBelow hbel y0
          have y1 := cellBelow hbel y1
          haveI g1 : Ge wr (b1 + 1) := ⟨World.block_lt_of_cell? wr _ r0⟩
          haveI g2 : Ge wr (b2 + 1) := ⟨World.block_lt_of_cell? wr _ x0⟩
          haveI g3 : Ge wr (b3 + 1) := ⟨World.block_lt_of_cell? wr _ y0⟩
          have RC := reachR_c lx lr HL.out.2.2
          have lg : Lt (goP (x j) (r j) (fq time 4629700416936869888)) := lt_add lx (lt_mul (lt_make (by decide) HL.out.2.2) lr)
          have IC := inside_ref_any (goP (x j) (r j) (fq time 4629700416936869888)).1 (goP (x j) (r j) (fq time 4629700416936869888)).2 (ys j).1 (ys j).2 lg.1 lg.2 ly.1 ly.2
          rw [HY.out.1 j h1] at IC
          generalize goP (x j) (r j) (fq time 4629700416936869888) = g at *
          generalize r j = rj at *
          generalize x j = xj at *
          generalize ys j = yj at *
          obtain ⟨ra, rb⟩ := rj
          obtain ⟨xa, xb⟩ := xj
          obtain ⟨ya, yb⟩ := yj
          obtain ⟨ga, gb⟩ := g
          simp only at r0 r1 x0 x1 y0 y1 RC IC
          have HB4 := Lib.hid hbel
          clear lr lx ly lg hbel hbw2
          have k0 : (0 : Int) ≤ (j : Int) := by omega
          have k1 : (j : Int) < (k : Int) := by omega
          go_wp2_with (fail)
          refine wp_region_later (by kernel_rfl) (by kernel_rfl) ?_
          repeat (go_big_quiet_step (first | (go_at_call 47; (with_reducible exact RC.later _)) | (go_at_call 46; (with_reducible exact IC.later _))))
          (refine wpQuiet_nil ?_; rintro _ ⟨nq, rfl⟩)
          go_wp2
          go_roundw
          case rel => exact ⟨j + 1, by go_num, h1, HB4.out.trans (nq.below.mono HB4.out.size)⟩
          case measure => simp [intOf]; omega
        · obtain rfl : j = k := by omega
          go_wp2
          go_ret
          exact ⟨rfl, HB3.out.trans (hbel.mono HB3.out.size)⟩

theorem picardLines_go (A1 : Option Addr) (n1 c1 : Nat) (r : Nat → Nat × Nat) (A2 : Option Addr) (n2 c2 : Nat) (x : Nat → Nat × Nat) (time : Nat) {w0 : World} (hr : IvsAt w0 (.slice A1 n1 c1) r n1) (hx : IvsAt w0 (.slice A2 n2 c2) x n2) (ht : time < 18446744073709551616) (w : World) (e : w = w0 := by rfl) :
    Calls Tryz.prog 9 #[.slice A1 n1 c1, .slice A2 n2 c2, (.float .f64 time)] w fun e w' => e = .returned (.bool true) ∧ Below w.heap.size w w' := by
  subst e
  exact picardLines_walk _ r n1 _ x n2 time ht w hr hx

set_option maxRecDepth 100000 in
theorem picardLines_lifted (os : Os) (started : os.Started) (H : Type) (enc : TypeId × Value → H) :
    ReturnsInHanded {} Tryz.checked os 9 .any (Rows.picardLinesSpec.pre6 enc Tryz.prog Tryz.f9 Rows.picardLinesRow.domain false) (Rows.picardLinesSpec.post enc Tryz.prog Tryz.f9 false true false false) := by
  refine returnsInHanded_of_change (C := Tryz.checked) Tryz.own started (by kernel_rfl) Tryz.func9
    (ChangeSpec.witness6 (enc := enc) (C := Tryz.checked) false ⟨#[], #[(.slice none 0 0), (.slice none 0 0), (.float .f64 0)], []⟩ 8 (by kernel_rfl) (by kernel_rfl) (by kernel_rfl) (by kernel_rfl)) ?_
  intro W base args ds gs before hval0 hW hcnd _
  have hval : ∀ (j : Nat) t v, Tryz.f9.params[j]? = some t → args[j]? = some v → Value.okWide Tryz.prog W .any base t v := hval0
  have hW' := hW
  obtain ⟨p, q, hA0, hV, rfl, hfz, hnd⟩ := hW
  have hA : DataW.TrodAll enc Tryz.prog W 0 (fun _ => true) true Tryz.f9.params.toList args.toList ds p := hA0
  rw [Tryz.params9] at hA hval
  obtain ⟨v0, v1, v2, d0, d1, d2, p0, p1, p2, rfl, rfl, rfl, h0, h1, h2⟩ := trodAll_three hA
  obtain ⟨rfl, rfl⟩ := trodVars_none hV
  obtain ⟨x0_0, x0_1, x0_2, x0_3, rfl, k0_0⟩ := arg_ivs (hval 0 46 v0 rfl rfl) h0
  obtain ⟨x1_0, x1_1, x1_2, x1_3, rfl, k1_0⟩ := arg_ivs (hval 1 46 v1 rfl rfl) h1
  obtain ⟨x2_0, rfl, k2_0⟩ := arg_float (hval 2 22 v2 rfl rfl) h2
  refine (picardLines_go x0_0 x0_1 x0_2 x0_3 x1_0 x1_1 x1_2 x1_3 x2_0 k0_0 k1_0 k2_0 W).mono fun e W' ⟨he, hb⟩ => ?_
  subst he
  exact ⟨_, rfl, law_post rfl hW' (by kernel_rfl) (by kernel_rfl) rfl hb⟩

theorem picardLines_holds : Rows.PicardLinesSaid :=
  OpenClaim.holds_of_wide 9 Tryz.f9 rfl rfl rfl rfl rfl rfl rfl ⟨rfl, rfl, rfl, rfl, rfl⟩ rfl rfl rfl rfl rfl (by kernel_rfl) Tryz.func9 (by kernel_rfl)
    (of_decide_eq_true (by kernel_rfl)) (by unfold Func.isWrapper; rw [if_neg (of_decide_eq_false (by kernel_rfl))]; exact ⟨rfl, rfl⟩)
    (fun os started H enc _ => picardLines_lifted os started H enc)
end Go.Proofs.YtpkgpkabmechkaaGreat
