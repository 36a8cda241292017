/- Contracts: the sine and the cosine of a number of at most 1000. -/
import Derived.Test.YtkmgfbhnioojhaaGreatPmE7
namespace Go.Proofs.YtkmgfbhnioojhaaGreat
set_option linter.unusedSimpArgs false
set_option linter.unusedVariables false
open Go.RowKit
open Fl

/-- Block b holds a whole number, and may be written. -/
structure BoxI (w : World) (b : Nat) (n : Int) : Prop where
  blk : w.heap[b]? = some (Obj.cells #[.int .i64 n] 3)
namespace BoxI
variable {w : World} {b : Nat} {n : Int}
theorem c0 (h : BoxI w b n) : w.cell? ⟨b, 0, none⟩ = some (.int .i64 n) := by simp [World.cell?, h.blk]
theorem lt (h : BoxI w b n) : b < w.heap.size := by
  rcases Nat.lt_or_ge b w.heap.size with h' | h'
  · exact h'
  · have := h.blk; simp [Array.getElem?_eq_none h'] at this
theorem below (h : BoxI w b n) {w' : World} (hb : Below w.heap.size w w') : BoxI w' b n := ⟨(hb.block b h.lt).trans h.blk⟩
theorem set_other (h : BoxI w b n) {a : Addr} (v : Value) (ha : a.block ≠ b) : BoxI (w.setCell a v) b n := ⟨by rw [Below.heap_setCell _ _ _ _ (fun e => ha e.symm)]; exact h.blk⟩
theorem new (w : World) (n : Int) : BoxI (w.alloc (Obj.cells #[.int .i64 n] 3)) w.heap.size n := ⟨by unfold World.alloc; simp [Array.getElem?_push]⟩
end BoxI

theorem boxI_at (w : World) (o : Obj) (n : Int) : BoxI ((w.alloc o).alloc (Obj.cells #[.int .i64 n] 3)) (w.heap.size + 1) n := by
  have := BoxI.new (w.alloc o) n
  simpa using this

set_option maxHeartbeats 1000000 in
theorem turn1_c {q : Nat × Nat} {odd : Int} (hq : Lt q) (o1 : 0 ≤ odd) (o2 : odd ≤ 1) (b c : Nat) (w : World) (hc : Box w b q) (hi : BoxI w c odd) : FnOk 254 #[.pointer (some ⟨b, 0, none⟩), .pointer (some ⟨c, 0, none⟩)] (fun i => divP q (wholeP ((2 * i - 1 + odd) * (2 * i + odd)))) w := by
  refine ⟨fun x w' => by simp [go_sem], fun i m i1 i2 hm => ?_⟩
  have hc := hc.below hm
  have hi := hi.below hm
  have W1 := whole_c ((2 * i - 1 + odd) * (2 * i + odd))
  have D := divC hq (lt_whole ((2 * i - 1 + odd) * (2 * i + odd)))
  have c0 := hc.c0
  have c1 := hc.c1
  have c2 := hi.c0
  haveI gb : Ge m (b + 1) := ⟨hc.lt⟩
  haveI gc : Ge m (c + 1) := ⟨hi.lt⟩
  clear hc hm hi
  simp only [List.append_toArray, List.cons_append, List.nil_append]
  have b3 : 0 ≤ (2 * i - 1 + odd) * (2 * i + odd) := Int.mul_nonneg (by omega) (by omega)
  have b4 : (2 * i - 1 + odd) * (2 * i + odd) ≤ 300 * 300 := Int.mul_le_mul (by omega) (by omega) (by omega) (by omega)
  have a1 : IntKind.i64.wrap (2 * i) = 2 * i := IntWalk.i64_in _ (by omega)
  have a2 : IntKind.i64.wrap (2 * i - 1) = 2 * i - 1 := IntWalk.i64_in _ (by omega)
  have a3 : IntKind.i64.wrap (2 * i - 1 + odd) = 2 * i - 1 + odd := IntWalk.i64_in _ (by omega)
  have a4 : IntKind.i64.wrap (2 * i + odd) = 2 * i + odd := IntWalk.i64_in _ (by omega)
  have a5 : IntKind.i64.wrap ((2 * i - 1 + odd) * (2 * i + odd)) = (2 * i - 1 + odd) * (2 * i + odd) := IntWalk.i64_in _ (by omega)
  generalize divP q (wholeP ((2 * i - 1 + odd) * (2 * i + odd))) = d at *
  generalize wholeP ((2 * i - 1 + odd) * (2 * i + odd)) = u at *
  obtain ⟨q1, q2⟩ := q
  go_enter Tryz.func254, Tryz.ntmps254
  go_wp2_with (fail)
  (refine wp_region_tail_later 13 (by kernel_rfl) (by kernel_rfl) ?_; simp only [List.take_succ_cons, List.take_zero, List.drop_succ_cons, List.drop_zero])
  repeat (go_big_quiet_step (first | (go_at_call 122; (with_reducible exact W1.later _)) | (go_at_call 113; (with_reducible exact D.later _))))
  (refine wpQuiet_nil ?_; rintro _ ⟨nq, rfl⟩)
  clear a1 a2 a3 a4 a5
  go_wp2
  go_returns
  exact ⟨rfl, by (repeat' first | (with_reducible first | exact Below.refl _ _ | assumption | refine Later.belowOf _ ?_ ?_ | refine Below.alloc ?_ ?_ _ | refine Below.setCell ?_ ?_ _ | refine Below.drewN' _ ?_ | refine Below.drew ?_ | exact Ge.le) | go_size)⟩

set_option maxHeartbeats 8000000 in
set_option maxRecDepth 100000 in
theorem turn_core (v q X k h1 h2 pv1 pv2 pk1 pk2 m1 m2 r1 r2 s1 s2 g1 g2 t1 t2 e70 a1 a2 z1 z2 y1 y2 pi1 pi2 ph1 ph2 : Nat) (ki on : Int)
    (q1a : ∀ w, fop .quo v 4609753056924675352 w = q) (q1b : nd .quo v 4609753056924675352 = 0) (q2a : ∀ w, fop .add q 4602678819172646912 w = X) (q2b : nd .add q 4602678819172646912 = 0)
    (cv : ∀ w, (convert 22 3 (.float .f64 k)).run Tryz.prog w = .ok (.int .i64 ki) w) (FC : Gives 165 #[(.float .f64 X)] (.float .f64 k)) (b1 : -1001 ≤ ki) (b2 : ki ≤ 1001) (o1 : 0 ≤ on) (o2 : on ≤ 1)
    (PI : Gives 36 #[] (.agg #[.float .f64 pi1, .float .f64 pi2])) (PH : Gives 53 #[(.float .f64 4602678819172646912)] (.agg #[.float .f64 ph1, .float .f64 ph2])) (MQ : Gives 166 #[(.agg #[.float .f64 pi1, .float .f64 pi2]), (.agg #[.float .f64 ph1, .float .f64 ph2])] (.agg #[.float .f64 h1, .float .f64 h2]))
    (PV : Gives 53 #[(.float .f64 v)] (.agg #[.float .f64 pv1, .float .f64 pv2])) (PK : Gives 53 #[(.float .f64 k)] (.agg #[.float .f64 pk1, .float .f64 pk2])) (MK : Gives 166 #[(.agg #[.float .f64 pk1, .float .f64 pk2]), (.agg #[.float .f64 h1, .float .f64 h2])] (.agg #[.float .f64 m1, .float .f64 m2])) (SB : Gives 117 #[(.agg #[.float .f64 pv1, .float .f64 pv2]), (.agg #[.float .f64 m1, .float .f64 m2])] (.agg #[.float .f64 r1, .float .f64 r2]))
    (SQ : Gives 175 #[(.agg #[.float .f64 r1, .float .f64 r2])] (.agg #[.float .f64 s1, .float .f64 s2])) (NG : Gives 118 #[(.agg #[.float .f64 s1, .float .f64 s2])] (.agg #[.float .f64 g1, .float .f64 g2])) (odd : Int)
    (SR : ∀ (b c : Nat) (W : World), Box W b (g1, g2) → BoxI W c odd → Calls Tryz.prog 167 #[.int .i64 11, .func (.func 254) #[] #[.pointer (some ⟨b, 0, none⟩), .pointer (some ⟨c, 0, none⟩)]] W fun e w' => ∃ q : Later W, e = .returned (.agg #[.float .f64 t1, .float .f64 t2]) ∧ w' = q.val)
    (L70 : Gives 170 #[(.float .f64 4607182418800017408), .int .i64 (-70)] (.float .f64 e70)) (A70 : Gives 169 #[(.agg #[.float .f64 t1, .float .f64 t2]), (.float .f64 e70)] (.agg #[.float .f64 a1, .float .f64 a2]))
    (hodd : ((ki + on).tmod 2 = 0 ∧ odd = 1 ∧ Gives 166 #[(.agg #[.float .f64 a1, .float .f64 a2]), (.agg #[.float .f64 r1, .float .f64 r2])] (.agg #[.float .f64 z1, .float .f64 z2])) ∨ (¬ (ki + on).tmod 2 = 0 ∧ odd = 0 ∧ a1 = z1 ∧ a2 = z2))
    (hneg : (bits BinOp.and IntKind.i64 (ki + on) 2 = 0 ∧ z1 = y1 ∧ z2 = y2) ∨ (¬ bits BinOp.and IntKind.i64 (ki + on) 2 = 0 ∧ Gives 118 #[(.agg #[.float .f64 z1, .float .f64 z2])] (.agg #[.float .f64 y1, .float .f64 y2]))) :
    Gives 184 #[(.float .f64 v), .int .i64 on] (.agg #[.float .f64 y1, .float .f64 y2]) := by
  intro w
  go_enter Tryz.func184, Tryz.ntmps184
  go_wp2_with (first
    | (go_at_call 165; (with_reducible refine (FC.go _).mono ?_); rintro _ _ ⟨n, rfl, rfl⟩)
    | (go_at_call 36; (with_reducible refine (PI.go _).mono ?_); rintro _ _ ⟨n, rfl, rfl⟩)
    | (go_at_call 53; (with_reducible refine (PH.go _).mono ?_); rintro _ _ ⟨n, rfl, rfl⟩)
    | (go_at_call 166; (with_reducible refine (MQ.go _).mono ?_); rintro _ _ ⟨n, rfl, rfl⟩))
  refine cut_world (fun W hW => ?_)
  have HW := Lib.hid hW
  have cw0 : W.cell? ⟨n.val.heap.size, 0, none⟩ = some (.float .f64 h1) := by rw [← hW]; simp [go_sem]
  have cw1 : W.cell? ⟨n.val.heap.size, 1, none⟩ = some (.float .f64 h2) := by rw [← hW]; simp [go_sem]
  have hB : Below w.heap.size w W := by rw [← hW]; (repeat' first | (with_reducible first | exact Below.refl _ _ | assumption | refine Later.belowOf _ ?_ ?_ | refine Below.alloc ?_ ?_ _ | refine Below.setCell ?_ ?_ _ | refine Below.drewN' _ ?_ | refine Below.drew ?_ | exact Ge.le) | go_size)
  haveI gn : Ge W (n.val.heap.size + 1) := ⟨World.block_lt_of_cell? W _ cw0⟩
  have bw : Box W w.heap.size (0, 0) := (Box.new w 0 0).below (by rw [← hW]; (repeat' first | (with_reducible first | exact Below.refl _ _ | assumption | refine Later.belowOf _ ?_ ?_ | refine Below.alloc ?_ ?_ _ | refine Below.setCell ?_ ?_ _ | refine Below.drewN' _ ?_ | refine Below.drew ?_ | exact Ge.le) | go_size))
  clear hW
  go_cut [7] (fun v wc => ∃ (B : Nat) (q : Later W), v = .pointer (some ⟨B, 0, none⟩) ∧ wc = q.val ∧ Box wc B (r1, r2))
  case first =>
    clear hodd hneg SR
    go_region_held3 (fun w' => w'.cell? ⟨n.val.heap.size, 0, none⟩ = some (.float .f64 h1) ∧ w'.cell? ⟨n.val.heap.size, 1, none⟩ = some (.float .f64 h2))
      (first | (go_simp; done) | go_keep)
      ((first | (go_at_call 53; first | ((with_reducible refine (PV.go _).mono ?_); rintro _ _ ⟨nn, rfl, rfl⟩) | ((with_reducible refine (PK.go _).mono ?_); rintro _ _ ⟨nn, rfl, rfl⟩)) | (go_at_call 166; (with_reducible refine (MK.go _).mono ?_); rintro _ _ ⟨nn, rfl, rfl⟩) | (go_at_call 117; (with_reducible refine (SB.go _).mono ?_); rintro _ _ ⟨nn, rfl, rfl⟩)))
    all_goals
      rename_i hHeld
      clear hHeld
      go_wp2
      go_meet
      case rel =>
        refine cut_box ?_ ?_
        · (repeat' first | (with_reducible first | exact Below.refl _ _ | assumption | refine Later.belowOf _ ?_ ?_ | refine Below.alloc ?_ ?_ _ | refine Below.setCell ?_ ?_ _ | refine Below.drewN' _ ?_ | refine Below.drew ?_ | exact Ge.le) | go_size)
        · first | exact Box.new _ _ _ | exact Box.set ((Box.new _ 0 0).below (by (repeat' first | (with_reducible first | exact Below.refl _ _ | assumption | refine Later.belowOf _ ?_ ?_ | refine Below.alloc ?_ ?_ _ | refine Below.setCell ?_ ?_ _ | refine Below.drewN' _ ?_ | refine Below.drew ?_ | exact Ge.le) | go_size))) _ _
  obtain ⟨B, q, rfl, rfl, hx⟩ := hcut
  have c0 := hx.c0
  have c1 := hx.c1
  haveI gq : Ge q.val (B + 1) := ⟨hx.lt⟩
  have hB2 : Below w.heap.size w q.val := hB.trans (q.below.mono hB.size)
  haveI gw : Ge q.val w.heap.size := ⟨hB2.size⟩
  haveI gw1 : Ge q.val (w.heap.size + 1) := ⟨(bw.later q).lt⟩
  have bq := bw.later q
  clear bw hB HW cw0 cw1 q1a q1b q2a q2b FC PI PH MQ PV PK MK SB
  rcases hodd with ⟨h0, rfl, MZ⟩ | ⟨h0, rfl, rfl, rfl⟩
  · have h0' : ((ki + on).tmod 2 == 0) = true := by rw [h0]; rfl
    go_wp2_with (first
      | (go_at_call 175; (with_reducible refine (SQ.go _).mono ?_); rintro _ _ ⟨n1, rfl, rfl⟩)
      | (go_at_call 118; (with_reducible refine (NG.go _).mono ?_); rintro _ _ ⟨n2, rfl, rfl⟩)
      | (go_at_call 167; (with_reducible refine (SR _ _ _ ((Box.new _ _ _).alloc _) (boxI_at _ _ _)).mono ?_); rintro _ _ ⟨n3, rfl, rfl⟩))
    (refine wp_region_tail_later 3 (by kernel_rfl) (by kernel_rfl) ?_; simp only [List.take_succ_cons, List.take_zero, List.drop_succ_cons, List.drop_zero])
    repeat (go_big_quiet_step (first | (go_at_call 170; (with_reducible exact L70.later _)) | (go_at_call 169; (with_reducible exact A70.later _))))
    (refine wpQuiet_nil ?_; rintro _ ⟨nq, rfl⟩)
    go_upto_region 10 with (fail)
    have l1 := n1.below.size
    have l2 := n2.below.size
    have l3 := n3.below.size
    have l4 := nq.below.size
    simp only [World.size_alloc] at l3 l4
    have gB := gq.le
    have gW := gw1.le
    have bs : Box nq.val n3.val.heap.size (t1, t2) := (Box.new n3.val t1 t2).below (by (repeat' first | (with_reducible first | exact Below.refl _ _ | assumption | refine Later.belowOf _ ?_ ?_ | refine Below.alloc ?_ ?_ _ | refine Below.setCell ?_ ?_ _ | refine Below.drewN' _ ?_ | refine Below.drew ?_ | exact Ge.le) | go_size))
    have bi : BoxI nq.val (n2.val.heap.size + 1) 1 := (boxI_at n2.val _ 1).below (by (repeat' first | (with_reducible first | exact Below.refl _ _ | assumption | refine Later.belowOf _ ?_ ?_ | refine Below.alloc ?_ ?_ _ | refine Below.setCell ?_ ?_ _ | refine Below.drewN' _ ?_ | refine Below.drew ?_ | exact Ge.le) | go_size))
    have bb : Box nq.val B (r1, r2) := hx.below (by (repeat' first | (with_reducible first | exact Below.refl _ _ | assumption | refine Later.belowOf _ ?_ ?_ | refine Below.alloc ?_ ?_ _ | refine Below.setCell ?_ ?_ _ | refine Below.drewN' _ ?_ | refine Below.drew ?_ | exact Ge.le) | go_size))
    have bo : Box nq.val w.heap.size (0, 0) := bq.below (by (repeat' first | (with_reducible first | exact Below.refl _ _ | assumption | refine Later.belowOf _ ?_ ?_ | refine Below.alloc ?_ ?_ _ | refine Below.setCell ?_ ?_ _ | refine Below.drewN' _ ?_ | refine Below.drew ?_ | exact Ge.le) | go_size))
    refine cut_world (fun W2 hW2 => ?_)
    have b2 : Box W2 n3.val.heap.size (a1, a2) := by rw [← hW2]; exact bs.set _ _
    have bi2 : BoxI W2 (n2.val.heap.size + 1) 1 := by rw [← hW2]; exact (bi.set_other _ (by show n3.val.heap.size ≠ _; omega)).set_other _ (by show n3.val.heap.size ≠ _; omega)
    have bb2 : Box W2 B (r1, r2) := by rw [← hW2]; exact (bb.set_other _ (by show n3.val.heap.size ≠ _; omega)).set_other _ (by show n3.val.heap.size ≠ _; omega)
    have bo2 : Box W2 w.heap.size (0, 0) := by rw [← hW2]; exact (bo.set_other _ (by show n3.val.heap.size ≠ _; omega)).set_other _ (by show n3.val.heap.size ≠ _; omega)
    have hB3 : Below w.heap.size w W2 := by rw [← hW2]; (repeat' first | (with_reducible first | exact Below.refl _ _ | assumption | refine Later.belowOf _ ?_ ?_ | refine Below.alloc ?_ ?_ _ | refine Below.setCell ?_ ?_ _ | refine Below.drewN' _ ?_ | refine Below.drew ?_ | exact Ge.le) | go_size)
    have ne3 : n3.val.heap.size ≠ w.heap.size := by omega
    clear hW2 bs bi bb bo SQ NG SR L70 A70 l1 l2 l3 l4 gB gW c0 c1
    haveI g1 : Ge W2 (n3.val.heap.size + 1) := ⟨b2.lt⟩
    haveI g2 : Ge W2 (B + 1) := ⟨bb2.lt⟩
    haveI g3 : Ge W2 w.heap.size := ⟨hB3.size⟩
    haveI g4 : Ge W2 (w.heap.size + 1) := ⟨bo2.lt⟩
    have c0 := b2.c0
    have c1 := b2.c1
    have c2 := bi2.c0
    have c3 := bb2.c0
    have c4 := bb2.c1
    have f0 := b2.f0
    have f1 := b2.f1
    go_upto_region 12 with (go_at_call 166; (with_reducible refine (MZ.go _).mono ?_); rintro _ _ ⟨n5, rfl, rfl⟩)
    refine cut_world (fun W3 hW3 => ?_)
    have b3 : Box W3 n3.val.heap.size (z1, z2) := by rw [← hW3]; exact (b2.later n5).set _ _
    have bo3 : Box W3 w.heap.size (0, 0) := by rw [← hW3]; exact ((bo2.later n5).set_other _ ne3).set_other _ ne3
    have hB4 : Below w.heap.size w W3 := by rw [← hW3]; (repeat' first | (with_reducible first | exact Below.refl _ _ | assumption | refine Later.belowOf _ ?_ ?_ | refine Below.alloc ?_ ?_ _ | refine Below.setCell ?_ ?_ _ | refine Below.drewN' _ ?_ | refine Below.drew ?_ | exact Ge.le) | go_size)
    clear hW3 c0 c1 c2 c3 c4 f0 f1
    have c0 := b3.c0
    have c1 := b3.c1
    have f0 := b3.f0
    have f1 := b3.f1
    rcases hneg with ⟨h5, rfl, rfl⟩ | ⟨h5, NZ⟩
    · have d0 := bo3.c0
      have d1 := bo3.c1
      have e0 := bo3.f0
      have e1 := bo3.f1
      go_wp2
      exact bodyPost_ret (v := (.agg #[.float .f64 z1, .float .f64 z2])) (by simp [results, Tryz.results184, go_sem, bo3.set0, bo3.set1]) rfl ⟨rfl, by (repeat' first | (with_reducible first | exact Below.refl _ _ | assumption | refine Later.belowOf _ ?_ ?_ | refine Below.alloc ?_ ?_ _ | refine Below.setCell ?_ ?_ _ | refine Below.drewN' _ ?_ | refine Below.drew ?_ | exact Ge.le) | go_size)⟩
    · haveI g5 : Ge W3 (n3.val.heap.size + 1) := ⟨b3.lt⟩
      haveI g7 : Ge W3 w.heap.size := ⟨hB4.size⟩
      go_upto_region 14 with (go_at_call 118; (with_reducible refine (NZ.go _).mono ?_); rintro _ _ ⟨n6, rfl, rfl⟩)
      have b6 : Box n6.val w.heap.size (0, 0) := bo3.later n6
      refine cut_world (fun W4 hW4 => ?_)
      have b4 : Box W4 n3.val.heap.size (y1, y2) := by rw [← hW4]; exact (b3.later n6).set _ _
      have bo4 : Box W4 w.heap.size (0, 0) := by rw [← hW4]; exact (b6.set_other _ ne3).set_other _ ne3
      have hB5 : Below w.heap.size w W4 := by rw [← hW4]; (repeat' first | (with_reducible first | exact Below.refl _ _ | assumption | refine Later.belowOf _ ?_ ?_ | refine Below.alloc ?_ ?_ _ | refine Below.setCell ?_ ?_ _ | refine Below.drewN' _ ?_ | refine Below.drew ?_ | exact Ge.le) | go_size)
      clear hW4 c0 c1 f0 f1
      have c0 := b4.c0
      have c1 := b4.c1
      have d0 := bo4.c0
      have d1 := bo4.c1
      have e0 := bo4.f0
      have e1 := bo4.f1
      go_wp2
      exact bodyPost_ret (v := (.agg #[.float .f64 y1, .float .f64 y2])) (by simp [results, Tryz.results184, go_sem, bo4.set0, bo4.set1]) rfl ⟨rfl, by (repeat' first | (with_reducible first | exact Below.refl _ _ | assumption | refine Later.belowOf _ ?_ ?_ | refine Below.alloc ?_ ?_ _ | refine Below.setCell ?_ ?_ _ | refine Below.drewN' _ ?_ | refine Below.drew ?_ | exact Ge.le) | go_size)⟩
  · have h0' : ((ki + on).tmod 2 == 0) = false := by rw [beq_eq_false_iff_ne]; exact h0
    go_wp2_with (first
      | (go_at_call 175; (with_reducible refine (SQ.go _).mono ?_); rintro _ _ ⟨n1, rfl, rfl⟩)
      | (go_at_call 118; (with_reducible refine (NG.go _).mono ?_); rintro _ _ ⟨n2, rfl, rfl⟩)
      | (go_at_call 167; (with_reducible refine (SR _ _ _ ((Box.new _ _ _).alloc _) (boxI_at _ _ _)).mono ?_); rintro _ _ ⟨n3, rfl, rfl⟩))
    (refine wp_region_tail_later 3 (by kernel_rfl) (by kernel_rfl) ?_; simp only [List.take_succ_cons, List.take_zero, List.drop_succ_cons, List.drop_zero])
    repeat (go_big_quiet_step (first | (go_at_call 170; (with_reducible exact L70.later _)) | (go_at_call 169; (with_reducible exact A70.later _))))
    (refine wpQuiet_nil ?_; rintro _ ⟨nq, rfl⟩)
    go_upto_region 10 with (fail)
    have l1 := n1.below.size
    have l2 := n2.below.size
    have l3 := n3.below.size
    have l4 := nq.below.size
    simp only [World.size_alloc] at l3 l4
    have gB := gq.le
    have gW := gw1.le
    have bs : Box nq.val n3.val.heap.size (t1, t2) := (Box.new n3.val t1 t2).below (by (repeat' first | (with_reducible first | exact Below.refl _ _ | assumption | refine Later.belowOf _ ?_ ?_ | refine Below.alloc ?_ ?_ _ | refine Below.setCell ?_ ?_ _ | refine Below.drewN' _ ?_ | refine Below.drew ?_ | exact Ge.le) | go_size))
    have bi : BoxI nq.val (n2.val.heap.size + 1) 0 := (boxI_at n2.val _ 0).below (by (repeat' first | (with_reducible first | exact Below.refl _ _ | assumption | refine Later.belowOf _ ?_ ?_ | refine Below.alloc ?_ ?_ _ | refine Below.setCell ?_ ?_ _ | refine Below.drewN' _ ?_ | refine Below.drew ?_ | exact Ge.le) | go_size))
    have bb : Box nq.val B (r1, r2) := hx.below (by (repeat' first | (with_reducible first | exact Below.refl _ _ | assumption | refine Later.belowOf _ ?_ ?_ | refine Below.alloc ?_ ?_ _ | refine Below.setCell ?_ ?_ _ | refine Below.drewN' _ ?_ | refine Below.drew ?_ | exact Ge.le) | go_size))
    have bo : Box nq.val w.heap.size (0, 0) := bq.below (by (repeat' first | (with_reducible first | exact Below.refl _ _ | assumption | refine Later.belowOf _ ?_ ?_ | refine Below.alloc ?_ ?_ _ | refine Below.setCell ?_ ?_ _ | refine Below.drewN' _ ?_ | refine Below.drew ?_ | exact Ge.le) | go_size))
    refine cut_world (fun W2 hW2 => ?_)
    have b2 : Box W2 n3.val.heap.size (a1, a2) := by rw [← hW2]; exact bs.set _ _
    have bi2 : BoxI W2 (n2.val.heap.size + 1) 0 := by rw [← hW2]; exact (bi.set_other _ (by show n3.val.heap.size ≠ _; omega)).set_other _ (by show n3.val.heap.size ≠ _; omega)
    have bb2 : Box W2 B (r1, r2) := by rw [← hW2]; exact (bb.set_other _ (by show n3.val.heap.size ≠ _; omega)).set_other _ (by show n3.val.heap.size ≠ _; omega)
    have bo2 : Box W2 w.heap.size (0, 0) := by rw [← hW2]; exact (bo.set_other _ (by show n3.val.heap.size ≠ _; omega)).set_other _ (by show n3.val.heap.size ≠ _; omega)
    have hB3 : Below w.heap.size w W2 := by rw [← hW2]; (repeat' first | (with_reducible first | exact Below.refl _ _ | assumption | refine Later.belowOf _ ?_ ?_ | refine Below.alloc ?_ ?_ _ | refine Below.setCell ?_ ?_ _ | refine Below.drewN' _ ?_ | refine Below.drew ?_ | exact Ge.le) | go_size)
    have ne3 : n3.val.heap.size ≠ w.heap.size := by omega
    clear hW2 bs bi bb bo SQ NG SR L70 A70 l1 l2 l3 l4 gB gW c0 c1
    haveI g1 : Ge W2 (n3.val.heap.size + 1) := ⟨b2.lt⟩
    haveI g2 : Ge W2 (B + 1) := ⟨bb2.lt⟩
    haveI g3 : Ge W2 w.heap.size := ⟨hB3.size⟩
    haveI g4 : Ge W2 (w.heap.size + 1) := ⟨bo2.lt⟩
    have c0 := b2.c0
    have c1 := b2.c1
    have c2 := bi2.c0
    have c3 := bb2.c0
    have c4 := bb2.c1
    have f0 := b2.f0
    have f1 := b2.f1
    go_upto_region 12 with (fail)
    clear c0 c1 c2 c3 c4 f0 f1
    have b3 := b2
    have bo3 := bo2
    have hB4 := hB3
    have c0 := b3.c0
    have c1 := b3.c1
    have f0 := b3.f0
    have f1 := b3.f1
    rcases hneg with ⟨h5, rfl, rfl⟩ | ⟨h5, NZ⟩
    · have d0 := bo3.c0
      have d1 := bo3.c1
      have e0 := bo3.f0
      have e1 := bo3.f1
      go_wp2
      exact bodyPost_ret (v := (.agg #[.float .f64 a1, .float .f64 a2])) (by simp [results, Tryz.results184, go_sem, bo3.set0, bo3.set1]) rfl ⟨rfl, by (repeat' first | (with_reducible first | exact Below.refl _ _ | assumption | refine Later.belowOf _ ?_ ?_ | refine Below.alloc ?_ ?_ _ | refine Below.setCell ?_ ?_ _ | refine Below.drewN' _ ?_ | refine Below.drew ?_ | exact Ge.le) | go_size)⟩
    · haveI g5 : Ge W2 (n3.val.heap.size + 1) := ⟨b3.lt⟩
      haveI g7 : Ge W2 w.heap.size := ⟨hB4.size⟩
      go_upto_region 14 with (go_at_call 118; (with_reducible refine (NZ.go _).mono ?_); rintro _ _ ⟨n6, rfl, rfl⟩)
      have b6 : Box n6.val w.heap.size (0, 0) := bo3.later n6
      refine cut_world (fun W4 hW4 => ?_)
      have b4 : Box W4 n3.val.heap.size (y1, y2) := by rw [← hW4]; exact (b3.later n6).set _ _
      have bo4 : Box W4 w.heap.size (0, 0) := by rw [← hW4]; exact (b6.set_other _ ne3).set_other _ ne3
      have hB5 : Below w.heap.size w W4 := by rw [← hW4]; (repeat' first | (with_reducible first | exact Below.refl _ _ | assumption | refine Later.belowOf _ ?_ ?_ | refine Below.alloc ?_ ?_ _ | refine Below.setCell ?_ ?_ _ | refine Below.drewN' _ ?_ | refine Below.drew ?_ | exact Ge.le) | go_size)
      clear hW4 c0 c1 f0 f1
      have c0 := b4.c0
      have c1 := b4.c1
      have d0 := bo4.c0
      have d1 := bo4.c1
      have e0 := bo4.f0
      have e1 := bo4.f1
      go_wp2
      exact bodyPost_ret (v := (.agg #[.float .f64 y1, .float .f64 y2])) (by simp [results, Tryz.results184, go_sem, bo4.set0, bo4.set1]) rfl ⟨rfl, by (repeat' first | (with_reducible first | exact Below.refl _ _ | assumption | refine Later.belowOf _ ?_ ?_ | refine Below.alloc ?_ ?_ _ | refine Below.setCell ?_ ?_ _ | refine Below.drewN' _ ?_ | refine Below.drew ?_ | exact Ge.le) | go_size)⟩
end Go.Proofs.YtkmgfbhnioojhaaGreat

/- Contracts: the sine and the cosine of an interval. -/
namespace Go.Proofs.YtkmgfbhnioojhaaGreat
set_option linter.unusedSimpArgs false
set_option linter.unusedVariables false
open Go.RowKit
open Fl

theorem lt_turnS {q : Nat × Nat} {odd : Int} : Lt (turnS q odd) := lt_around (lt_ser (fun i => lt_div) _ (lt_whole 1)) (ldx_lt _)
theorem lt_turnR {v : Nat} (hv : v < 18446744073709551616) (hk : nearF v 4609753056924675352 < 18446744073709551616) : Lt (turnR v) := lt_sub (lt_pt hv) (lt_mul (lt_pt hk) lt_turnQ)
theorem lt_turnU {r : Nat × Nat} (hr : Lt r) (j : Int) : Lt (turnU r j) := by
  unfold turnU; split
  · exact lt_mul lt_turnS hr
  · exact lt_turnS
theorem lt_turnV {v : Nat} (hv : v < 18446744073709551616) (hk : nearF v 4609753056924675352 < 18446744073709551616) (on : Int) : Lt (turnV v on) := by
  unfold turnV; split
  · exact lt_turnU (lt_turnR hv hk) _
  · exact lt_neg (lt_turnU (lt_turnR hv hk) _)

theorem turn_c {v : Nat} (hv : v < 18446744073709551616) (nv : nan v = false) (h1 : idx v ≤ 4652007308841189376) (h2 : -4652007308841189376 ≤ idx v) {on : Int} (o1 : 0 ≤ on) (o2 : on ≤ 1) :
    Gives 184 #[(.float .f64 v), .int .i64 on] (.agg #[.float .f64 ((turnV v on).1), .float .f64 ((turnV v on).2)]) := by
  obtain ⟨q1, q2, q3, q4, q5, q6, q7, q8⟩ := near_quarter nv h1 h2
  obtain ⟨q1a, q1b⟩ := op_val q1
  obtain ⟨q2a, q2b⟩ := op_val q2
  have lr := lt_turnR hv q5
  have lq := lt_neg (lt_sqr (x := turnR v))
  have L70 := ldexp_one (-70) (by omega) (by omega)
  have A70 := fun {x : Nat × Nat} (h : Lt x) => around_c h (ldx_lt (-70))
  obtain ⟨odd, hodd, p1, p2⟩ : ∃ odd : Int, odd = (if (nearI v 4609753056924675352 + on).tmod 2 = 0 then 1 else 0) ∧ 0 ≤ odd ∧ odd ≤ 1 := ⟨_, rfl, by split <;> omega, by split <;> omega⟩
  have hF : ∀ i, Lt ((fun i : Int => divP (negP (sqrP (turnR v))) (wholeP ((2 * i - 1 + odd) * (2 * i + odd)))) i) := fun i => lt_div
  have lt := lt_ser hF 11 (lt_whole 1)
  have la := lt_around lt (ldx_lt (-70))
  have C := turn_core v _ _ _ _ _ _ _ _ _ _ _ (turnR v).1 (turnR v).2 _ _ _ _ _ _ _ _ _ (turnU (turnR v) (nearI v 4609753056924675352 + on)).1 (turnU (turnR v) (nearI v 4609753056924675352 + on)).2 (turnV v on).1 (turnV v on).2 _ _ _ _ (nearI v 4609753056924675352) on q1a q1b q2a q2b (cv_int q8) (floor_c q3) (by omega) (by omega) o1 o2
    pi_p (ptC (by decide)) (mulC lt_pi (lt_pt (by decide))) (ptC hv) (ptC q5) (mulC (lt_pt q5) lt_turnQ) (subC (lt_pt hv) (lt_mul (lt_pt q5) lt_turnQ)) (sqrC lr) (negC lt_sqr) odd
    (fun b c W hb hi => series_n 11 11 rfl (by decide) hF (turn1_c lq p1 p2 b c W hb hi) rfl) L70 (A70 lt)
  refine C ?_ ?_
  · unfold turnU turnS
    by_cases h : (nearI v 4609753056924675352 + on).tmod 2 = 0
    · rw [if_pos h] at hodd
      subst hodd
      simp only [if_pos h]
      exact Or.inl ⟨h, trivial, mulC la lr⟩
    · rw [if_neg h] at hodd
      subst hodd
      simp only [if_neg h]
      exact Or.inr ⟨h, trivial, trivial, trivial⟩
  · unfold turnV
    by_cases h : bits BinOp.and IntKind.i64 (nearI v 4609753056924675352 + on) 2 = 0
    · simp only [if_pos h]
      exact Or.inl ⟨h, trivial, trivial⟩
    · simp only [if_neg h]
      exact Or.inr ⟨h, negC (lt_turnU lr _)⟩

/-! ### The range -/
theorem ofI_rung {n : Int} (h1 : -100000 ≤ n) (h2 : n ≤ 100000) : rung (floatOfInt .f64 n) < INFR := by
  rw [foi', rung_word _ (Nat.lt_of_le_of_lt (rungOf_le _ _ _) (by decide))]
  obtain ⟨r, r1, r2⟩ := whole_rung (q := n.natAbs) (by omega)
  rw [← r2, rungOf_exact1 r1]
  exact r1
theorem ends_1000 {x : Nat × Nat} (hx : Lt x) (h : noneB x.1 x.2 = false) (hm : flt 4652007308841189376 (magI x.1 x.2) = false) :
    (idx x.1 ≤ 4652007308841189376 ∧ -4652007308841189376 ≤ idx x.1) ∧ (idx x.2 ≤ 4652007308841189376 ∧ -4652007308841189376 ≤ idx x.2) := by
  obtain ⟨n1, n2⟩ := nums_of h
  have e : magI x.1 x.2 = maxF (rung x.1) (rung x.2) := by unfold magI; rw [h]; rfl
  rw [e] at hm
  have m1 : nan (rung x.1) = false := by rw [nan_rung]; exact n1
  have m2 : nan (rung x.2) = false := by rw [nan_rung]; exact n2
  have i : idx (maxF (rung x.1) (rung x.2)) ≤ 4652007308841189376 := by
    have hn : nan (maxF (rung x.1) (rung x.2)) = false := by unfold maxF; split <;> assumption
    rcases Int.lt_or_le 4652007308841189376 (idx (maxF (rung x.1) (rung x.2))) with hh | hh
    · rw [flt_true.2 ⟨by decide, hn, by rw [show idx 4652007308841189376 = 4652007308841189376 by decide]; exact hh⟩] at hm
      cases hm
    · exact hh
  rw [maxF_idx m1 m2, idx_rung, idx_rung] at i
  have a1 : -(rung x.1 : Int) ≤ idx x.1 ∧ idx x.1 ≤ rung x.1 := by unfold idx; split <;> omega
  have a2 : -(rung x.2 : Int) ≤ idx x.2 ∧ idx x.2 ≤ rung x.2 := by unfold idx; split <;> omega
  omega

theorem G_1002 : G 4652024901027233792 = 1002 * pw 1074 := by
  rw [G_at_num (K := 1031) (m := 4310085580881920) (by decide) (by decide), pw_split (show 1074 = 1031 + 43 by decide)]
  rw [show 1002 * (pw 1031 * 2 ^ 43) = (1002 * 2 ^ 43) * pw 1031 by ac_rfl]
theorem G_2 : G 4611686018427387904 = 2 * pw 1074 := by
  rw [G_at_num (K := 1023) (m := 0) (by decide) (by decide), pw_split (show 1074 = 1023 + 51 by decide)]
  rw [show 2 * (pw 1023 * 2 ^ 51) = (2 * 2 ^ 51) * pw 1023 by ac_rfl]
theorem G_arc : G 4609752623107357750 = 7073803934710838 * pw 1022 := G_at_num (K := 1022) (m := 2570204307340342) (by decide) (by decide)

theorem round_end {h : Nat} (nh : nan h = false) (h1 : idx h ≤ 4652007308841189376) (h2 : -4652007308841189376 ≤ idx h) : roundC h 1700 = false := by
  unfold roundC
  rw [show (1700 : Int) - 1 = 1699 by decide]
  have r1 : rung h ≤ 4652007308841189376 := rung_small (by decide) nh (by omega) (by omega)
  have f1 : rung h < INFR := Nat.lt_of_le_of_lt r1 (by decide)
  have s1 : rung (fa h 4611686018427387904) ≤ 4652024901027233792 := by
    refine fa_small f1 (by decide) (by decide) ?_
    have := G_le r1
    rw [G_1000] at this
    rw [show rung 4611686018427387904 = 4611686018427387904 by decide, G_2, G_1002]
    omega
  have i1 : idx (fa h 4611686018427387904) ≤ 4652024901027233792 := by unfold idx; split <;> omega
  have i2 : 4652024901027233792 ≤ idx (fm (floatOfInt .f64 1699) 4609752623107357750) := by
    obtain ⟨r, r3, r4⟩ := whole_rung (q := 1699) (by decide)
    have e : floatOfInt .f64 1699 = r := by
      rw [foi', show (1699 : Int).natAbs = 1699 by decide, ← r4, rungOf_exact1 r3, show decide ((1699 : Int) < 0) = false by decide]
      rfl
    have hr : rung r = r := by unfold rung; exact Nat.mod_eq_of_lt (Nat.lt_trans r3 (by decide))
    have hs : sgn r = false := by unfold sgn; rw [Nat.div_eq_of_lt (Nat.lt_trans r3 (by decide))]; rfl
    rw [e, fm_eq (by rw [hr]; exact r3) (by decide), hr, hs, show sgn 4609752623107357750 = false by decide, show rung 4609752623107357750 = 4609752623107357750 by decide, r4, G_arc]
    have m := mono_same (N := G 4652024901027233792 * pw 1074) (M := 1699 * pw 1074 * (7073803934710838 * pw 1022)) (D := pw 1074) 0 (pw_pos _) (by
      rw [G_1002]
      have e1 : 1002 * pw 1074 * pw 1074 = 1002 * pw 1074 * (pw 1022 * 2 ^ 52) := congrArg (1002 * pw 1074 * ·) (pw_split (by decide))
      have e2 : 1002 * pw 1074 * (pw 1022 * 2 ^ 52) = 1002 * 2 ^ 52 * (pw 1074 * pw 1022) := by ac_rfl
      have e3 : 1699 * pw 1074 * (7073803934710838 * pw 1022) = 1699 * 7073803934710838 * (pw 1074 * pw 1022) := by ac_rfl
      rw [e1, e2, e3]
      exact Nat.mul_le_mul_right _ (by decide))
    rw [rungOf_exact (pw_pos _) (by decide)] at m
    have hl := rungOf_le (1699 * pw 1074 * (7073803934710838 * pw 1022)) (pw 1074) 0
    generalize rungOf (1699 * pw 1074 * (7073803934710838 * pw 1022)) (pw 1074) 0 = z at *
    have ez : (false ^^ false) = false := rfl
    rw [ez, idx_word _ (Nat.lt_of_le_of_lt hl (by decide))]
    simp only [Bool.false_eq_true, if_false]
    omega
  cases hc : flt (fm (floatOfInt .f64 1699) 4609752623107357750) (fa h 4611686018427387904)
  · rfl
  · have := (flt_true.1 hc).2.2
    omega

def RoundInv (w : World) (B : Nat) (x : Nat × Nat) (on : Int) (R : Nat × Nat) (i : Value) (wr : World) : Prop :=
  ∃ (n : Int) (out : Nat × Nat), i = .int .i64 n ∧ -2000 ≤ n ∧ n ≤ 1700 ∧ Lt out ∧ Box wr B out ∧ Box wr w.heap.size x ∧ Box wr (w.heap.size + 1) (0, 0) ∧ Box wr (w.heap.size + 2) unitP ∧ roundGo x on (1700 - n).toNat n out = R ∧ Below w.heap.size w wr

theorem round_stop {x out R : Nat × Nat} {on n : Int} (h : roundC x.2 n = false) (e : roundGo x on (1700 - n).toNat n out = R) : out = R := by
  cases hk : (1700 - n).toNat with
  | zero => rw [hk] at e; exact e
  | succ f =>
    rw [hk] at e
    unfold roundGo at e
    rw [if_neg (by rw [h]; exact Bool.false_ne_true)] at e
    exact e
theorem round_on {x out R : Nat × Nat} {on n : Int} (hn : n < 1700) (h : roundC x.2 n = true) (e : roundGo x on (1700 - n).toNat n out = R) : roundGo x on (1700 - (n + 1)).toNat (n + 1) (roundStep x on n out) = R := by
  rw [show (1700 - n).toNat = (1700 - (n + 1)).toNat + 1 by omega] at e
  unfold roundGo at e
  rw [if_pos h] at e
  exact e

set_option maxHeartbeats 1000000 in
theorem round_no (a b : Nat) (on : Int) (h : noneB a b = true) : Gives 105 #[(.agg #[.float .f64 a, .float .f64 b]), .int .i64 on] (.agg #[.float .f64 9218868437227405312, .float .f64 18442240474082181120]) := by
  intro w
  have R := right_any a b
  have h3 : rightB a b = false ∨ (rightB a b = true ∧ eqI a b 9218868437227405312 18442240474082181120 = true) := by
    unfold noneB at h
    rcases fot (rightB a b) with h1 | h1
    · exact Or.inl h1
    · rw [h1] at h; exact Or.inr ⟨h1, by simpa using h⟩
  clear h
  rcases h3 with h1 | ⟨h1, h2⟩
  all_goals
    rw [h1] at R
    go_enter Tryz.func105, Tryz.ntmps105
    go_wp2_with (fail)
    refine wp_region_later (by kernel_rfl) (by kernel_rfl) ?_
    repeat (go_big_quiet_step (first | (go_at_call 151; (with_reducible exact R.later _)) | (go_at_call 55; (with_reducible exact empty_any.later _))))
    (refine wpQuiet_nil ?_; rintro _ ⟨nq, rfl⟩)
    go_wp2_with (go_at_call 55; (with_reducible refine (empty_any.go _).mono ?_); rintro _ _ ⟨n, rfl, rfl⟩)
    go_returns
    exact ⟨rfl, by (repeat' first | (with_reducible first | exact Below.refl _ _ | assumption | refine Later.belowOf _ ?_ ?_ | refine Below.alloc ?_ ?_ _ | refine Below.setCell ?_ ?_ _ | refine Below.drewN' _ ?_ | refine Below.drew ?_ | exact Ge.le) | go_size)⟩

set_option maxHeartbeats 1000000 in
theorem round_wide (a b : Nat) (on : Int) (R : Gives 151 #[(.agg #[.float .f64 a, .float .f64 b])] (.bool true)) (he : eqI a b 9218868437227405312 18442240474082181120 = false) (m : Nat) (M : Gives 182 #[(.agg #[.float .f64 a, .float .f64 b])] (.float .f64 m)) (hm : flt 4652007308841189376 m = true) :
    Gives 105 #[(.agg #[.float .f64 a, .float .f64 b]), .int .i64 on] (.agg #[.float .f64 13830554455654793216, .float .f64 4607182418800017408]) := by
  intro w
  go_enter Tryz.func105, Tryz.ntmps105
  go_wp2_with (fail)
  refine wp_region_later (by kernel_rfl) (by kernel_rfl) ?_
  repeat (go_big_quiet_step (first | (go_at_call 151; (with_reducible exact R.later _)) | (go_at_call 55; (with_reducible exact empty_any.later _))))
  (refine wpQuiet_nil ?_; rintro _ ⟨nq, rfl⟩)
  go_wp2_with (go_at_call 182; (with_reducible refine (M.go _).mono ?_); rintro _ _ ⟨n, rfl, rfl⟩)
  go_returns
  exact ⟨rfl, by (repeat' first | (with_reducible first | exact Below.refl _ _ | assumption | refine Later.belowOf _ ?_ ?_ | refine Below.alloc ?_ ?_ _ | refine Below.setCell ?_ ?_ _ | refine Below.drewN' _ ?_ | refine Below.drew ?_ | exact Ge.le) | go_size)⟩
end Go.Proofs.YtkmgfbhnioojhaaGreat

/- Contracts: the sine and the cosine of an interval: the walk. -/
namespace Go.Proofs.YtkmgfbhnioojhaaGreat
set_option linter.unusedSimpArgs false
set_option linter.unusedVariables false
open Go.RowKit
open Fl

theorem eqI_fot (x : Nat × Nat) : eqI x.1 x.2 9218868437227405312 18442240474082181120 = false ∨ eqI x.1 x.2 9218868437227405312 18442240474082181120 = true := fot _

theorem cut_box2 {W wc : World} {B : Nat} {x : Nat × Nat} (hb : Below W.heap.size W wc) (hx : Box wc B x) (h : W.heap.size ≤ B) :
    ∃ (B' : Nat) (q : Later W), Value.pointer (some ⟨B, 0, none⟩) = .pointer (some ⟨B', 0, none⟩) ∧ wc = q.val ∧ Box wc B' x ∧ W.heap.size ≤ B' := ⟨B, ⟨wc, hb⟩, rfl, rfl, hx, h⟩

set_option maxHeartbeats 8000000 in
set_option maxRecDepth 100000 in
theorem round_core (x1 x2 t1 t2 u1 u2 h1 h2 qq k mg m1 m2 : Nat) (F on : Int) (R : Nat × Nat) (hx : Lt (x1, x2)) (RR : Gives 151 #[(.agg #[.float .f64 x1, .float .f64 x2])] (.bool true)) (he : eqI x1 x2 9218868437227405312 18442240474082181120 = false)
    (MG : Gives 182 #[(.agg #[.float .f64 x1, .float .f64 x2])] (.float .f64 mg)) (hm : flt 4652007308841189376 mg = false) (T1 : Gives 184 #[(.float .f64 x1), .int .i64 on] (.agg #[.float .f64 t1, .float .f64 t2])) (T2 : Gives 184 #[(.float .f64 x2), .int .i64 on] (.agg #[.float .f64 u1, .float .f64 u2]))
    (H0 : Gives 183 #[(.agg #[.float .f64 t1, .float .f64 t2]), (.agg #[.float .f64 u1, .float .f64 u2])] (.agg #[.float .f64 h1, .float .f64 h2])) (lh : Lt (h1, h2)) (q1a : ∀ w, fop .quo x1 4609753056924675352 w = qq) (q1b : nd .quo x1 4609753056924675352 = 0) (FC : Gives 165 #[(.float .f64 qq)] (.float .f64 k))
    (cv : ∀ w, (convert 22 3 (.float .f64 k)).run Tryz.prog w = .ok (.int .i64 F) w) (b1 : -1000 ≤ F) (b2 : F ≤ 1000) (o1 : 0 ≤ on) (o2 : on ≤ 1) (hend : roundC x2 1700 = false) (f2 : rung x2 < INFR)
    (hR : roundGo (x1, x2) on (1700 - (F - 1)).toNat (F - 1) (h1, h2) = R) (ME : Gives 54 #[(.agg #[.float .f64 R.1, .float .f64 R.2]), (.agg #[.float .f64 13830554455654793216, .float .f64 4607182418800017408])] (.agg #[.float .f64 m1, .float .f64 m2])) :
    Gives 105 #[(.agg #[.float .f64 x1, .float .f64 x2]), .int .i64 on] (.agg #[.float .f64 m1, .float .f64 m2]) := by
  intro w
  have HE := Lib.hid hend
  have HF2 := Lib.hid f2
  have HX := Lib.hid hx
  have HR := Lib.hid hR
  have HL := Lib.hid lh
  clear hend f2 hx hR lh
  go_enter Tryz.func105, Tryz.ntmps105
  go_wp2_with (fail)
  refine wp_region_later (by kernel_rfl) (by kernel_rfl) ?_
  repeat (go_big_quiet_step (first | (go_at_call 151; (with_reducible exact RR.later _)) | (go_at_call 55; (with_reducible exact empty_any.later _))))
  (refine wpQuiet_nil ?_; rintro _ ⟨nq, rfl⟩)
  go_wp2_with (go_at_call 182; (with_reducible refine (MG.go _).mono ?_); rintro _ _ ⟨n, rfl, rfl⟩)
  refine cut_world (fun W hW => ?_)
  have bx : Box W w.heap.size (x1, x2) := (Box.new w x1 x2).below (by rw [← hW]; (repeat' first | (with_reducible first | exact Below.refl _ _ | assumption | refine Later.belowOf _ ?_ ?_ | refine Below.alloc ?_ ?_ _ | refine Below.setCell ?_ ?_ _ | refine Below.drewN' _ ?_ | refine Below.drew ?_ | exact Ge.le) | go_size))
  have hs : (w.alloc (Obj.cells #[(.float .f64 x1), (.float .f64 x2)] 24)).heap.size = w.heap.size + 1 := by simp
  have bo : Box W (w.heap.size + 1) (0, 0) := by rw [← hs]; exact (Box.new (w.alloc (Obj.cells #[(.float .f64 x1), (.float .f64 x2)] 24)) 0 0).below (by rw [← hW]; (repeat' first | (with_reducible first | exact Below.refl _ _ | assumption | refine Later.belowOf _ ?_ ?_ | refine Below.alloc ?_ ?_ _ | refine Below.setCell ?_ ?_ _ | refine Below.drewN' _ ?_ | refine Below.drew ?_ | exact Ge.le) | go_size))
  have bu : Box W (w.heap.size + 2) unitP := by
    have e : ((w.alloc (Obj.cells #[(.float .f64 x1), (.float .f64 x2)] 24)).alloc (Obj.cells #[(.float .f64 0), (.float .f64 0)] 24)).heap.size = w.heap.size + 2 := by simp
    rw [← e]
    exact (Box.new ((w.alloc (Obj.cells #[(.float .f64 x1), (.float .f64 x2)] 24)).alloc (Obj.cells #[(.float .f64 0), (.float .f64 0)] 24)) 13830554455654793216 4607182418800017408).below (by rw [← hW]; (repeat' first | (with_reducible first | exact Below.refl _ _ | assumption | refine Later.belowOf _ ?_ ?_ | refine Below.alloc ?_ ?_ _ | refine Below.setCell ?_ ?_ _ | refine Below.drewN' _ ?_ | refine Below.drew ?_ | exact Ge.le) | go_size))
  have hB : Below w.heap.size w W := by rw [← hW]; (repeat' first | (with_reducible first | exact Below.refl _ _ | assumption | refine Later.belowOf _ ?_ ?_ | refine Below.alloc ?_ ?_ _ | refine Below.setCell ?_ ?_ _ | refine Below.drewN' _ ?_ | refine Below.drew ?_ | exact Ge.le) | go_size)
  have HW := Lib.hid hW
  clear hW hs
  have cw0 := bx.c0
  have cw1 := bx.c1
  haveI gn : Ge W (w.heap.size + 1) := ⟨bx.lt⟩
  haveI gn3 : Ge W (w.heap.size + 2 + 1) := ⟨bu.lt⟩
  go_cut [6] (fun v wc => ∃ (B : Nat) (q : Later W), v = .pointer (some ⟨B, 0, none⟩) ∧ wc = q.val ∧ Box wc B (h1, h2) ∧ W.heap.size ≤ B)
  case first =>
    go_region_held3 (fun w' => w'.cell? ⟨w.heap.size, 0, none⟩ = some (.float .f64 x1) ∧ w'.cell? ⟨w.heap.size, 1, none⟩ = some (.float .f64 x2))
      (first | (go_simp; done) | go_keep)
      ((first | (go_at_call 184; first | ((with_reducible refine (T1.go _).mono ?_); rintro _ _ ⟨nn, rfl, rfl⟩) | ((with_reducible refine (T2.go _).mono ?_); rintro _ _ ⟨nn, rfl, rfl⟩)) | (go_at_call 183; (with_reducible refine (H0.go _).mono ?_); rintro _ _ ⟨nn, rfl, rfl⟩)))
    all_goals
      rename_i hHeld
      clear hHeld
      go_wp2
      go_meet
      case rel =>
        refine cut_box2 ?_ ?_ ?_
        · (repeat' first | (with_reducible first | exact Below.refl _ _ | assumption | refine Later.belowOf _ ?_ ?_ | refine Below.alloc ?_ ?_ _ | refine Below.setCell ?_ ?_ _ | refine Below.drewN' _ ?_ | refine Below.drew ?_ | exact Ge.le) | go_size)
        · first | exact Box.new _ _ _ | exact Box.set ((Box.new _ 0 0).below (by (repeat' first | (with_reducible first | exact Below.refl _ _ | assumption | refine Later.belowOf _ ?_ ?_ | refine Below.alloc ?_ ?_ _ | refine Below.setCell ?_ ?_ _ | refine Below.drewN' _ ?_ | refine Below.drew ?_ | exact Ge.le) | go_size))) _ _
        · exact Ge.le
  obtain ⟨B, q, rfl, rfl, hx, hBW⟩ := hcut
  clear T1 T2 H0 MG RR
  have bx := bx.later q
  have bo := bo.later q
  have bu := bu.later q
  have hB2 : Below w.heap.size w q.val := hB.trans (q.below.mono hB.size)
  have hW3 := gn3.le
  haveI gw : Ge q.val w.heap.size := ⟨hB2.size⟩
  haveI gx : Ge q.val (w.heap.size + 1) := ⟨bx.lt⟩
  have HB := Lib.hid (show _ ∧ _ ∧ _ ∧ _ from ⟨bx, bo, bu, hx⟩)
  clear bx bo bu hx HW cw0 cw1 hB
  have cw0 := HB.out.1.c0
  have cw1 := HB.out.1.c1
  go_wp2_with (go_at_call 165; (with_reducible refine (FC.go _).mono ?_); rintro _ _ ⟨n9, rfl, rfl⟩)
  go_loopw [8] (fun i wr => RoundInv w B (x1, x2) on R i wr) (fun i _ => (1700 - intOf i).toNat)
  case atStart =>
    obtain ⟨bx, bo, bu, hx⟩ := HB.out
    exact ⟨F - 1, (h1, h2), rfl, by omega, by omega, HL.out, hx.below (by (repeat' first | (with_reducible first | exact Below.refl _ _ | assumption | refine Later.belowOf _ ?_ ?_ | refine Below.alloc ?_ ?_ _ | refine Below.setCell ?_ ?_ _ | refine Below.drewN' _ ?_ | refine Below.drew ?_ | exact Ge.le) | go_size)), bx.below (by (repeat' first | (with_reducible first | exact Below.refl _ _ | assumption | refine Later.belowOf _ ?_ ?_ | refine Below.alloc ?_ ?_ _ | refine Below.setCell ?_ ?_ _ | refine Below.drewN' _ ?_ | refine Below.drew ?_ | exact Ge.le) | go_size)), bo.below (by (repeat' first | (with_reducible first | exact Below.refl _ _ | assumption | refine Later.belowOf _ ?_ ?_ | refine Below.alloc ?_ ?_ _ | refine Below.setCell ?_ ?_ _ | refine Below.drewN' _ ?_ | refine Below.drew ?_ | exact Ge.le) | go_size)), bu.below (by (repeat' first | (with_reducible first | exact Below.refl _ _ | assumption | refine Later.belowOf _ ?_ ?_ | refine Below.alloc ?_ ?_ _ | refine Below.setCell ?_ ?_ _ | refine Below.drewN' _ ?_ | refine Below.drew ?_ | exact Ge.le) | go_size)), HR.out, by (repeat' first | (with_reducible first | exact Below.refl _ _ | assumption | refine Later.belowOf _ ?_ ?_ | refine Below.alloc ?_ ?_ _ | refine Below.setCell ?_ ?_ _ | refine Below.drewN' _ ?_ | refine Below.drew ?_ | exact Ge.le) | go_size)⟩
  case round =>
    obtain ⟨i, out, rfl, hi1, hi2, lo, bB, bx, bo, bu, hr, hbel⟩ := hrel
    have HS := Lib.hid hr
    clear hr
    have HQ := Lib.hid (show _ ∧ _ ∧ _ ∧ _ from ⟨bB, bx, bo, bu⟩)
    obtain ⟨m1', m2'⟩ := op_val (fm_some (ofI_rung (n := i - 1) (by omega) (by omega)) (show rung 4609752623107357750 < INFR by decide))
    obtain ⟨a1', a2'⟩ := op_val (fa_some HF2.out (show rung 4611686018427387904 < INFR by decide))
    haveI g1 : Ge wr (w.heap.size + 1) := ⟨bx.lt⟩
    haveI g2 : Ge wr (w.heap.size + 2 + 1) := ⟨bu.lt⟩
    haveI g3 : Ge wr (B + 1) := ⟨bB.lt⟩
    haveI g4 : Ge wr (w.heap.size + 1 + 1) := ⟨bo.lt⟩
    haveI g5 : Ge wr w.heap.size := ⟨hbel.size⟩
    have c0 := bx.c0
    have c1 := bx.c1
    rcases fot (roundC x2 i) with hc | hc
    · obtain rfl : out = R := round_stop (x := (x1, x2)) hc HS.out
      unfold roundC at hc
      have d0 := bB.c0
      have d1 := bB.c1
      have d2 := bu.c0
      have d3 := bu.c1
      have e0 := bo.c0
      have e1 := bo.c1
      have f0 := bo.f0
      have f1 := bo.f1
      simp only [unitP] at d2 d3
      clear bB bx bu
      generalize fm (floatOfInt .f64 (i - 1)) 4609752623107357750 = fm1 at *
      generalize fa x2 4611686018427387904 = fa1 at *
      go_wp2_with (go_at_call 54; (with_reducible refine (ME.go _).mono ?_); rintro _ _ ⟨n, rfl, rfl⟩)
      have b6 : Box n.val (w.heap.size + 1) (0, 0) := bo.below (by (repeat' first | (with_reducible first | exact Below.refl _ _ | assumption | refine Later.belowOf _ ?_ ?_ | refine Below.alloc ?_ ?_ _ | refine Below.setCell ?_ ?_ _ | refine Below.drewN' _ ?_ | refine Below.drew ?_ | exact Ge.le) | go_size))
      exact bodyPost_ret (v := (.agg #[.float .f64 m1, .float .f64 m2])) (by simp [results, Tryz.results105, go_sem, b6.set0, b6.set1]) rfl ⟨rfl, by (repeat' first | (with_reducible first | exact Below.refl _ _ | assumption | refine Later.belowOf _ ?_ ?_ | refine Below.alloc ?_ ?_ _ | refine Below.setCell ?_ ?_ _ | refine Below.drewN' _ ?_ | refine Below.drew ?_ | exact Ge.le) | go_size)⟩
    · have hi3 : i < 1700 := by
        rcases Int.lt_or_le i 1700 with h | h
        · exact h
        · obtain rfl : i = 1700 := by omega
          rw [HE.out] at hc; cases hc
      have HS2 := Lib.hid (round_on (x := (x1, x2)) hi3 hc HS.out)
      unfold roundC at hc
      have HC := Lib.hid (show _ ∧ _ from ⟨m1', a1'⟩)
      obtain ⟨st, hst⟩ : ∃ st, roundStep (x1, x2) on i out = st := ⟨_, rfl⟩
      have HST := Lib.hid hst
      have hst2 := hst
      clear hst
      unfold roundStep at hst2
      generalize fm (floatOfInt .f64 (i - 1)) 4609752623107357750 = fm1 at *
      generalize fa x2 4611686018427387904 = fa1 at *
      by_cases h0 : (i + on).tmod 2 = 0
      · rw [if_pos h0] at hst2
        have HO := Lib.hid hst2
        clear hst2
        have h0' : ((i + on).tmod 2 == 0) = true := by rw [h0]; rfl
        clear bB bx bo bu
        go_wp2
        go_roundw
        case rel =>
          obtain ⟨bB, bx, bo, bu⟩ := HQ.out
          have e := HS2.out
          rw [HST.out, ← HO.out] at e
          exact ⟨i + 1, out, by go_num, by omega, by omega, lo, bB, bx, bo, bu, e, hbel⟩
        case measure => simp [intOf]; omega
      · rw [if_neg h0] at hst2
        have h0' : ((i + on).tmod 2 == 0) = false := by rw [beq_eq_false_iff_ne]; exact h0
        have P1 := ptC (ofI_lt i)
        have PH := ptC (a := 4602678819172646912) (by decide)
        have PI := pi_p
        have MQ := mulC lt_pi (lt_pt (a := 4602678819172646912) (by decide))
        have MA := mulC (lt_pt (ofI_lt i)) lt_turnQ
        have la : Lt (roundAt i) := lt_mul (lt_pt (ofI_lt i)) lt_turnQ
        have MT := meetC la HX.out
        have eq1 : mulP piP (ptP 4602678819172646912) = turnQ := rfl
        have eq2 : mulP (ptP (floatOfInt .f64 i)) turnQ = roundAt i := rfl
        rw [eq1] at MQ
        rw [eq2] at MA
        have W1 := whole_c 1
        have W2 := whole_c (-1)
        have HU1 := hullC lo (lt_whole 1)
        have HU2 := hullC lo (lt_whole (-1))
        have HLO := Lib.hid (show _ ∧ _ from ⟨lt_hull lo (lt_whole 1), lt_hull lo (lt_whole (-1))⟩)
        have d0 := bB.c0
        have d1 := bB.c1
        have f0 := bB.f0
        have f1 := bB.f1
        generalize hA : hullP out (wholeP 1) = r1 at *
        generalize hZ : hullP out (wholeP (-1)) = r2 at *
        generalize meetP (roundAt i) (x1, x2) = mt at *
        generalize roundAt i = ra at *
        generalize turnQ = tq at *
        generalize ptP (floatOfInt .f64 i) = pi at *
        generalize ptP 4602678819172646912 = ph at *
        have HAZ := Lib.hid (show _ ∧ _ from ⟨hA, hZ⟩)
        clear hA hZ eq1 eq2 la bB bx bo bu
        rcases eqI_fot mt with h1 | h1
        · rw [if_neg (by rw [h1]; exact Bool.false_ne_true)] at hst2
          by_cases h2 : bits BinOp.and IntKind.i64 (i + on) 2 = 0
          · rw [if_pos h2] at hst2
            have HO := Lib.hid hst2
            clear hst2
            go_wp2_with (first
              | (go_at_call 36; (with_reducible refine (PI.go _).mono ?_); rintro _ _ ⟨n, rfl, rfl⟩)
              | (go_at_call 53; first | ((with_reducible refine (P1.go _).mono ?_); rintro _ _ ⟨n, rfl, rfl⟩) | ((with_reducible refine (PH.go _).mono ?_); rintro _ _ ⟨n, rfl, rfl⟩))
              | (go_at_call 166; first | ((with_reducible refine (MQ.go _).mono ?_); rintro _ _ ⟨n, rfl, rfl⟩) | ((with_reducible refine (MA.go _).mono ?_); rintro _ _ ⟨n, rfl, rfl⟩))
              | (go_at_call 54; (with_reducible refine (MT.go _).mono ?_); rintro _ _ ⟨n6, rfl, rfl⟩)
              | (go_at_call 55; (with_reducible refine (empty_any.go _).mono ?_); rintro _ _ ⟨n7, rfl, rfl⟩)
              | (go_at_call 122; first | ((with_reducible refine (W1.go _).mono ?_); rintro _ _ ⟨n, rfl, rfl⟩) | ((with_reducible refine (W2.go _).mono ?_); rintro _ _ ⟨n, rfl, rfl⟩))
              | (go_at_call 183; (with_reducible refine (HU1.go _).mono ?_); rintro _ _ ⟨n8, rfl, rfl⟩))
            go_roundw
            case rel =>
              obtain ⟨bB, bx, bo, bu⟩ := HQ.out
              have e := HS2.out
              rw [HST.out, ← HO.out] at e
              have hb8 : Below wr.heap.size wr n8.val := by (repeat' first | (with_reducible first | exact Below.refl _ _ | assumption | refine Later.belowOf _ ?_ ?_ | refine Below.alloc ?_ ?_ _ | refine Below.setCell ?_ ?_ _ | refine Below.drewN' _ ?_ | refine Below.drew ?_ | exact Ge.le) | go_size)
              refine ⟨i + 1, r1, by go_num, by omega, by omega, ?_, (bB.below hb8).set _ _, ((bx.below hb8).set_other _ ?_).set_other _ ?_, ((bo.below hb8).set_other _ ?_).set_other _ ?_, ((bu.below hb8).set_other _ ?_).set_other _ ?_, e, ?_⟩
              · exact HLO.out.1
              · show B ≠ _; omega
              · show B ≠ _; omega
              · show B ≠ _; omega
              · show B ≠ _; omega
              · show B ≠ _; omega
              · show B ≠ _; omega
              · have hwB : w.heap.size ≤ B := by omega
                have hb9 : Below w.heap.size w n8.val := hbel.trans (hb8.mono hbel.size)
                exact (hb9.setCell hwB _).setCell hwB _
            case measure => simp [intOf]; omega
          · rw [if_neg h2] at hst2
            have HO := Lib.hid hst2
            clear hst2
            go_wp2_with (first
              | (go_at_call 36; (with_reducible refine (PI.go _).mono ?_); rintro _ _ ⟨n, rfl, rfl⟩)
              | (go_at_call 53; first | ((with_reducible refine (P1.go _).mono ?_); rintro _ _ ⟨n, rfl, rfl⟩) | ((with_reducible refine (PH.go _).mono ?_); rintro _ _ ⟨n, rfl, rfl⟩))
              | (go_at_call 166; first | ((with_reducible refine (MQ.go _).mono ?_); rintro _ _ ⟨n, rfl, rfl⟩) | ((with_reducible refine (MA.go _).mono ?_); rintro _ _ ⟨n, rfl, rfl⟩))
              | (go_at_call 54; (with_reducible refine (MT.go _).mono ?_); rintro _ _ ⟨n6, rfl, rfl⟩)
              | (go_at_call 55; (with_reducible refine (empty_any.go _).mono ?_); rintro _ _ ⟨n7, rfl, rfl⟩)
              | (go_at_call 122; first | ((with_reducible refine (W1.go _).mono ?_); rintro _ _ ⟨n, rfl, rfl⟩) | ((with_reducible refine (W2.go _).mono ?_); rintro _ _ ⟨n, rfl, rfl⟩))
              | (go_at_call 183; (with_reducible refine (HU2.go _).mono ?_); rintro _ _ ⟨n8, rfl, rfl⟩))
            go_roundw
            case rel =>
              obtain ⟨bB, bx, bo, bu⟩ := HQ.out
              have e := HS2.out
              rw [HST.out, ← HO.out] at e
              have hb8 : Below wr.heap.size wr n8.val := by (repeat' first | (with_reducible first | exact Below.refl _ _ | assumption | refine Later.belowOf _ ?_ ?_ | refine Below.alloc ?_ ?_ _ | refine Below.setCell ?_ ?_ _ | refine Below.drewN' _ ?_ | refine Below.drew ?_ | exact Ge.le) | go_size)
              refine ⟨i + 1, r2, by go_num, by omega, by omega, ?_, (bB.below hb8).set _ _, ((bx.below hb8).set_other _ ?_).set_other _ ?_, ((bo.below hb8).set_other _ ?_).set_other _ ?_, ((bu.below hb8).set_other _ ?_).set_other _ ?_, e, ?_⟩
              · exact HLO.out.2
              · show B ≠ _; omega
              · show B ≠ _; omega
              · show B ≠ _; omega
              · show B ≠ _; omega
              · show B ≠ _; omega
              · show B ≠ _; omega
              · have hwB : w.heap.size ≤ B := by omega
                have hb9 : Below w.heap.size w n8.val := hbel.trans (hb8.mono hbel.size)
                exact (hb9.setCell hwB _).setCell hwB _
            case measure => simp [intOf]; omega
        · rw [if_pos h1] at hst2
          have HO := Lib.hid hst2
          clear hst2
          go_wp2_with (first
            | (go_at_call 36; (with_reducible refine (PI.go _).mono ?_); rintro _ _ ⟨n, rfl, rfl⟩)
            | (go_at_call 53; first | ((with_reducible refine (P1.go _).mono ?_); rintro _ _ ⟨n, rfl, rfl⟩) | ((with_reducible refine (PH.go _).mono ?_); rintro _ _ ⟨n, rfl, rfl⟩))
            | (go_at_call 166; first | ((with_reducible refine (MQ.go _).mono ?_); rintro _ _ ⟨n, rfl, rfl⟩) | ((with_reducible refine (MA.go _).mono ?_); rintro _ _ ⟨n, rfl, rfl⟩))
            | (go_at_call 54; (with_reducible refine (MT.go _).mono ?_); rintro _ _ ⟨n6, rfl, rfl⟩)
            | (go_at_call 55; (with_reducible refine (empty_any.go _).mono ?_); rintro _ _ ⟨n7, rfl, rfl⟩))
          go_roundw
          case rel =>
            obtain ⟨bB, bx, bo, bu⟩ := HQ.out
            have e := HS2.out
            rw [HST.out, ← HO.out] at e
            have hb8 : Below wr.heap.size wr n7.val := by (repeat' first | (with_reducible first | exact Below.refl _ _ | assumption | refine Later.belowOf _ ?_ ?_ | refine Below.alloc ?_ ?_ _ | refine Below.setCell ?_ ?_ _ | refine Below.drewN' _ ?_ | refine Below.drew ?_ | exact Ge.le) | go_size)
            exact ⟨i + 1, out, by go_num, by omega, by omega, lo, bB.below hb8, bx.below hb8, bo.below hb8, bu.below hb8, e, hbel.trans (hb8.mono hbel.size)⟩
          case measure => simp [intOf]; omega

theorem lt_unit : Lt unitP := ⟨by show (13830554455654793216 : Nat) < _; decide, by show (4607182418800017408 : Nat) < _; decide⟩
theorem lt_roundGo {x : Nat × Nat} {on : Int} : ∀ (f : Nat) (n : Int) {out : Nat × Nat}, Lt out → Lt (roundGo x on f n out)
  | 0, _, _, h => h
  | f + 1, n, out, h => by
    unfold roundGo
    split
    · refine lt_roundGo f _ ?_
      unfold roundStep
      split
      · exact h
      · split
        · exact h
        · split
          · exact lt_hull h (lt_whole _)
          · exact lt_hull h (lt_whole _)
    · exact h

theorem round_c {x : Nat × Nat} (hx : Lt x) {on : Int} (o1 : 0 ≤ on) (o2 : on ≤ 1) : Gives 105 #[(.agg #[.float .f64 x.1, .float .f64 x.2]), .int .i64 on] (.agg #[.float .f64 ((roundP x on).1), .float .f64 ((roundP x on).2)]) := by
  unfold roundP
  rcases fot (noneB x.1 x.2) with hn | hn
  · rw [hn, if_neg Bool.false_ne_true]
    have RR := right_any x.1 x.2
    rw [(right_of hn).1] at RR
    have he : eqI x.1 x.2 9218868437227405312 18442240474082181120 = false := by
      unfold noneB at hn
      rw [Bool.or_eq_false_iff] at hn
      exact hn.2
    have MG := mag_any x.1 x.2 hx.1 hx.2
    rcases fot (flt 4652007308841189376 (magI x.1 x.2)) with hm | hm
    · rw [hm, if_neg Bool.false_ne_true]
      obtain ⟨⟨i1, i2⟩, i3, i4⟩ := ends_1000 hx hn hm
      obtain ⟨n1, n2⟩ := nums_of hn
      have k1 := (near_quarter n1 i1 i2).2.2.2.2.1
      have k2 := (near_quarter n2 i3 i4).2.2.2.2.1
      obtain ⟨q1, q2, q3, q4, q5, q6⟩ := floor_quarter n1 i1 i2
      obtain ⟨q1a, q1b⟩ := op_val q1
      have f2 : rung x.2 < INFR := Nat.lt_of_le_of_lt (rung_small (A := 4652007308841189376) (by decide) n2 (by omega) (by omega)) (by decide)
      have l0 := lt_hull (lt_turnV hx.1 k1 on) (lt_turnV hx.2 k2 on)
      have ME := meetC (lt_roundGo (x := x) (on := on) (1700 - roundF x).toNat (roundF x) l0) lt_unit
      exact round_core x.1 x.2 _ _ _ _ _ _ _ _ _ _ _ _ on _ hx RR he MG hm (turn_c hx.1 n1 i1 i2 o1 o2) (turn_c hx.2 n2 i3 i4 o1 o2) (hullC (lt_turnV hx.1 k1 on) (lt_turnV hx.2 k2 on)) l0 q1a q1b (floor_c q2) (cv_int q6) q4 q5 o1 o2 (round_end n2 i3 i4) f2 rfl ME
    · rw [hm, if_pos rfl]
      exact round_wide _ _ on RR he _ MG hm
  · rw [hn, if_pos rfl]
    exact round_no _ _ on hn

set_option maxHeartbeats 400000 in
theorem Sin_c {x : Nat × Nat} (hx : Lt x) : Gives 30 #[(.agg #[.float .f64 x.1, .float .f64 x.2])] (.agg #[.float .f64 ((roundP x 0).1), .float .f64 ((roundP x 0).2)]) := by
  intro w
  have R := round_c hx (on := 0) (by decide) (by decide)
  generalize roundP x 0 = r at *
  clear hx
  obtain ⟨x1, x2⟩ := x
  go_enter Tryz.func30, Tryz.ntmps30
  go_wp2_with (go_at_call 105; (with_reducible refine (R.go _).mono ?_); rintro _ _ ⟨n, rfl, rfl⟩)
  go_returns
  exact ⟨rfl, by (repeat' first | (with_reducible first | exact Below.refl _ _ | assumption | refine Later.belowOf _ ?_ ?_ | refine Below.alloc ?_ ?_ _ | refine Below.setCell ?_ ?_ _ | refine Below.drewN' _ ?_ | refine Below.drew ?_ | exact Ge.le) | go_size)⟩
set_option maxHeartbeats 400000 in
theorem Cos_c {x : Nat × Nat} (hx : Lt x) : Gives 31 #[(.agg #[.float .f64 x.1, .float .f64 x.2])] (.agg #[.float .f64 ((roundP x 1).1), .float .f64 ((roundP x 1).2)]) := by
  intro w
  have R := round_c hx (on := 1) (by decide) (by decide)
  generalize roundP x 1 = r at *
  clear hx
  obtain ⟨x1, x2⟩ := x
  go_enter Tryz.func31, Tryz.ntmps31
  go_wp2_with (go_at_call 105; (with_reducible refine (R.go _).mono ?_); rintro _ _ ⟨n, rfl, rfl⟩)
  go_returns
  exact ⟨rfl, by (repeat' first | (with_reducible first | exact Below.refl _ _ | assumption | refine Later.belowOf _ ?_ ?_ | refine Below.alloc ?_ ?_ _ | refine Below.setCell ?_ ?_ _ | refine Below.drewN' _ ?_ | refine Below.drew ?_ | exact Ge.le) | go_size)⟩
end Go.Proofs.YtkmgfbhnioojhaaGreat
