/- ElemMade: the walk. -/
import Derived.Test.YtkmgfbhnioojhaaGreatPmR23
import Derived.Test.YtkmgfbhnioojhaaGreatPmR24
import Derived.Test.YtkmgfbhnioojhaaGreatPmR25
import Derived.Test.YtkmgfbhnioojhaaGreatPmEnd
namespace Go.Proofs.YtkmgfbhnioojhaaGreat
set_option linter.unusedSimpArgs false
set_option linter.unusedVariables false
open Go.ChangeShapes Go.WideShapes Go.ChangeAt Go.RowKit Go.Joins
open Fl

theorem BoolRes.later {f : FuncId} {args : Array Value} {b : Bool} {w : World} (n : Later w) (h : Calls Tryz.prog f args n.val (BoolRes b n.val)) : Calls Tryz.prog f args n.val fun e w'' => e = .returned (.bool b) ∧ ∃ m : Later w, w'' = m.val :=
  h.mono fun _ w'' ⟨he, hb⟩ => ⟨he, ⟨w'', n.below.trans (hb.mono n.below.size)⟩, rfl⟩
theorem piV_ok : piV.Ok := P2.ok_of (by decide +kernel)
theorem lnV_ok : lnV.Ok := P2.ok_of (by decide +kernel)
theorem Q.ok_mid {q : Q} (h : q.Ok) : q.Mid := ⟨Nat.lt_of_lt_of_le h.1 (bp_le (by decide)), by have := h.2.1; omega, by have := h.2.2; omega⟩
set_option maxRecDepth 100000 in
theorem pi_lo : decide ((numQ 4614256656552045848).ord piV.b ≤ 0) = true := by decide +kernel
set_option maxRecDepth 100000 in
theorem pi_hi : decide (0 ≤ (numQ 4614256656552045849).ord piV.a) = true := by decide +kernel
set_option maxRecDepth 100000 in
theorem ln_lo : decide ((numQ 4604418534313441775).ord lnV.b ≤ 0) = true := by decide +kernel
set_option maxRecDepth 100000 in
theorem ln_hi : decide (0 ≤ (numQ 4604418534313441776).ord lnV.a) = true := by decide +kernel
theorem next_pi : nextB 4614256656552045848 = 4614256656552045849 := by decide +kernel
theorem next_ln : nextB 4604418534313441775 = 4604418534313441776 := by decide +kernel

theorem Box.new1 (w : World) (o : Obj) (p q : Nat) : Box ((w.alloc o).alloc (Obj.cells #[(.float .f64 p), (.float .f64 q)] 24)) (w.heap.size + 1) (p, q) := by
  have := Box.new (w.alloc o) p q
  rwa [World.size_alloc] at this
theorem Box.newS (w : World) (a a' : Addr) (v v' : Value) (p q : Nat) : Box (((w.setCell a v).setCell a' v').alloc (Obj.cells #[(.float .f64 p), (.float .f64 q)] 24)) w.heap.size (p, q) := by
  have := Box.new ((w.setCell a v).setCell a' v') p q
  rwa [World.size_setCell, World.size_setCell] at this
theorem Box.drew {w : World} {b : Nat} {x : Nat × Nat} (h : Box w b x) : Box w.drew b x := ⟨h.blk⟩
theorem ne_of_ge {w : World} {a : Nat} [h : Ge w (a + 1)] : a ≠ w.heap.size := by have := h.le; omega
theorem ge_ne {w : World} {a : Nat} [h : Ge w (a + 1)] : w.heap.size ≠ a := by have := h.le; omega
theorem cut_boxes {W wc : World} {B8 B9 : Nat} {u v : Nat × Nat} (hb : Below W.heap.size W wc) (h8 : Box wc B8 u) (h9 : Box wc B9 v) :
    ∃ (B B' : Nat) (q : Later W), Value.pointer (some ⟨B8, 0, none⟩) = .pointer (some ⟨B, 0, none⟩) ∧ Value.pointer (some ⟨B9, 0, none⟩) = .pointer (some ⟨B', 0, none⟩) ∧ wc = q.val ∧ Box wc B u ∧ Box wc B' v := ⟨B8, B9, ⟨wc, hb⟩, rfl, rfl, rfl, h8, h9⟩
def MadeInv (W : World) (i : Value) (wr : World) : Prop := ∃ (j : Nat), i = .int .i64 j ∧ j ≤ 2 ∧ Below W.heap.size W wr

set_option maxHeartbeats 8000000 in
set_option maxRecDepth 100000 in
theorem elemMade_walk (a b : Nat) (ha : a < 18446744073709551616) (hb : b < 18446744073709551616) :
    Gives 7 #[(.agg #[.float .f64 a, .float .f64 b])] (.bool true) := by
  intro w
  have P1 := pi_c
  have L1 := ln2_c
  have P2 := fun w => PRes.go (pi_any w)
  have L2 := fun w => PRes.go (ln2_any w)
  have HP := Lib.hid P2
  have HL := Lib.hid L2
  clear P2 L2
  go_enter Tryz.func7, Tryz.ntmps7
  go_upto_region 2 with (first
    | (go_at_call 36; (with_reducible refine (P1.go _).mono ?_); rintro _ _ ⟨n1, rfl, rfl⟩)
    | (go_at_call 37; (with_reducible refine (L1.go _).mono ?_); rintro _ _ ⟨n2, rfl, rfl⟩)
    | (go_at_call 28; (with_reducible refine (HP.out _).mono ?_); rintro _ _ ⟨A2, k2, d2, B2, l2, e2, q2, hq2, hr2, rfl, rfl⟩; have hq2' := hq2.out; have hr2' := hr2.out)
    | (go_at_call 38; (with_reducible refine (HL.out _).mono ?_); rintro _ _ ⟨A3, k3, d3, B3, l3, e3, q3, hq3, hr3, rfl, rfl⟩; have hq3' := hq3.out; have hr3' := hr3.out))
  clear HP HL P1 L1
  refine cut_worldN (fun W3 hW3 => ?_)
  have b03 : Below w.heap.size w W3 := by rw [← hW3]; (repeat' first | (with_reducible first | exact Below.refl _ _ | assumption | refine Later.belowOf _ ?_ ?_ | refine Below.alloc ?_ ?_ _ | refine Below.setCell ?_ ?_ _ | refine Below.drewN' _ ?_ | refine Below.drew ?_ | exact Ge.le) | go_size)
  have xb : Box W3 w.heap.size (a, b) := (Box.new w a b).below (by rw [← hW3]; (repeat' first | (with_reducible first | exact Below.refl _ _ | assumption | refine Later.belowOf _ ?_ ?_ | refine Below.alloc ?_ ?_ _ | refine Below.setCell ?_ ?_ _ | refine Below.drewN' _ ?_ | refine Below.drew ?_ | exact Ge.le) | go_size))
  have g1 : Big W3 (.slice A2 k2 d2) piV.a.m := by rw [← hW3]; (repeat (first | (with_reducible assumption) | (with_reducible refine Big.drew ?_) | (with_reducible refine Big.drewN ?_ _) | (with_reducible refine Big.alloc ?_ _) | (with_reducible refine Big.later ?_ _) | (with_reducible refine Big.setCell ?_ _ (by go_simp))))
  have g2 : Big W3 (.slice B2 l2 e2) piV.b.m := by rw [← hW3]; (repeat (first | (with_reducible assumption) | (with_reducible refine Big.drew ?_) | (with_reducible refine Big.drewN ?_ _) | (with_reducible refine Big.alloc ?_ _) | (with_reducible refine Big.later ?_ _) | (with_reducible refine Big.setCell ?_ _ (by go_simp))))
  have g3 : Big W3 (.slice A3 k3 d3) lnV.a.m := by rw [← hW3]; (repeat (first | (with_reducible assumption) | (with_reducible refine Big.drew ?_) | (with_reducible refine Big.drewN ?_ _) | (with_reducible refine Big.alloc ?_ _) | (with_reducible refine Big.later ?_ _) | (with_reducible refine Big.setCell ?_ _ (by go_simp))))
  have g4 : Big W3 (.slice B3 l3 e3) lnV.b.m := by rw [← hW3]; (repeat (first | (with_reducible assumption) | (with_reducible refine Big.drew ?_) | (with_reducible refine Big.drewN ?_ _) | (with_reducible refine Big.alloc ?_ _) | (with_reducible refine Big.later ?_ _) | (with_reducible refine Big.setCell ?_ _ (by go_simp))))
  have sb : W3.heap[q3.val.heap.size]? = some (Obj.cells #[(.float .f64 4614256656552045848), (.float .f64 4614256656552045849), .bool piV.a.s, .slice A2 k2 d2, .int .i64 piV.a.e, .bool piV.b.s, .slice B2 l2 e2, .int .i64 piV.b.e, (.float .f64 4604418534313441775), (.float .f64 4604418534313441776), .bool lnV.a.s, .slice A3 k3 d3, .int .i64 lnV.a.e, .bool lnV.b.s, .slice B3 l3 e3, .int .i64 lnV.b.e] 47) := by rw [← hW3]; exact heap_alloc_new _ _
  generalize q3.val.heap.size = sbk at *
  clear hW3 hq2 hr2 hq3 hr3 hq2' hr2' hq3' hr3'
  have lts := (Array.getElem?_eq_some_iff.1 sb).1
  have HG := Lib.hid (show _ ∧ _ ∧ _ ∧ _ ∧ _ ∧ _ from ⟨g1, g2, g3, g4, xb, b03⟩)
  clear g1 g2 g3 g4 xb
  go_loopw [18] (fun i wr => MadeInv W3 i wr) (fun i _ => 2 - (intOf i).toNat)
  case atStart => exact ⟨0, rfl, by omega, Below.refl _ _⟩
  case round =>
    obtain ⟨j, rfl, hj, hbel⟩ := hrel
    have hsz := hbel.size
    have blk := (hbel.block sbk lts).trans sb
    haveI gr1 : Ge wr (sbk + 1) := ⟨by omega⟩
    haveI gr2 : Ge wr W3.heap.size := ⟨hsz⟩
    by_cases hj2 : j < 2
    · rcases j with _ | _ | j
      rotate_left 2
      · omega
      · have c0 : wr.cell? ⟨sbk, 0, none⟩ = some (.float .f64 4614256656552045848) := by simp [World.cell?, blk]
        have c1 : wr.cell? ⟨sbk, 1, none⟩ = some (.float .f64 4614256656552045849) := by simp [World.cell?, blk]
        have c2 : wr.cell? ⟨sbk, 2, none⟩ = some (.bool piV.a.s) := by simp [World.cell?, blk]
        have c3 : wr.cell? ⟨sbk, 3, none⟩ = some (.slice A2 k2 d2) := by simp [World.cell?, blk]
        have c4 : wr.cell? ⟨sbk, 4, none⟩ = some (.int .i64 piV.a.e) := by simp [World.cell?, blk]
        have c5 : wr.cell? ⟨sbk, 5, none⟩ = some (.bool piV.b.s) := by simp [World.cell?, blk]
        have c6 : wr.cell? ⟨sbk, 6, none⟩ = some (.slice B2 l2 e2) := by simp [World.cell?, blk]
        have c7 : wr.cell? ⟨sbk, 7, none⟩ = some (.int .i64 piV.b.e) := by simp [World.cell?, blk]
        have NA := fun (w1 : World) (h : Below W3.heap.size W3 w1) => pi_lo ▸ notAbove_any 4614256656552045848 (by decide) piV A2 k2 d2 B2 l2 e2 w1 (HG.out.1.stays.at h) (HG.out.2.1.stays.at h) (Q.ok_mid piV_ok.2)
        have NB := fun (w1 : World) (h : Below W3.heap.size W3 w1) => pi_hi ▸ notBelow_any 4614256656552045849 (by decide) piV A2 k2 d2 B2 l2 e2 w1 (HG.out.1.stays.at h) (HG.out.2.1.stays.at h) (Q.ok_mid piV_ok.1)
        have NX := next1_any 4614256656552045848 (by decide)
        rw [next_pi] at NX
        have HNA := Lib.hid NA
        have HNB := Lib.hid NB
        clear NA NB blk
        go_wp2_with (fail)
        refine wp_region_later (by kernel_rfl) (by kernel_rfl) ?_
        repeat (go_big_quiet_step (first | (go_at_call 39; (with_reducible exact BoolRes.later _ (HNA.out _ (hbel.trans (Below.mono (by (repeat' first | (with_reducible first | exact Below.refl _ _ | assumption | refine Later.belowOf _ ?_ ?_ | refine Below.alloc ?_ ?_ _ | refine Below.setCell ?_ ?_ _ | refine Below.drewN' _ ?_ | refine Below.drew ?_ | exact Ge.le) | go_size)) hsz))))) | (go_at_call 40; (with_reducible exact BoolRes.later _ (HNB.out _ (hbel.trans (Below.mono (by (repeat' first | (with_reducible first | exact Below.refl _ _ | assumption | refine Later.belowOf _ ?_ ?_ | refine Below.alloc ?_ ?_ _ | refine Below.setCell ?_ ?_ _ | refine Below.drewN' _ ?_ | refine Below.drew ?_ | exact Ge.le) | go_size)) hsz))))) | (go_at_call 41; (with_reducible exact NX.later _))))
        (refine wpQuiet_nil ?_; rintro _ ⟨nq, rfl⟩)
        go_wp2
        exact ⟨⟨1, by go_num, by omega, hbel.trans (Below.mono (by (repeat' first | (with_reducible first | exact Below.refl _ _ | assumption | refine Later.belowOf _ ?_ ?_ | refine Below.alloc ?_ ?_ _ | refine Below.setCell ?_ ?_ _ | refine Below.drewN' _ ?_ | refine Below.drew ?_ | exact Ge.le) | go_size)) hsz)⟩, by simp [intOf]⟩
      · have c0 : wr.cell? ⟨sbk, 8, none⟩ = some (.float .f64 4604418534313441775) := by simp [World.cell?, blk]
        have c1 : wr.cell? ⟨sbk, 9, none⟩ = some (.float .f64 4604418534313441776) := by simp [World.cell?, blk]
        have c2 : wr.cell? ⟨sbk, 10, none⟩ = some (.bool lnV.a.s) := by simp [World.cell?, blk]
        have c3 : wr.cell? ⟨sbk, 11, none⟩ = some (.slice A3 k3 d3) := by simp [World.cell?, blk]
        have c4 : wr.cell? ⟨sbk, 12, none⟩ = some (.int .i64 lnV.a.e) := by simp [World.cell?, blk]
        have c5 : wr.cell? ⟨sbk, 13, none⟩ = some (.bool lnV.b.s) := by simp [World.cell?, blk]
        have c6 : wr.cell? ⟨sbk, 14, none⟩ = some (.slice B3 l3 e3) := by simp [World.cell?, blk]
        have c7 : wr.cell? ⟨sbk, 15, none⟩ = some (.int .i64 lnV.b.e) := by simp [World.cell?, blk]
        have NA := fun (w1 : World) (h : Below W3.heap.size W3 w1) => ln_lo ▸ notAbove_any 4604418534313441775 (by decide) lnV A3 k3 d3 B3 l3 e3 w1 (HG.out.2.2.1.stays.at h) (HG.out.2.2.2.1.stays.at h) (Q.ok_mid lnV_ok.2)
        have NB := fun (w1 : World) (h : Below W3.heap.size W3 w1) => ln_hi ▸ notBelow_any 4604418534313441776 (by decide) lnV A3 k3 d3 B3 l3 e3 w1 (HG.out.2.2.1.stays.at h) (HG.out.2.2.2.1.stays.at h) (Q.ok_mid lnV_ok.1)
        have NX := next1_any 4604418534313441775 (by decide)
        rw [next_ln] at NX
        have HNA := Lib.hid NA
        have HNB := Lib.hid NB
        clear NA NB blk
        go_wp2_with (fail)
        refine wp_region_later (by kernel_rfl) (by kernel_rfl) ?_
        repeat (go_big_quiet_step (first | (go_at_call 39; (with_reducible exact BoolRes.later _ (HNA.out _ (hbel.trans (Below.mono (by (repeat' first | (with_reducible first | exact Below.refl _ _ | assumption | refine Later.belowOf _ ?_ ?_ | refine Below.alloc ?_ ?_ _ | refine Below.setCell ?_ ?_ _ | refine Below.drewN' _ ?_ | refine Below.drew ?_ | exact Ge.le) | go_size)) hsz))))) | (go_at_call 40; (with_reducible exact BoolRes.later _ (HNB.out _ (hbel.trans (Below.mono (by (repeat' first | (with_reducible first | exact Below.refl _ _ | assumption | refine Later.belowOf _ ?_ ?_ | refine Below.alloc ?_ ?_ _ | refine Below.setCell ?_ ?_ _ | refine Below.drewN' _ ?_ | refine Below.drew ?_ | exact Ge.le) | go_size)) hsz))))) | (go_at_call 41; (with_reducible exact NX.later _))))
        (refine wpQuiet_nil ?_; rintro _ ⟨nq, rfl⟩)
        go_wp2
        exact ⟨⟨2, by go_num, by omega, hbel.trans (Below.mono (by (repeat' first | (with_reducible first | exact Below.refl _ _ | assumption | refine Later.belowOf _ ?_ ?_ | refine Below.alloc ?_ ?_ _ | refine Below.setCell ?_ ?_ _ | refine Below.drewN' _ ?_ | refine Below.drew ?_ | exact Ge.le) | go_size)) hsz)⟩, by simp [intOf]⟩
    · obtain rfl : j = 2 := by omega
      have hjn : ¬ ((2 : Nat) : Int) < 2 := by omega
      have xb := HG.out.2.2.2.2.1.below hbel
      have bwr : Below w.heap.size w wr := HG.out.2.2.2.2.2.trans (hbel.mono HG.out.2.2.2.2.2.size)
      have M1 := make2_any 4602678819172646912 4602678819172646912 (by decide) (by decide)
      have M2 := make2_any 4607182418800017408 4607182418800017408 (by decide) (by decide)
      have M3 := make2_any 4611686018427387904 4611686018427387904 (by decide) (by decide)
      clear HG blk sb
      haveI gx : Ge wr (w.heap.size + 1) := ⟨xb.lt⟩
      have x0 := xb.c0
      have x1 := xb.c1
      simp only at x0 x1
      go_upto_region 8 with (go_at_call 42; first | ((with_reducible refine (M1.go _).mono ?_); rintro _ _ ⟨n1, rfl, rfl⟩) | ((with_reducible refine (M2.go _).mono ?_); rintro _ _ ⟨n2, rfl, rfl⟩) | ((with_reducible refine (M3.go _).mono ?_); rintro _ _ ⟨n3, rfl, rfl⟩))
      have hx : Lt (a, b) := ⟨ha, hb⟩
      have E1 := Exp_c hx
      have NE := negR hx
      have E2 := Exp_c (lt_neg hx)
      simp only at E1 NE
      obtain ⟨up, hup⟩ : ∃ u, expP (a, b) = u := ⟨_, rfl⟩
      obtain ⟨dn, hdn⟩ : ∃ u, expP (negP (a, b)) = u := ⟨_, rfl⟩
      rw [hup] at E1
      rw [hdn] at E2
      refine cut_worldN (fun W6 hW6 => ?_)
      have b6 : Below wr.heap.size wr W6 := by rw [← hW6]; (repeat' first | (with_reducible first | exact Below.refl _ _ | assumption | refine Later.belowOf _ ?_ ?_ | refine Below.alloc ?_ ?_ _ | refine Below.setCell ?_ ?_ _ | refine Below.drewN' _ ?_ | refine Below.drew ?_ | exact Ge.le) | go_size)
      have x6 := xb.below b6
      have h5 : Box W6 n3.val.heap.size (makeI 4602678819172646912 4602678819172646912) := (Box.new n3.val _ _).below (by rw [← hW6]; exact ((Below.refl _ _).alloc (Nat.le_refl _) _).alloc (by simp) _)
      have h6 : Box W6 (n3.val.heap.size + 1) (makeI 4607182418800017408 4607182418800017408) := by
        have := Box.new (n3.val.alloc (Obj.cells #[(.float .f64 ((makeI 4602678819172646912 4602678819172646912).fst)), (.float .f64 ((makeI 4602678819172646912 4602678819172646912).snd))] 24)) (makeI 4607182418800017408 4607182418800017408).1 (makeI 4607182418800017408 4607182418800017408).2
        rw [World.size_alloc] at this
        exact this.below (by rw [← hW6]; exact (Below.refl _ _).alloc (Nat.le_refl _) _)
      have h7 : Box W6 (n3.val.heap.size + 1 + 1) (makeI 4611686018427387904 4611686018427387904) := by
        have := Box.new ((n3.val.alloc (Obj.cells #[(.float .f64 ((makeI 4602678819172646912 4602678819172646912).fst)), (.float .f64 ((makeI 4602678819172646912 4602678819172646912).snd))] 24)).alloc (Obj.cells #[(.float .f64 ((makeI 4607182418800017408 4607182418800017408).fst)), (.float .f64 ((makeI 4607182418800017408 4607182418800017408).snd))] 24)) (makeI 4611686018427387904 4611686018427387904).1 (makeI 4611686018427387904 4611686018427387904).2
        rw [World.size_alloc, World.size_alloc] at this
        rw [← hW6]; exact this
      have bw6 := bwr.trans (b6.mono bwr.size)
      generalize n3.val.heap.size = b5 at *
      clear hW6 M1 M2 M3 x0 x1
      have x0 := x6.c0
      have x1 := x6.c1
      simp only at x0 x1
      haveI gx6 : Ge W6 (w.heap.size + 1) := ⟨x6.lt⟩
      have HX := Lib.hid (show _ ∧ _ ∧ _ ∧ _ ∧ _ from ⟨x6, h5, h6, h7, bw6⟩)
      clear x6 h5 h6 h7 bw6 b6 xb bwr hbel
      go_cut [8, 9] (fun v8 v9 wc => ∃ (B8 B9 : Nat) (q : Later W6), v8 = .pointer (some ⟨B8, 0, none⟩) ∧ v9 = .pointer (some ⟨B9, 0, none⟩) ∧ wc = q.val ∧ Box wc B8 up ∧ Box wc B9 dn)
      case first =>
        go_region_held3 (fun w' => w'.cell? ⟨w.heap.size, 0, none⟩ = some (.float .f64 a) ∧ w'.cell? ⟨w.heap.size, 1, none⟩ = some (.float .f64 b))
          (first | (go_simp; done) | go_keep)
          ((first | (go_at_call 14; first | ((with_reducible refine (E1.go _).mono ?_); rintro _ _ ⟨nn, rfl, rfl⟩) | ((with_reducible refine (E2.go _).mono ?_); rintro _ _ ⟨nn, rfl, rfl⟩)) | (go_at_call 43; (with_reducible refine (NE.go _).mono ?_); rintro _ _ ⟨nn, rfl, rfl⟩)))
        all_goals
          rename_i hHeld
          clear hHeld
          go_wp2
          go_meet
        all_goals
          refine cut_boxes ?_ ?_ ?_
          · ((repeat' first | (with_reducible first | exact Below.refl _ _ | assumption | refine Later.belowOf _ ?_ ?_ | refine Below.alloc ?_ ?_ _ | refine Below.setCell ?_ ?_ _ | refine Below.drewN' _ ?_ | refine Below.drew ?_ | exact Ge.le) | go_size)); all_goals exact Nat.le_succ_of_le Ge.le
          · ((repeat' first | (with_reducible exact Box.new _ _ _) | (with_reducible exact Box.new1 _ _ _ _) | (with_reducible exact Box.newS _ _ _ _ _ _ _) | (with_reducible refine Box.set (x := (0, 0)) ?_ _ _) | (with_reducible refine Box.set_other ?_ _ ?_) | (with_reducible refine Box.alloc ?_ _) | (with_reducible refine Box.later ?_ _) | (with_reducible refine Box.drew ?_)); all_goals ((try dsimp only); first | omega | exact ne_of_ge | exact ge_ne))
          · ((repeat' first | (with_reducible exact Box.new _ _ _) | (with_reducible exact Box.new1 _ _ _ _) | (with_reducible exact Box.newS _ _ _ _ _ _ _) | (with_reducible refine Box.set (x := (0, 0)) ?_ _ _) | (with_reducible refine Box.set_other ?_ _ ?_) | (with_reducible refine Box.alloc ?_ _) | (with_reducible refine Box.later ?_ _) | (with_reducible refine Box.drew ?_)); all_goals ((try dsimp only); first | omega | exact ne_of_ge | exact ge_ne))
      obtain ⟨B8, B9, q, rfl, rfl, rfl, b8, b9⟩ := hcut
      obtain ⟨x6, h5, h6, h7, bw6⟩ := HX.out
      have x6 := x6.later q
      have h5 := h5.later q
      have h6 := h6.later q
      have h7 := h7.later q
      have bq : Below w.heap.size w q.val := bw6.trans (q.below.mono bw6.size)
      have hw1 : wholeP 1 = makeI 4607182418800017408 4607182418800017408 := by unfold wholeP ptP; rw [show floatOfInt .f64 1 = 4607182418800017408 from by decide +kernel]
      have hw2 : wholeP 2 = makeI 4611686018427387904 4611686018427387904 := by unfold wholeP ptP; rw [show floatOfInt .f64 2 = 4611686018427387904 from by decide +kernel]
      have L1 : Lt (makeI 4607182418800017408 4607182418800017408) := makeI_lt (by decide) (by decide)
      have L2 : Lt (makeI 4611686018427387904 4611686018427387904) := makeI_lt (by decide) (by decide)
      have LH : Lt (makeI 4602678819172646912 4602678819172646912) := makeI_lt (by decide) (by decide)
      have lu : Lt up := hup ▸ lt_exp _
      have ld : Lt dn := hdn ▸ lt_exp _
      have CT := Tan_c hx
      have CS := Sin_c hx
      have CC := Cos_c hx
      have CD := divR (x := roundP (a, b) 0) (y := roundP (a, b) 1) (lt_roundQ hx) (lt_roundQ hx)
      have e1 : divP (roundP (a, b) 0) (roundP (a, b) 1) = tanP (a, b) := rfl
      rw [e1] at CD
      have CSH := Sinh_c hx
      have e2 : sinhP (a, b) = mulP (makeI 4602678819172646912 4602678819172646912) (subP up dn) := by rw [← hup, ← hdn]; rfl
      rw [e2] at CSH
      have CCH := Cosh_c hx
      have e3 : coshP (a, b) = mulP (makeI 4602678819172646912 4602678819172646912) (addP up dn) := by rw [← hup, ← hdn]; rfl
      rw [e3] at CCH
      have CTH := Tanh_c hx
      have e4 : tanhP (a, b) = subP (makeI 4607182418800017408 4607182418800017408) (divP (makeI 4611686018427387904 4611686018427387904) (addP (expP (addP (a, b) (a, b))) (makeI 4607182418800017408 4607182418800017408))) := by unfold tanhP; rw [hw1, hw2]
      rw [e4] at CTH
      have CM1 := mulR LH (lt_sub lu ld)
      have CM2 := mulR LH (lt_add lu ld)
      have CA1 := addR lu ld
      have CB1 := subR lu ld
      have CA2 := addR hx hx
      have CE := Exp_c (lt_add hx hx)
      have CA3 := addR (lt_exp (addP (a, b) (a, b))) L1
      have CD2 := divR L2 (lt_add (lt_exp (addP (a, b) (a, b))) L1)
      have CB2 := subR L1 (lt_div (x := makeI 4611686018427387904 4611686018427387904) (y := addP (expP (addP (a, b) (a, b))) (makeI 4607182418800017408 4607182418800017408)))
      clear hw1 hw2 L1 L2 LH lu ld e1 e2 e3 e4 E1 NE E2 HX bw6 hup hdn hx
      simp only at CT CS CC CD CSH CCH CTH CM1 CM2 CA1 CB1 CA2 CE CA3 CD2 CB2
      generalize subP (makeI 4607182418800017408 4607182418800017408) (divP (makeI 4611686018427387904 4611686018427387904) (addP (expP (addP (a, b) (a, b))) (makeI 4607182418800017408 4607182418800017408))) = z9 at *
      generalize divP (makeI 4611686018427387904 4611686018427387904) (addP (expP (addP (a, b) (a, b))) (makeI 4607182418800017408 4607182418800017408)) = z8 at *
      generalize addP (expP (addP (a, b) (a, b))) (makeI 4607182418800017408 4607182418800017408) = z7 at *
      generalize expP (addP (a, b) (a, b)) = z6 at *
      generalize addP (a, b) (a, b) = z5 at *
      generalize mulP (makeI 4602678819172646912 4602678819172646912) (subP up dn) = z4 at *
      generalize mulP (makeI 4602678819172646912 4602678819172646912) (addP up dn) = z3 at *
      generalize subP up dn = z2 at *
      generalize addP up dn = z1 at *
      generalize makeI 4602678819172646912 4602678819172646912 = hf at *
      generalize makeI 4607182418800017408 4607182418800017408 = on at *
      generalize makeI 4611686018427387904 4611686018427387904 = tw at *
      generalize tanP (a, b) = t1 at *
      generalize roundP (a, b) 0 = t2 at *
      generalize roundP (a, b) 1 = t3 at *
      have x0 := x6.c0
      have x1 := x6.c1
      simp only at x0 x1
      have h50 := h5.c0
      have h51 := h5.c1
      have h60 := h6.c0
      have h61 := h6.c1
      have h70 := h7.c0
      have h71 := h7.c1
      have h80 := b8.c0
      have h81 := b8.c1
      have h90 := b9.c0
      have h91 := b9.c1
      haveI gx6 : Ge q.val (w.heap.size + 1) := ⟨x6.lt⟩
      haveI g5 : Ge q.val (b5 + 1) := ⟨h5.lt⟩
      haveI g6 : Ge q.val (b5 + 1 + 1) := ⟨h6.lt⟩
      haveI g7 : Ge q.val (b5 + 1 + 1 + 1) := ⟨h7.lt⟩
      haveI g8 : Ge q.val (B8 + 1) := ⟨b8.lt⟩
      haveI g9 : Ge q.val (B9 + 1) := ⟨b9.lt⟩
      have HB := Lib.hid bq
      clear x6 h5 h6 h7 b8 b9 bq
      go_wp2_with (fail)
      refine wp_region_later (by kernel_rfl) (by kernel_rfl) ?_
      repeat (go_big_quiet_step (first | (go_at_call 44; (with_reducible exact CT.later _)) | (go_at_call 30; (with_reducible exact CS.later _)) | (go_at_call 31; (with_reducible exact CC.later _)) | (go_at_call 46; (with_reducible exact CSH.later _)) | (go_at_call 49; (with_reducible exact CCH.later _)) | (go_at_call 51; (with_reducible exact CTH.later _)) | (go_at_call 14; (with_reducible exact CE.later _)) | (go_at_call 16; (with_reducible exact (same2_refl _ _).later _)) | (go_at_call 45; first | (with_reducible exact CD.later _) | (with_reducible exact CD2.later _)) | (go_at_call 47; first | (with_reducible exact CM1.later _) | (with_reducible exact CM2.later _)) | (go_at_call 48; first | (with_reducible exact CB1.later _) | (with_reducible exact CB2.later _)) | (go_at_call 50; first | (with_reducible exact CA1.later _) | (with_reducible exact CA2.later _) | (with_reducible exact CA3.later _))))
      (refine wpQuiet_nil ?_; rintro _ ⟨nq, rfl⟩)
      go_wp2
      go_ret
      have bq := HB.out
      have hqs := bq.size
      exact ⟨rfl, by (repeat' first | (with_reducible first | exact Below.refl _ _ | assumption | refine Later.belowOf _ ?_ ?_ | refine Below.alloc ?_ ?_ _ | refine Below.setCell ?_ ?_ _ | refine Below.drewN' _ ?_ | refine Below.drew ?_ | exact Ge.le) | go_size)⟩

end Go.Proofs.YtkmgfbhnioojhaaGreat
