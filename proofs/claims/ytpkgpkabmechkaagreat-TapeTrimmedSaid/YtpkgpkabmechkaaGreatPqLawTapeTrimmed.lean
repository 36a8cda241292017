/- TapeTrimmed: for every tape and slice of intervals the law returns true. -/
import Derived.Test.YtpkgpkabmechkaaGreatPqQ4
import Derived.Test.YtpkgpkabmechkaaGreatPqG3x
import Derived.Test.YtpkgpkabmechkaaGreatPqM6
import Derived.Test.YtpkgpkabmechkaaGreatPqM12
namespace Go.Proofs.YtpkgpkabmechkaaGreat
set_option linter.unusedSimpArgs false
set_option linter.unusedVariables false
open Go.ChangeShapes Go.WideShapes Go.ChangeAt Go.RowKit Go.Joins
open Fl

set_option maxHeartbeats 4000000 in
set_option maxRecDepth 100000 in
/-- Two slices of rows of the same intervals. -/
theorem sameAll_c {v v' : Value} {n m : Nat} {D : Nat → Nat → Nat × Nat} {w : World} (hx : RowsAt w v D n m) (hy : RowsAt w v' D n m) :
    Calls Tryz.prog 37 #[v, v'] w fun e w' => ∃ q : Later w, e = .returned (.bool true) ∧ w' = q.val := by
  obtain ⟨A, c, rfl, hn, hx⟩ := hx
  obtain ⟨B, d, rfl, _, hy⟩ := hy
  have HX := Lib.hid hx
  have HY := Lib.hid hy
  clear hx hy
  go_enter Tryz.func37, Tryz.ntmps37
  go_wp2
  go_loopw [13] (fun i wr => SameInv w n i wr) (fun i _ => n - (intOf i).toNat)
  case atStart => exact ⟨0, rfl, Nat.zero_le _, Below.refl _ _⟩
  case round =>
    obtain ⟨k, rfl, hk, hbel⟩ := hrel
    by_cases h1 : k < n
    · obtain ⟨b1, o1, r1, e1, x0, hr1⟩ := HX.out k h1
      obtain ⟨b2, o2, r2, e2, y0, hr2⟩ := HY.out k h1
      subst e1 e2
      have x0 := cellBelow hbel x0
      have y0 := cellBelow hbel y0
      haveI g1 : Ge wr (b1 + 1) := ⟨World.block_lt_of_cell? wr _ x0⟩
      haveI g2 : Ge wr (b2 + 1) := ⟨World.block_lt_of_cell? wr _ y0⟩
      have SM : ∀ q : Later wr, Calls Tryz.prog 35 #[r1, r2] q.val fun e w'' => e = .returned (.bool true) ∧ ∃ z : Later wr, w'' = z.val := fun q => by
        refine (same4_c ((hr1.below hbel).below q.below) ((hr2.below hbel).below q.below)).mono ?_
        rintro _ _ ⟨z, rfl, rfl⟩
        exact ⟨rfl, ⟨z.val, q.below.trans (z.below.mono q.below.size)⟩, rfl⟩
      have HB := Lib.hid hbel
      obtain ⟨A1, c1, rfl, _, _⟩ := hr1
      obtain ⟨A2, c2, rfl, _, _⟩ := hr2
      clear hbel
      have k0 : (0 : Int) ≤ (k : Int) := by omega
      have k1 : (k : Int) < (n : Int) := by omega
      have k2 : (k : Int) ≤ 9223372036854775807 := by omega
      go_wp2_with (fail)
      refine wp_region_later (by kernel_rfl) (by kernel_rfl) ?_
      repeat (go_big_quiet_step (first | (go_at_call 35; (with_reducible exact SM _))))
      (refine wpQuiet_nil ?_; rintro _ ⟨nq, rfl⟩)
      go_wp2
      go_roundw
      case rel => exact ⟨k + 1, by go_num, h1, HB.out.trans (nq.below.mono HB.out.size)⟩
      case measure => simp [intOf]; omega
    · obtain rfl : k = n := by omega
      go_wp2
      go_ret
      first
        | exact ⟨⟨_, hbel⟩, rfl, rfl⟩
        | exact ⟨rfl, ⟨_, hbel⟩, rfl⟩


theorem RowsAt.congr {w : World} {d : Value} {D D' : Nat → Nat → Nat × Nat} {n m : Nat} (h : RowsAt w d D n m) (e : ∀ i, i < n → D i = D' i) : RowsAt w d D' n m := by
  obtain ⟨A, c, e1, hn, h⟩ := h
  refine ⟨A, c, e1, hn, fun i hi => ?_⟩
  rw [← e i hi]
  exact h i hi
theorem OutsAt.congr {w : World} {v : Value} {f g : Nat → Int} {n : Nat} (h : OutsAt w v f n) (e : ∀ i, i < n → f i = g i) : OutsAt w v g n := by
  obtain ⟨A, c, e1, h⟩ := h
  refine ⟨A, c, e1, fun i hi => ?_⟩
  rw [← e i hi]
  exact h i hi
theorem next_one5 : flt 4607182418800017408 (nextB 4607182418800017408) = true := by decide
set_option maxHeartbeats 1000000 in
theorem alive5_any : Gives 48 #[] (.bool true) := by
  intro w
  have N := next_any 4607182418800017408 (by decide)
  have h := next_one5
  generalize nextB 4607182418800017408 = r at *
  go_enter Tryz.func48, Tryz.ntmps48
  go_wp2_with (go_at_call 108; refine (N.go _).mono ?_; rintro _ _ ⟨n, rfl, rfl⟩)
  go_ret
  exact ⟨ret_bool (by simp [h]), by (repeat' first | (with_reducible first | exact Below.refl _ _ | assumption | refine Later.belowOf _ ?_ ?_ | refine Below.alloc ?_ ?_ _ | refine Below.setCell ?_ ?_ _ | refine Below.drewN' _ ?_ | refine Below.drew ?_ | exact Ge.le) | go_size)⟩

open Classical in
set_option maxHeartbeats 8000000 in
set_option maxRecDepth 100000 in
theorem tapeTrimmed_walk (V : Int) (vO vN : Value) (ops : Nat → OpT) (nO : Nat) (outs : Nat → Int) (nN : Nat) (vx : Value) (xs : Nat → Nat × Nat) (nx : Nat) (w : World) (hO : OpsAt w vO ops nO) (hN : OutsAt w vN outs nN) (hx : IvsAt w vx xs nx) :
    Calls Tryz.prog 10 #[.agg #[.int .i64 V, vO, vN], vx] w fun e w' => e = .returned (.bool true) ∧ Below w.heap.size w w' := by
  have hl : ∀ i, i < nO → (ops i).lo < 18446744073709551616 ∧ (ops i).hi < 18446744073709551616 := by
    obtain ⟨A, c, e, h⟩ := hO
    intro i hi
    obtain ⟨_, _, _, l1, l2, _⟩ := h i hi
    exact ⟨l1, l2⟩
  have b0 : Below w.heap.size w (w.alloc (Obj.cells #[.int .i64 V, vO, vN] 45)) := (Below.refl _ _).alloc (Nat.le_refl _) _
  have RT : ∀ q : Later (w.alloc (Obj.cells #[.int .i64 V, vO, vN] 45)), _ := fun q => tright_any V vO vN ops outs nO nN q.val ((hO.below b0).below q.below) ((hN.below b0).below q.below)
  obtain ⟨AO, cO, rfl, hO1⟩ := id hO
  obtain ⟨AN, cN, rfl, hN1⟩ := id hN
  have HO := Lib.hid hO
  have HN := Lib.hid hN
  have HX := Lib.hid hx
  have HL := Lib.hid hl
  clear hO1 hN1 hO hN hx hl
  by_cases hT : TapeR V nO ops nN outs
  · by_cases hg : nO ≤ 400 ∧ V ≤ 12
    · obtain ⟨hg1, hg2⟩ := hg
      have hg3 : ¬ ((400 : Int) < nO) := by omega
      have hg4 : ¬ ((12 : Int) < V) := by omega
      simp only [if_pos hT] at RT
      have HT := Lib.hid hT
      clear hT
      go_enter Tryz.func10, Tryz.ntmps10
      go_upto_region 5 with (first
        | (go_at_call 48; refine (alive5_any.go _).mono ?_; rintro _ _ ⟨n1, rfl, rfl⟩)
        | (go_at_call 49; refine (RT _).mono ?_; rintro _ w2 ⟨rfl, hb2⟩; obtain ⟨n2, rfl⟩ : ∃ n2 : Later n1.val, w2 = n2.val := ⟨⟨w2, hb2⟩, rfl⟩; clear hb2))
      have b2 : Below w.heap.size w n2.val := by (repeat' first | (with_reducible first | exact Below.refl _ _ | assumption | refine Later.belowOf _ ?_ ?_ | refine Below.alloc ?_ ?_ _ | refine Below.setCell ?_ ?_ _ | refine Below.drewN' _ ?_ | refine Below.drew ?_ | exact Ge.le) | go_size)
      have q0 : n2.val.cell? ⟨w.heap.size, 0, none⟩ = some (.int .i64 V) := by simp [go_sem]
      have q1 : n2.val.cell? ⟨w.heap.size, 1, none⟩ = some (.slice AO nO cO) := by simp [go_sem]
      have q2 : n2.val.cell? ⟨w.heap.size, 2, none⟩ = some (.slice AN nN cN) := by simp [go_sem]
      have TR := trim_c (V := V) (HO.out.below b2) (HN.out.below b2)
      clear RT b0
      go_upto_region 6 with (go_at_call 50; (with_reducible refine TR.mono ?_); rintro _ w3 ⟨V', vO', vN', E, rfl, hb3, -, h2⟩; obtain ⟨hE, hV, ho, hn⟩ := h2 HT.out; subst hE; replace hV := hV.symm; subst hV; clear h2 TR; obtain ⟨A1, c1, rfl, -⟩ := id ho; obtain ⟨A2, c2, rfl, -⟩ := id hn)
      refine cut_worldM (fun W3 hW3 => ?_)
      have ba : Below w3.heap.size w3 W3 := by rw [← hW3]; exact (Below.refl _ _).alloc (Nat.le_refl _) _
      have bn : Below n2.val.heap.size n2.val W3 := hb3.trans (ba.mono hb3.size)
      have b3 : Below w.heap.size w W3 := b2.trans (bn.mono b2.size)
      have g0 := cellBelow bn q0
      have g1 := cellBelow bn q1
      have g2 := cellBelow bn q2
      have sb : TapeBox W3 w3.heap.size V (.slice A1 (trimL ops outs nO nN).length c1) (.slice A2 nN c2) := by rw [← hW3]; exact TapeBox.new _ _ _ _
      have ho3 := ho.below ba
      have hn3 := hn.below ba
      have TT := trim_trim HT.out HL.out
      have TR2 := trim_c (V := V) ho3 hn3
      rw [TT.1] at TR2
      have hle : ¬ ((nO : Int) < ((trimL ops outs nO nN).length : Int)) := by
        have : (trimL ops outs nO nN).length ≤ nO := trU_len _ _ _
        omega
      have hll : (trimL ops outs nO nN).length ≤ 4000 := by omega
      have hnn : nN ≤ 4000 := by have := HT.out.2.2.2.1; omega
      have s0 := sb.c0
      have s1 := sb.c1
      have s2 := sb.c2
      have l0 := World.block_lt_of_cell? _ _ g0
      have l1 := sb.lt
      simp only at l0
      haveI ge1 : Ge W3 (w.heap.size + 1) := ⟨l0⟩
      haveI ge2 : Ge W3 (w3.heap.size + 1) := ⟨l1⟩
      have HB := Lib.hid (show _ ∧ _ ∧ _ ∧ _ from ⟨b3, ho3, hn3, TT.2⟩)
      have HTR := Lib.hid (trim_right HT.out HL.out)
      have HG := Lib.hid (show _ ∧ _ from ⟨fun h => trim_grad HT.out HL.out xs nx h, trim_grad_no HT.out HL.out xs nx⟩)
      clear ba bn b3 sb ho3 hn3 TT ho hn hb3 hW3 b2 q0 q1 q2
      generalize w3.heap.size = sB at *
      generalize trimO ops outs nO nN = f at *
      go_upto_region 7 with (go_at_call 50; (with_reducible refine TR2.mono ?_); rintro _ w4 ⟨V2, vO2, vN2, E2, rfl, hb4, -, h2⟩; obtain ⟨hE, hV, ho, hn⟩ := h2 HTR.out; subst hE; replace hV := hV.symm; subst hV; clear h2 TR2; obtain ⟨A3, c3, rfl, -⟩ := id ho; obtain ⟨A4, c4, rfl, -⟩ := id hn)
      refine cut_worldM (fun W4 hW4 => ?_)
      have ba : Below w4.heap.size w4 W4 := by rw [← hW4]; exact (Below.refl _ _).alloc (Nat.le_refl _) _
      have bn : Below W3.heap.size W3 W4 := hb4.trans (ba.mono hb4.size)
      have b4 : Below w.heap.size w W4 := HB.out.1.trans (bn.mono HB.out.1.size)
      have g0 := cellBelow bn g0
      have g1 := cellBelow bn g1
      have g2 := cellBelow bn g2
      have s0 := cellBelow bn s0
      have s1 := cellBelow bn s1
      have s2 := cellBelow bn s2
      have ub : TapeBox W4 w4.heap.size V (.slice A3 (trimL ops outs nO nN).length c3) (.slice A4 nN c4) := by rw [← hW4]; exact TapeBox.new _ _ _ _
      have u0 := ub.c0
      have u1 := ub.c1
      have u2 := ub.c2
      have hos := HB.out.2.1.below bn
      have hns := HB.out.2.2.1.below bn
      have hou := ho.below ba
      have hnu := (hn.below ba).congr HB.out.2.2.2
      have LK := like_c (V := V) hos hns hou hnu hll hnn
      haveI ge3 : Ge W4 (w.heap.size + 1) := ⟨Nat.lt_of_lt_of_le l0 bn.size⟩
      haveI ge4 : Ge W4 (sB + 1) := ⟨Nat.lt_of_lt_of_le l1 bn.size⟩
      haveI ge5 : Ge W4 (w4.heap.size + 1) := ⟨ub.lt⟩
      have HB4 := Lib.hid (show _ ∧ _ ∧ _ from ⟨b4, hos, hns⟩)
      clear ba bn b4 ub hos hns hou hnu ho hn hb4 hW4
      generalize w4.heap.size = uB at *
      go_upto_region 9 with (go_at_call 51; (with_reducible refine LK.mono ?_); rintro _ w5 ⟨rfl, hb5⟩; obtain ⟨n5, rfl⟩ : ∃ n5 : Later W4, w5 = n5.val := ⟨⟨w5, hb5⟩, rfl⟩; clear hb5 LK)
      have b5 : Below w.heap.size w n5.val := HB4.out.1.trans (n5.below.mono HB4.out.1.size)
      have GT := grad_c (V := V) (HO.out.below b5) (HN.out.below b5) (HX.out.below b5)
      have GS := fun (q : Later n5.val) => grad_c (V := V) (HB4.out.2.1.below (n5.below.trans (q.below.mono n5.below.size))) (HB4.out.2.2.below (n5.below.trans (q.below.mono n5.below.size))) (HX.out.below (b5.trans (q.below.mono b5.size)))
      have HG5 := Lib.hid b5
      clear b5
      by_cases hE : gradE V nO ops nN outs xs nx = 0
      · obtain ⟨hE2, hV2⟩ := HG.out.1 hE
        rw [hE] at GT
        simp only [hE2] at GS
        go_upto_region 10 with (go_at_call 36; refine GT.mono ?_; rintro _ w6 ⟨va, vc, rfl, -, ha2, hb6⟩; replace ha2 := ha2 rfl; clear GT; obtain ⟨n6, rfl⟩ : ∃ n6 : Later n5.val, w6 = n6.val := ⟨⟨w6, hb6⟩, rfl⟩; clear hb6)
        go_upto_region 11 with (go_at_call 36; refine (GS n6).mono ?_; rintro _ w7 ⟨vb, vd, rfl, -, hc2, hb7⟩; replace hc2 := hc2 rfl; clear GS; obtain ⟨n7, rfl⟩ : ∃ n7 : Later n6.val, w7 = n7.val := ⟨⟨w7, hb7⟩, rfl⟩; clear hb7)
        have hcv := hc2.1.congr fun i hi => (hV2 i hi).1
        have hcr := hc2.2.congr fun i hi => funext fun m => (hV2 i hi).2 m
        have SM := same4_c (ha2.1.below n7.below) hcv
        have SA := fun (q : Later n7.val) => sameAll_c ((ha2.2.below n7.below).below q.below) (hcr.below q.below)
        clear hcv hcr hc2 ha2
        go_wp2_with (first
          | (go_at_call 35; (with_reducible refine SM.mono ?_); rintro _ _ ⟨n8, rfl, rfl⟩)
          | (go_at_call 37; (with_reducible refine (SA _).mono ?_); rintro _ _ ⟨n9, rfl, rfl⟩))
        go_ret
        exact ⟨rfl, HG5.out.trans (Below.mono (by (repeat' first | (with_reducible first | exact Below.refl _ _ | assumption | refine Later.belowOf _ ?_ ?_ | refine Below.alloc ?_ ?_ _ | refine Below.setCell ?_ ?_ _ | refine Below.drewN' _ ?_ | refine Below.drew ?_ | exact Ge.le) | go_size)) HG5.out.size)⟩
      · have hno := HG.out.2
        generalize gradE V nO ops nN outs xs nx = E1 at *
        generalize gradE V (trimL ops outs nO nN).length (listF (trimL ops outs nO nN)) nN f xs nx = E2 at *
        have hE0 : (E1 == 0) = false := by simpa using hE
        have hE1 : (E1 != 0) = true := by simpa using hE
        rcases hno with h | h | h | h
        all_goals
          subst h
          go_upto_region 10 with (go_at_call 36; refine GT.mono ?_; rintro _ w6 ⟨va, vc, rfl, ha1, -, hb6⟩; obtain ⟨rfl, rfl⟩ := ha1 hE; clear GT ha1; obtain ⟨n6, rfl⟩ : ∃ n6 : Later n5.val, w6 = n6.val := ⟨⟨w6, hb6⟩, rfl⟩; clear hb6)
          go_upto_region 11 with (go_at_call 36; refine (GS n6).mono ?_; rintro _ w7 ⟨vb, vd, rfl, -, -, hb7⟩; clear GS; obtain ⟨n7, rfl⟩ : ∃ n7 : Later n6.val, w7 = n7.val := ⟨⟨w7, hb7⟩, rfl⟩; clear hb7)
          go_wp2
          all_goals
            go_ret
            exact ⟨rfl, HG5.out.trans (Below.mono (by (repeat' first | (with_reducible first | exact Below.refl _ _ | assumption | refine Later.belowOf _ ?_ ?_ | refine Below.alloc ?_ ?_ _ | refine Below.setCell ?_ ?_ _ | refine Below.drewN' _ ?_ | refine Below.drew ?_ | exact Ge.le) | go_size)) HG5.out.size)⟩
    · have hc : 400 < nO ∨ (¬ 400 < nO ∧ 12 < V) := by omega
      simp only [if_pos hT] at RT
      clear hT
      rcases hc with hc | ⟨hc1, hc2⟩
      · have hc' : (400 : Int) < nO := by omega
        go_enter Tryz.func10, Tryz.ntmps10
        go_wp2_with (first
          | (go_at_call 48; refine (alive5_any.go _).mono ?_; rintro _ _ ⟨n1, rfl, rfl⟩)
          | (go_at_call 49; refine (RT _).mono ?_; rintro _ w2 ⟨rfl, hb2⟩; obtain ⟨n2, rfl⟩ : ∃ n2 : Later n1.val, w2 = n2.val := ⟨⟨w2, hb2⟩, rfl⟩; clear hb2))
        go_ret
        exact ⟨rfl, by (repeat' first | (with_reducible first | exact Below.refl _ _ | assumption | refine Later.belowOf _ ?_ ?_ | refine Below.alloc ?_ ?_ _ | refine Below.setCell ?_ ?_ _ | refine Below.drewN' _ ?_ | refine Below.drew ?_ | exact Ge.le) | go_size)⟩
      · have hc' : ¬ ((400 : Int) < nO) := by omega
        go_enter Tryz.func10, Tryz.ntmps10
        go_wp2_with (first
          | (go_at_call 48; refine (alive5_any.go _).mono ?_; rintro _ _ ⟨n1, rfl, rfl⟩)
          | (go_at_call 49; refine (RT _).mono ?_; rintro _ w2 ⟨rfl, hb2⟩; obtain ⟨n2, rfl⟩ : ∃ n2 : Later n1.val, w2 = n2.val := ⟨⟨w2, hb2⟩, rfl⟩; clear hb2))
        go_ret
        exact ⟨rfl, by (repeat' first | (with_reducible first | exact Below.refl _ _ | assumption | refine Later.belowOf _ ?_ ?_ | refine Below.alloc ?_ ?_ _ | refine Below.setCell ?_ ?_ _ | refine Below.drewN' _ ?_ | refine Below.drew ?_ | exact Ge.le) | go_size)⟩
  · simp only [if_neg hT] at RT
    clear hT
    go_enter Tryz.func10, Tryz.ntmps10
    go_wp2_with (first
      | (go_at_call 48; refine (alive5_any.go _).mono ?_; rintro _ _ ⟨n1, rfl, rfl⟩)
      | (go_at_call 49; refine (RT _).mono ?_; rintro _ w2 ⟨rfl, hb2⟩; obtain ⟨n2, rfl⟩ : ∃ n2 : Later n1.val, w2 = n2.val := ⟨⟨w2, hb2⟩, rfl⟩; clear hb2))
    go_ret
    exact ⟨rfl, by (repeat' first | (with_reducible first | exact Below.refl _ _ | assumption | refine Later.belowOf _ ?_ ?_ | refine Below.alloc ?_ ?_ _ | refine Below.setCell ?_ ?_ _ | refine Below.drewN' _ ?_ | refine Below.drew ?_ | exact Ge.le) | go_size)⟩

theorem tapeTrimmed_go (V : Int) (vO vN : Value) (ops : Nat → OpT) (nO : Nat) (outs : Nat → Int) (nN : Nat) (A : Option Addr) (nx c : Nat) (xs : Nat → Nat × Nat) {w0 : World} (hO : OpsAt w0 vO ops nO) (hN : OutsAt w0 vN outs nN) (hx : IvsAt w0 (.slice A nx c) xs nx) (w : World) (e : w = w0 := by rfl) :
    Calls Tryz.prog 10 #[.agg #[.int .i64 V, vO, vN], .slice A nx c] w fun e w' => e = .returned (.bool true) ∧ Below w.heap.size w w' := by
  subst e
  exact tapeTrimmed_walk V vO vN ops nO outs nN _ xs nx w hO hN hx

set_option maxRecDepth 100000 in
theorem tapeTrimmed_lifted (os : Os) (started : os.Started) (H : Type) (enc : TypeId × Value → H) :
    ReturnsInHanded {} Tryz.checked os 10 .any (Rows.tapeTrimmedSpec.pre6 enc Tryz.prog Tryz.f10 Rows.tapeTrimmedRow.domain false) (Rows.tapeTrimmedSpec.post enc Tryz.prog Tryz.f10 false true false false) := by
  refine returnsInHanded_of_change (C := Tryz.checked) Tryz.own started (by kernel_rfl) Tryz.func10
    (ChangeSpec.witness6 (enc := enc) (C := Tryz.checked) false ⟨#[], #[(.agg #[.int .i64 0, .slice none 0 0, .slice none 0 0]), (.slice none 0 0)], []⟩ 8 (by kernel_rfl) (by kernel_rfl) (by kernel_rfl) (by kernel_rfl)) ?_
  intro W base args ds gs before hval0 hW hcnd _
  have hval : ∀ (j : Nat) t v, Tryz.f10.params[j]? = some t → args[j]? = some v → Value.okWide Tryz.prog W .any base t v := hval0
  have hW' := hW
  obtain ⟨p, q, hA0, hV, rfl, hfz, hnd⟩ := hW
  have hA : DataW.TrodAll enc Tryz.prog W 0 (fun _ => true) true Tryz.f10.params.toList args.toList ds p := hA0
  rw [Tryz.params10] at hA hval
  obtain ⟨v0, v1, d0, d1, p0, p1, rfl, rfl, rfl, h0, h1⟩ := trodAll_two hA
  obtain ⟨rfl, rfl⟩ := trodVars_none hV
  obtain ⟨x0_0, x0_1, x0_2, x0_3, x0_4, x0_5, x0_6, rfl, k0_0, k0_1⟩ := arg_tape (hval 0 45 v0 rfl rfl) h0
  obtain ⟨x1_0, x1_1, x1_2, x1_3, rfl, k1_0⟩ := arg_ivs (hval 1 46 v1 rfl rfl) h1
  refine (tapeTrimmed_go x0_0 x0_1 x0_2 x0_3 x0_4 x0_5 x0_6 x1_0 x1_1 x1_2 x1_3 k0_0 k0_1 k1_0 W).mono fun e W' ⟨he, hb⟩ => ?_
  subst he
  exact ⟨_, rfl, law_post rfl hW' (by kernel_rfl) (by kernel_rfl) rfl hb⟩

theorem tapeTrimmed_holds : Rows.TapeTrimmedSaid :=
  OpenClaim.holds_of_wide 10 Tryz.f10 rfl rfl rfl rfl rfl rfl rfl ⟨rfl, rfl, rfl, rfl, rfl⟩ rfl rfl rfl rfl rfl (by kernel_rfl) Tryz.func10 (by kernel_rfl)
    (of_decide_eq_true (by kernel_rfl)) (by unfold Func.isWrapper; rw [if_neg (of_decide_eq_false (by kernel_rfl))]; exact ⟨rfl, rfl⟩)
    (fun os started H enc _ => tapeTrimmed_lifted os started H enc)
end Go.Proofs.YtpkgpkabmechkaaGreat
