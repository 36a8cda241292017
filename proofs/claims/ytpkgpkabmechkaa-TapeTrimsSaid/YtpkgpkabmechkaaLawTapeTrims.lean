/- TapeTrims: any tape is trimmed to just the one that the document says: for every input the law returns true. -/
import Derived.Test.YtpkgpkabmechkaaM6
import Derived.Test.YtpkgpkabmechkaaM11
import Derived.Test.YtpkgpkabmechkaaM12
import Derived.Test.YtpkgpkabmechkaaT6
namespace Go.Proofs.Ytpkgpkabmechkaa
set_option linter.unusedSimpArgs false
set_option linter.unusedVariables false
open Go.ChangeShapes Go.WideShapes Go.ChangeAt Go.RowKit Go.Joins
open Fl

theorem trimL_len (ops : Nat → OpT) (outs : Nat → Int) (nO nN : Nat) : (trimL ops outs nO nN).length ≤ nO := trU_len _ _ _
theorem opsAt_nil (w : World) (ops : Nat → OpT) : OpsAt w (.slice none 0 0) ops 0 := ⟨none, 0, rfl, fun i hi => by omega⟩
theorem outsAt_nil (w : World) (outs : Nat → Int) : OutsAt w (.slice none 0 0) outs 0 := ⟨none, 0, rfl, fun i hi => by omega⟩

open Classical in
set_option maxHeartbeats 8000000 in
set_option maxRecDepth 100000 in
theorem tapeTrims_walk (V : Int) (vO vN : Value) (ops : Nat → OpT) (nO : Nat) (outs : Nat → Int) (nN : Nat) (w : World) (hO : OpsAt w vO ops nO) (hN : OutsAt w vN outs nN) :
    Calls Try.prog 3 #[.agg #[.int .i64 V, vO, vN]] w fun e w' => e = .returned (.bool true) ∧ Below w.heap.size w w' := by
  have b0 : Below w.heap.size w (w.alloc (Obj.cells #[.int .i64 V, vO, vN] 25)) := (Below.refl _ _).alloc (Nat.le_refl _) _
  have TR := trim_c (V := V) (hO.below b0) (hN.below b0)
  obtain ⟨AO, cO, rfl, hO1⟩ := id hO
  obtain ⟨AN, cN, rfl, hN1⟩ := id hN
  have HO := Lib.hid hO
  have HN := Lib.hid hN
  clear hO1 hN1 hO hN
  by_cases hl : 300 < nO
  · have hl2 : (300 : Int) < nO := by omega
    clear TR
    go_enter Try.func3, Try.ntmps3
    go_wp2
    go_ret
    exact ⟨rfl, b0⟩
  · have hl2 : ¬ ((300 : Int) < nO) := by omega
    by_cases hT : TapeR V nO ops nN outs
    · have HT := Lib.hid hT
      clear hT
      go_enter Try.func3, Try.ntmps3
      go_upto_region 4 with (go_at_call 4; (with_reducible refine TR.mono ?_); rintro _ w2 ⟨V', vO', vN', E, rfl, hb2, _, h2⟩; obtain ⟨hE, hV, ho, hn⟩ := h2 HT.out; subst hE; replace hV := hV.symm; subst hV; clear h2 TR; obtain ⟨A1, c1, rfl, -⟩ := id ho; obtain ⟨A2, c2, rfl, -⟩ := id hn)
      refine cut_worldM (fun W3 hW3 => ?_)
      have b2 : Below w.heap.size w w2 := b0.trans (hb2.mono b0.size)
      have ba : Below w2.heap.size w2 W3 := by rw [← hW3]; exact (Below.refl _ _).alloc (Nat.le_refl _) _
      have b3 : Below w.heap.size w W3 := b2.trans (ba.mono b2.size)
      have tb : TapeBox W3 w.heap.size V (.slice AO nO cO) (.slice AN nN cN) := ((TapeBox.new w V _ _).below hb2).below ba
      have sb : TapeBox W3 w2.heap.size V (.slice A1 (trimL ops outs nO nN).length c1) (.slice A2 nN c2) := by rw [← hW3]; exact TapeBox.new _ _ _ _
      have ho3 := ho.below ba
      have hn3 := hn.below ba
      have g0 := tb.c0
      have g1 := tb.c1
      have g2 := tb.c2
      have s0 := sb.c0
      have s1 := sb.c1
      have s2 := sb.c2
      have RR := rright_any V _ _ ops outs nO nN W3 (HO.out.below b3) (HN.out.below b3)
      rw [decide_eq_true HT.out] at RR
      have HB := Lib.hid (show _ ∧ _ ∧ _ from ⟨b3, ho3, hn3⟩)
      haveI ge1 : Ge W3 (w.heap.size + 1) := ⟨tb.lt⟩
      haveI ge2 : Ge W3 (w2.heap.size + 1) := ⟨sb.lt⟩
      have hnO : nO ≤ 300 := by omega
      have hnN : nN ≤ 400 := HT.out.2.2.2.1
      have hle := trimL_len ops outs nO nN
      clear hW3 b2 ba b3 ho3 hn3 ho hn hb2 tb sb b0
      generalize w2.heap.size = sbk at *

      go_upto_region 6 with (go_at_call 5; (with_reducible refine RR.mono ?_); rintro _ w4 ⟨rfl, hb4⟩; obtain ⟨n, rfl⟩ : ∃ n : Later W3, w4 = n.val := ⟨⟨w4, hb4⟩, rfl⟩; clear hb4 RR)
      have bd : Below W3.heap.size W3 n.val.drew := n.below.trans (Below.mono (Below.drew (Below.refl _ _)) n.below.size)
      have RT := rtrim_c (V := V) ((HO.out.below HB.out.1).below bd) ((HN.out.below HB.out.1).below bd) HT.out
      have q1 : w.heap.size < n.val.drew.heap.size := Nat.lt_of_lt_of_le ge1.le bd.size
      have q2 : sbk < n.val.drew.heap.size := Nat.lt_of_lt_of_le ge2.le bd.size
      have d0 := cellBelow bd g0
      have d1 := cellBelow bd g1
      have d2 := cellBelow bd g2
      have d3 := cellBelow bd s0
      have d4 := cellBelow bd s1
      have d5 := cellBelow bd s2
      go_region_held3 (fun w' => w'.cell? ⟨w.heap.size, 0, none⟩ = some (.int .i64 V) ∧ w'.cell? ⟨w.heap.size, 1, none⟩ = some (.slice AO nO cO) ∧ w'.cell? ⟨w.heap.size, 2, none⟩ = some (.slice AN nN cN) ∧ w'.cell? ⟨sbk, 0, none⟩ = some (.int .i64 V) ∧ w'.cell? ⟨sbk, 1, none⟩ = some (.slice A1 (trimL ops outs nO nN).length c1) ∧ w'.cell? ⟨sbk, 2, none⟩ = some (.slice A2 nN c2))
        (first
          | go_keep
          | (exact ⟨d0, d1, d2, d3, d4, d5⟩)
          | (exact ⟨(hb6.cell (p := ⟨w.heap.size, 0, none⟩) q1').trans k0, (hb6.cell (p := ⟨w.heap.size, 1, none⟩) q1').trans k1, (hb6.cell (p := ⟨w.heap.size, 2, none⟩) q1').trans k2, (hb6.cell (p := ⟨sbk, 0, none⟩) q2').trans k3, (hb6.cell (p := ⟨sbk, 1, none⟩) q2').trans k4, (hb6.cell (p := ⟨sbk, 2, none⟩) q2').trans k5⟩)
          | (exact ⟨k0, k1, k2, k3, k4, k5⟩))
        (first
          | (go_at_call 7; (with_reducible refine RT.mono ?_); rintro _ w5 ⟨vO2, vN2, rfl, hb5, ho5, hn5⟩; have k0 : w5.cell? ⟨w.heap.size, 0, none⟩ = some (.int .i64 V) := (hb5.cell (p := ⟨w.heap.size, 0, none⟩) q1).trans d0; have k1 : w5.cell? ⟨w.heap.size, 1, none⟩ = some (.slice AO nO cO) := (hb5.cell (p := ⟨w.heap.size, 1, none⟩) q1).trans d1; have k2 : w5.cell? ⟨w.heap.size, 2, none⟩ = some (.slice AN nN cN) := (hb5.cell (p := ⟨w.heap.size, 2, none⟩) q1).trans d2; have k3 : w5.cell? ⟨sbk, 0, none⟩ = some (.int .i64 V) := (hb5.cell (p := ⟨sbk, 0, none⟩) q2).trans d3; have k4 : w5.cell? ⟨sbk, 1, none⟩ = some (.slice A1 (trimL ops outs nO nN).length c1) := (hb5.cell (p := ⟨sbk, 1, none⟩) q2).trans d4; have k5 : w5.cell? ⟨sbk, 2, none⟩ = some (.slice A2 nN c2) := (hb5.cell (p := ⟨sbk, 2, none⟩) q2).trans d5; have q1' := Nat.lt_of_lt_of_le q1 hb5.size; have q2' := Nat.lt_of_lt_of_le q2 hb5.size; have LK := like_c (V := V) ((HB.out.2.1.below bd).below hb5) ((HB.out.2.2.below bd).below hb5) ho5 hn5 (by omega) (by omega))
          | (go_at_call 6; (with_reducible refine LK.mono ?_); rintro _ w6 ⟨rfl, hb6⟩))
      go_wp2
      go_ret
      exact ⟨rfl, HB.out.1.trans (Below.mono (bd.trans (Below.mono (hb5.trans (hb6.mono hb5.size)) bd.size)) HB.out.1.size)⟩
    · have HT := Lib.hid hT
      clear hT
      go_enter Try.func3, Try.ntmps3
      go_upto_region 4 with (go_at_call 4; (with_reducible refine TR.mono ?_); rintro _ w2 ⟨V', vO', vN', E, rfl, hb2, h1, _⟩; obtain ⟨hE, hV, ho, hn⟩ := h1 HT.out; subst hE; subst hV; subst ho; subst hn; clear h1 TR)
      refine cut_worldM (fun W3 hW3 => ?_)
      have b2 : Below w.heap.size w w2 := b0.trans (hb2.mono b0.size)
      have ba : Below w2.heap.size w2 W3 := by rw [← hW3]; exact (Below.refl _ _).alloc (Nat.le_refl _) _
      have b3 : Below w.heap.size w W3 := b2.trans (ba.mono b2.size)
      have tb : TapeBox W3 w.heap.size V (.slice AO nO cO) (.slice AN nN cN) := ((TapeBox.new w V _ _).below hb2).below ba
      have sb : TapeBox W3 w2.heap.size 0 (.slice none 0 0) (.slice none 0 0) := by rw [← hW3]; exact TapeBox.new _ _ _ _
      have g0 := tb.c0
      have g1 := tb.c1
      have g2 := tb.c2
      have s0 := sb.c0
      have s1 := sb.c1
      have s2 := sb.c2
      have RR := rright_any V _ _ ops outs nO nN W3 (HO.out.below b3) (HN.out.below b3)
      rw [decide_eq_false HT.out] at RR
      have HB := Lib.hid b3
      haveI ge1 : Ge W3 (w.heap.size + 1) := ⟨tb.lt⟩
      haveI ge2 : Ge W3 (w2.heap.size + 1) := ⟨sb.lt⟩
      clear hW3 b2 ba b3 hb2 tb sb b0
      generalize w2.heap.size = sbk at *
      go_upto_region 5 with (go_at_call 5; (with_reducible refine RR.mono ?_); rintro _ w4 ⟨rfl, hb4⟩; obtain ⟨n, rfl⟩ : ∃ n : Later W3, w4 = n.val := ⟨⟨w4, hb4⟩, rfl⟩; clear hb4 RR)
      have LK := like_c (V := 0) (ops := ops) (outs := outs) (opsAt_nil n.val _) (outsAt_nil n.val _) (opsAt_nil n.val _) (outsAt_nil n.val _) (by omega) (by omega)
      go_wp2_with (go_at_call 6; (with_reducible refine LK.mono ?_); rintro _ w6 ⟨rfl, hb6⟩)
      go_ret
      exact ⟨rfl, HB.out.trans (Below.mono (n.below.trans (hb6.mono n.below.size)) HB.out.size)⟩

theorem tapeTrims_go (V : Int) (vO vN : Value) (ops : Nat → OpT) (nO : Nat) (outs : Nat → Int) (nN : Nat) {w0 : World} (hO : OpsAt w0 vO ops nO) (hN : OutsAt w0 vN outs nN) (w : World) (e : w = w0 := by rfl) :
    Calls Try.prog 3 #[.agg #[.int .i64 V, vO, vN]] w fun e w' => e = .returned (.bool true) ∧ Below w.heap.size w w' := by
  subst e
  exact tapeTrims_walk V vO vN ops nO outs nN w hO hN

set_option maxRecDepth 100000 in
theorem tapeTrims_lifted (os : Os) (started : os.Started) (H : Type) (enc : TypeId × Value → H) :
    ReturnsInHanded {} Try.checked os 3 .any (Rows.tapeTrimsSpec.pre6 enc Try.prog Try.f3 Rows.tapeTrimsRow.domain false) (Rows.tapeTrimsSpec.post enc Try.prog Try.f3 false true false false) := by
  refine returnsInHanded_of_change (C := Try.checked) Try.own started (by kernel_rfl) Try.func3
    (ChangeSpec.witness6 (enc := enc) (C := Try.checked) false ⟨#[], #[(.agg #[.int .i64 0, .slice none 0 0, .slice none 0 0])], []⟩ 8 (by kernel_rfl) (by kernel_rfl) (by kernel_rfl) (by kernel_rfl)) ?_
  intro W base args ds gs before hval0 hW hcnd _
  have hval : ∀ (j : Nat) t v, Try.f3.params[j]? = some t → args[j]? = some v → Value.okWide Try.prog W .any base t v := hval0
  have hW' := hW
  obtain ⟨p, q, hA0, hV, rfl, hfz, hnd⟩ := hW
  have hA : DataW.TrodAll enc Try.prog W 0 (fun _ => true) true Try.f3.params.toList args.toList ds p := hA0
  rw [Try.params3] at hA hval
  obtain ⟨v0, d0, rfl, rfl, h0⟩ := trodAll_one hA
  obtain ⟨rfl, rfl⟩ := trodVars_none hV
  obtain ⟨x0_0, x0_1, x0_2, x0_3, x0_4, x0_5, x0_6, rfl, k0_0, k0_1⟩ := arg_tape (hval 0 25 v0 rfl rfl) h0
  refine (tapeTrims_go x0_0 x0_1 x0_2 x0_3 x0_4 x0_5 x0_6 k0_0 k0_1 W).mono fun e W' ⟨he, hb⟩ => ?_
  subst he
  exact ⟨_, rfl, law_post rfl hW' (by kernel_rfl) (by kernel_rfl) rfl hb⟩

theorem tapeTrims_holds : Rows.TapeTrimsSaid :=
  OpenClaim.holds_of_wide 3 Try.f3 rfl rfl rfl rfl rfl rfl rfl ⟨rfl, rfl, rfl, rfl, rfl⟩ rfl rfl rfl rfl rfl (by kernel_rfl) Try.func3 (by kernel_rfl)
    (of_decide_eq_true (by kernel_rfl)) (by unfold Func.isWrapper; rw [if_neg (of_decide_eq_false (by kernel_rfl))]; exact ⟨rfl, rfl⟩)
    (fun os started H enc _ => tapeTrims_lifted os started H enc)
end Go.Proofs.Ytpkgpkabmechkaa
