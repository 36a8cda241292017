/- Contracts: tape.Trim. -/
import Derived.Test.YtpkgpkabmechkaaGreatPqM4x
import Derived.Deep.RegionLaw
namespace Go.Proofs.YtpkgpkabmechkaaGreat
set_option linter.unusedSimpArgs false
set_option linter.unusedVariables false
open Go.RowKit Go.Shelf
open Fl
attribute [local go_sem] Oper.semAt_some

def OutUInv (Wm : World) (S NB nO nN : Nat) (outs : Nat → Int) (i : Value) (wr : World) : Prop := ∃ j : Nat, i = .int .i64 j ∧ j ≤ nN ∧ TrW Wm S NB nO (outU outs j) wr

def L2Inv (W5 : World) (V : Int) (nO : Nat) (U : Nat → Bool) (ops : Nat → OpT) (i : Value) (wr : World) : Prop :=
  ∃ (k : Nat) (vL : Value), i = .int .i64 k ∧ k ≤ nO ∧ LW W5 W5.heap.size V nO (trU U ops k).L (trU U ops k).L (trU U ops k).ix vL wr

def L3Inv (W5 Wl : World) (V : Int) (vL : Value) (f : Nat → Int) (nN : Nat) (i : Value) (wr : World) : Prop :=
  ∃ (j : Nat) (vN : Value), i = .int .i64 j ∧ j ≤ nN ∧ OW W5 Wl W5.heap.size V vL vN f j wr

set_option maxHeartbeats 16000000 in
set_option maxRecDepth 100000 in
theorem trim_c {V : Int} {vO vN : Value} {ops : Nat → OpT} {outs : Nat → Int} {nO nN : Nat} {w : World} (hO : OpsAt w vO ops nO) (hN : OutsAt w vN outs nN) :
    Calls Tryz.prog 50 #[.agg #[.int .i64 V, vO, vN]] w (TrimRes w (TapeR V nO ops nN outs) V (trimL ops outs nO nN) (trimO ops outs nO nN) nN) := by
  obtain ⟨AO, cO, rfl, hO1⟩ := id hO
  obtain ⟨AN, cN, rfl, hN1⟩ := id hN
  have b0 : Below w.heap.size w ((w.alloc (Obj.cells #[.int .i64 V, .slice AO nO cO, .slice AN nN cN] 45)).alloc (Obj.cells #[.int .i64 0, .slice none 0 0, .slice none 0 0] 45)) := ((Below.refl _ _).alloc (Nat.le_refl _) _).alloc (by simp) _
  have RT := tright_any V _ _ ops outs nO nN _ (hO.below b0) (hN.below b0)
  by_cases hT : TapeR V nO ops nN outs
  · rw [if_pos hT] at RT
    have HT := Lib.hid hT
    have HO := Lib.hid hO
    have HN := Lib.hid hN
    clear hO hN hO1 hN1
    refine (callsIn_wide (n := 10)).1 (callsIn_of_wp_marks Tryz.func50 rfl trivial ?_ rfl)
    simp only [Tryz.ntmps50, List.size_toArray, List.length_cons, List.length_nil, Nat.reduceAdd, Nat.reduceSub, Array.replicate_succ, Array.replicate_zero, List.push_toArray, List.append_toArray, List.nil_append, List.cons_append]
    refine wpIn_wide.2 ?_
    obtain ⟨i0, hi, hz0, hz1, hz2⟩ := info_parts info4
    go_upto_region 4 with (go_at_call 49; (with_reducible refine RT.mono ?_); rintro _ w2 ⟨rfl, hb2⟩)
    have tb : TapeBox w2 w.heap.size V (.slice AO nO cO) (.slice AN nN cN) := ((TapeBox.new w V _ _).below ((Below.refl _ _).alloc (Nat.le_refl _) _)).below hb2
    have rb : TapeBox w2 (w.heap.size + 1) 0 (.slice none 0 0) (.slice none 0 0) := by
      have := (TapeBox.new (w.alloc (Obj.cells #[.int .i64 V, .slice AO nO cO, .slice AN nN cN] 45)) 0 (.slice none 0 0) (.slice none 0 0)).below hb2
      simpa using this
    have bw2 : Below w.heap.size w w2 := b0.trans (hb2.mono b0.size)
    have g0 := tb.c0
    have g1 := tb.c1
    have g2 := tb.c2
    have HB := Lib.hid (show _ ∧ _ ∧ _ from ⟨tb, rb, bw2⟩)
    clear RT b0 hb2 tb rb bw2
    have hn1 : nO ≤ 4000 := HT.out.2.2.1
    go_upto_region 5 with (at_make; refine wpList_make_full _ rfl _ _ 109 rfl w2.heap.size 4 i0 (.bool false) 1 Tryz.underlying109 hi hz0 hz1 _ _ _ _ nO rfl rfl rfl rfl (by rw [hz2]; omega) (by unfold maxLen; omega) (Nat.le_refl _) ?_; intro w3 hown3 hg3)
    refine cut_worldM (fun W4 hW => ?_)
    have t0 : TrW w2 w2.heap.size w3.heap.size nO (outU outs 0) W4 := by
      have hr := made_row hown3 rfl
      have hb4 : Below w3.heap.size w3 W4 := by rw [← hW]; exact (Below.refl _ _).alloc (Nat.le_refl _) _
      refine ⟨hr.below hb4, hr.lt, by rw [← hW]; simp [go_sem], ?_⟩
      have := (Below.refl w2.heap.size w2).grown hg3 (Nat.le_refl _) (fun k hk => by cases hk)
      exact this.trans (hb4.mono this.size)
    clear hg3 hown3 hW
    generalize w3.heap.size = NB at *
    clear w3
    have g0 := cellBelow t0.bel g0
    have g1 := cellBelow t0.bel g1
    have g2 := cellBelow t0.bel g2
    go_wp2
    go_loopw [34] (fun i wr => OutUInv w2 w2.heap.size NB nO nN outs i wr) (fun i _ => nN - (intOf i).toNat)
    case atStart => exact ⟨0, rfl, Nat.zero_le _, t0⟩
    case round =>
      obtain ⟨k, rfl, hk, ht⟩ := hrel
      have hn2 : nN ≤ 400 := HT.out.2.2.2.1
      have hk2 : (k : Int) ≤ 400 := by omega
      by_cases hkn : k < nN
      · obtain ⟨A', c', e', hN1⟩ := HN.out
        cases e'
        obtain ⟨b, o, eA, d0⟩ := hN1 k hkn
        subst eA
        have d0 := cellBelow ht.bel (cellBelow HB.out.2.2 d0)
        have hb := HT.out.2.2.2.2.2 k hkn
        unfold badO at hb
        rw [Bool.or_eq_false_iff, decide_eq_false_iff_not, decide_eq_false_iff_not] at hb
        obtain ⟨m, hm⟩ : ∃ m : Nat, outs k = m := ⟨(outs k).toNat, by omega⟩
        have hU : outU outs (k + 1) = setF (outU outs k) m true := by show setF (outU outs k) (outs k).toNat true = _; rw [hm]; rfl
        rw [hm] at d0 hb
        have hmO : m < nO := by omega
        have n0 := ht.nb
        have m0 := ht.get hmO
        have m1 := ht.fz hmO
        clear hb hN1
        go_wp2
        go_roundw
        case rel => exact ⟨k + 1, by go_num, hkn, by rw [hU]; exact ht.set hmO⟩
        case measure => simp [intOf]; omega
      · obtain rfl : k = nN := by omega
        have n0 := ht.nb
        have g0 := cellBelow ht.bel HB.out.1.c0
        have g1 := cellBelow ht.bel HB.out.1.c1
        have g2 := cellBelow ht.bel HB.out.1.c2
        clear t0
        go_wp2_with (go_at_call 112; refine ((callsIn_wide (n := 10)).1 (back_in Fence.wide 10 trivial rfl _ _ _ _)).mono ?_; rintro _ _ ⟨rfl, rfl⟩)
        refine (wpIn_wide (n := 10)).1 ?_
        have hc : (wr.alloc (Obj.cells #[Value.slice AO nO cO] 42)).cell? ⟨wr.heap.size, 0, none⟩ = some (.slice AO nO cO) := by simp [go_sem]
        have ht2 := ht.below ((Below.refl _ _).alloc (Nat.le_refl _) (Obj.cells #[Value.slice AO nO cO] 42))
        have hNBw := ht.lt
        have hsn := ht.sn
        refine range_back (n := 10) rfl (by omega) (Wm := w2) (S := w2.heap.size) (NB := NB) (BS := wr.heap.size) (cap := cO) (ops := ops) (u0 := outU outs k) hn1 rfl (HO.out.below HB.out.2.2) rfl ht.lt hc ht2
          (fun T x b => { tmps := (((T.setIfInBounds 45 (.int .i64 (x.val : Int))).setIfInBounds 46 (opV (ops x.val))).setIfInBounds 8 (.int .i64 (x.val : Int))).setIfInBounds 9 (.pointer (some ⟨b, 0, none⟩)), defers := [] }) ?assign ?body ?done
        case assign =>
          intro l x W K hs hK
          unfold encB opV
          gi_wp2
          exact hK _ _ rfl rfl
        case body =>
          intro l u x b W Q' ht hb hs hK
          have hor := op_need (HT.out.2.2.2.2.1 x.val x.2)
          have hnd := needs_any (ops x.val).K
          have c0 := hb.c0
          have c1 := hb.c1
          have c2 := hb.c2
          have n0 := ht.nb
          have x0 := ht.get x.2
          have hx : (x.val : Int) ≤ 4000 := by have := x.2; omega
          have hxn := x.2
          obtain ⟨xv, hxv⟩ := x
          simp only at c0 c1 c2 x0 hx hor hnd hb hxn hK ⊢
          obtain ⟨ux, hux⟩ : ∃ b, u xv = b := ⟨_, rfl⟩
          rw [hux] at x0
          have HK := Lib.hid hK
          have HU := Lib.hid hux
          clear hK hux g0 g1 g2
          haveI ge1 : Ge W (NB + 1) := ⟨ht.lt⟩
          haveI ge2 : Ge W (b + 1) := ⟨hb.lt⟩
          haveI ge3 : Ge W (w2.heap.size + 1) := ⟨ht.row.lt⟩
          cases ux
          · have hs0 : stepU (ops xv) xv u = u := by unfold stepU; rw [if_neg (by rw [HU.out]; simp)]
            rw [hs0] at HK
            gi_wp2_with (refine ⟨trivial, ?_⟩; gi_at_call 113; refine (CallsIn.inRound l (callsIn_wide.2 (hnd.go _))).mono ?_; rintro _ _ ⟨n, rfl, rfl⟩)
            exact HK.out _ _ (ht.below n.below) (keeps_below n.below) (ButS.below (Nat.le_trans hs (Nat.le_of_lt hb.lt)) n.below)
          · rcases hor with e | ⟨e, a1, a2⟩ | ⟨e, a1, a2, b1, b2⟩
            · rw [e] at hnd
              have hs0 : stepU (ops xv) xv u = u := by unfold stepU; rw [if_neg (by rw [e]; simp)]
              rw [hs0] at HK
              gi_wp2_with (refine ⟨trivial, ?_⟩; gi_at_call 113; refine (CallsIn.inRound l (callsIn_wide.2 (hnd.go _))).mono ?_; rintro _ _ ⟨n, rfl, rfl⟩)
              exact HK.out _ _ (ht.below n.below) (keeps_below n.below) (ButS.below (Nat.le_trans hs (Nat.le_of_lt hb.lt)) n.below)
            · rw [e] at hnd
              obtain ⟨mA, hmA⟩ : ∃ m : Nat, (ops xv).A = m := ⟨(ops xv).A.toNat, by omega⟩
              have hs0 : stepU (ops xv) xv u = setF u mA true := by unfold stepU; rw [if_pos ⟨HU.out, by rw [e]; decide⟩, if_neg (by rw [e]; decide), hmA]; rfl
              rw [hs0] at HK
              rw [hmA] at c1 a1 a2
              have hAn : mA < nO := by omega
              have y0 := ht.get hAn
              have y1 := ht.fz hAn
              gi_wp2_with (refine ⟨trivial, ?_⟩; gi_at_call 113; refine (CallsIn.inRound l (callsIn_wide.2 (hnd.go _))).mono ?_; rintro _ _ ⟨n, rfl, rfl⟩)
              exact HK.out _ _ ((ht.below n.below).set hAn) ((keeps_below n.below).trans (KeepsOthers.setCell _ _ _)) ((ButS.below (Nat.le_trans hs (Nat.le_of_lt hb.lt)) n.below).trans (ButS.set _ _ _))
            · rw [e] at hnd
              obtain ⟨mA, hmA⟩ : ∃ m : Nat, (ops xv).A = m := ⟨(ops xv).A.toNat, by omega⟩
              obtain ⟨mB, hmB⟩ : ∃ m : Nat, (ops xv).B = m := ⟨(ops xv).B.toNat, by omega⟩
              have hs0 : stepU (ops xv) xv u = setF (setF u mA true) mB true := by unfold stepU; rw [if_pos ⟨HU.out, by rw [e]; decide⟩, if_pos (by rw [e]; decide), hmA, hmB]; rfl
              rw [hs0] at HK
              rw [hmA] at c1 a1 a2
              rw [hmB] at c2 b1 b2
              have hAn : mA < nO := by omega
              have hBn : mB < nO := by omega
              have y0 := ht.get hAn
              have y1 := ht.fz hAn
              have z0 := ht.get hBn
              have z1 := ht.fz hBn
              have q0 : (NB == w2.heap.size) = false := by have := ht.sn; simp; omega
              have q1 : NB ≠ w2.heap.size := by have := ht.sn; omega
              have q2 : b ≠ w2.heap.size := by omega
              by_cases hAB : mA = mB
              · subst hAB
                gi_wp2_with (refine ⟨trivial, ?_⟩; gi_at_call 113; refine (CallsIn.inRound l (callsIn_wide.2 (hnd.go _))).mono ?_; rintro _ _ ⟨n, rfl, rfl⟩)
                exact HK.out _ _ (((ht.below n.below).set hAn).set hBn) (((keeps_below n.below).trans (KeepsOthers.setCell _ _ _)).trans (KeepsOthers.setCell _ _ _)) (((ButS.below (Nat.le_trans hs (Nat.le_of_lt hb.lt)) n.below).trans (ButS.set _ _ _)).trans (ButS.set _ _ _))
              · have hBA : ¬ mB = mA := fun e => hAB e.symm
                gi_wp2_with (refine ⟨trivial, ?_⟩; gi_at_call 113; refine (CallsIn.inRound l (callsIn_wide.2 (hnd.go _))).mono ?_; rintro _ _ ⟨n, rfl, rfl⟩)
                exact HK.out _ _ (((ht.below n.below).set hAn).set hBn) (((keeps_below n.below).trans (KeepsOthers.setCell _ _ _)).trans (KeepsOthers.setCell _ _ _)) (((ButS.below (Nat.le_trans hs (Nat.le_of_lt hb.lt)) n.below).trans (ButS.set _ _ _)).trans (ButS.set _ _ _))
        case done =>
          intro D W5 hD ht5 hK
          have hbw5 : Below w.heap.size w W5 := HB.out.2.2.trans (ht5.bel.mono HB.out.2.2.size)
          have tb5 := HB.out.1.below ht5.bel
          have g0 := tb5.c0
          have g1 := tb5.c1
          have g2 := tb5.c2
          have hmm := @run_makeMap Tryz.prog
          haveI ge5 : Ge W5 (w.heap.size + 1) := ⟨tb5.lt⟩
          obtain ⟨j0, hj, hw0, hw1, hw2⟩ := info_parts info3
          have hDw : w.heap.size + 2 ≤ D := by have := HB.out.2.1.lt; omega
          clear ht ht2 hc hNBw hsn n0
          go_upto_region 21 with (at_make; refine wpList_make_full _ rfl _ _ 43 rfl (W5.heap.size + 2) 3 j0 (.int .i64 0) 1 Tryz.underlying43 hj hw0 hw1 _ _ _ _ nO rfl rfl rfl rfl (by rw [hw2]; omega) (by unfold maxLen; omega) (by simp) ?_; intro w6 hown6 hg6)
          have hlw0 : LW W5 W5.heap.size V nO [] [] (fun _ => 0) (.slice none 0 0) w6 := by
            have hb6 := (Below.refl (W5.heap.size + 2) ((W5.alloc (Obj.cells #[.int .i64 V, .slice none 0 0, .slice none 0 0] 45)).alloc (Obj.map #[] 0))).grown hg6 (by simp) (fun k hk => by cases hk)
            have hb5 : Below W5.heap.size W5 ((W5.alloc (Obj.cells #[.int .i64 V, .slice none 0 0, .slice none 0 0] 45)).alloc (Obj.map #[] 0)) := ((Below.refl _ _).alloc (Nat.le_refl _) _).alloc (by simp) _
            have t1 := (TapeBox.new W5 V (.slice none 0 0) (.slice none 0 0)).below ((Below.refl _ _).alloc (Nat.le_refl _) (Obj.map #[] 0))
            have m1 : MapT ((W5.alloc (Obj.cells #[.int .i64 V, .slice none 0 0, .slice none 0 0] 45)).alloc (Obj.map #[] 0)) (W5.heap.size + 1) [] := by
              have := heap_alloc_new (W5.alloc (Obj.cells #[.int .i64 V, .slice none 0 0, .slice none 0 0] 45)) (Obj.map #[] 0)
              unfold MapT entsT
              simpa using this
            have hr : RowB w6 (W5.heap.size + 2) (fun _ => .int .i64 0) nO := by
              have := made_row hown6 rfl
              simpa using this
            exact ⟨t1.belowB hb6 (by omega), (hb6.block _ (by omega)).trans m1, hr, ownOp_nil _ _, hb5.trans (hb6.mono (by omega))⟩
          have hlt6 := hlw0.lt
          have g0 := cellBelow hlw0.bel g0
          have g1 := cellBelow hlw0.bel g1
          have g2 := cellBelow hlw0.bel g2
          obtain ⟨U, hU⟩ : ∃ U, needF ops outs nO k = U := ⟨_, rfl⟩
          have hU' : backU ops nO (outU outs k) nO = U := hU
          rw [hU'] at ht5
          have HU := Lib.hid hU
          have HK := Lib.hid hK
          have H5 := Lib.hid (show _ ∧ _ ∧ _ from ⟨hbw5, tb5, hDw⟩)
          have hl5 := ht5.lt
          have hr5 := ht5.row.lt
          have ht5r := tb5.lt
          clear hown6 hg6 hU hU' hmm hK hbw5 tb5 hD hDw
          go_wp2
          go_loopw [79] (fun i wr => L2Inv W5 V nO U ops i wr) (fun i _ => nO - (intOf i).toNat)
          case atStart => exact ⟨0, _, rfl, Nat.zero_le _, hlw0⟩
          case round =>
            obtain ⟨j, vL, rfl, hj, hlw⟩ := hrel
            have hwl := hlw.lt
            have hj2 : (j : Int) ≤ 4000 := by omega
            have n0 := cellBelow hlw.bel ht5.nb
            haveI gg1 : Ge wr (NB + 1) := ⟨by omega⟩
            haveI gg2 : Ge wr (w2.heap.size + 1) := ⟨by omega⟩
            haveI gg3 : Ge wr (w.heap.size + 1) := ⟨by omega⟩
            haveI gg4 : Ge wr (W5.heap.size + 1 + 1 + 1) := ⟨by omega⟩
            haveI gg5 : Ge wr (W5.heap.size + 1) := ⟨by omega⟩
            have HLW := Lib.hid hlw
            by_cases hjn : j < nO
            · obtain ⟨A', c', e', hO1⟩ := HO.out
              cases e'
              obtain ⟨b, o, eA, l1, l2, d0, d1, d2, d3, d4, d5⟩ := hO1 j hjn
              subst eA
              have hbw := H5.out.1.trans (hlw.bel.mono H5.out.1.size)
              have d0 := cellBelow hbw d0
              have d1 := cellBelow hbw d1
              have d2 := cellBelow hbw d2
              have d3 := cellBelow hbw d3
              have d4 := cellBelow hbw d4
              have d5 := cellBelow hbw d5
              have hor := op_need (HT.out.2.2.2.2.1 j hjn)
              have u0 := cellBelow hlw.bel (ht5.get hjn)
              have hal : Below wr.heap.size wr (wr.alloc (Obj.cells #[.int .i64 (ops j).K, .int .i64 (ops j).A, .int .i64 (ops j).B, .int .i64 (ops j).N, (.float .f64 ((ops j).lo)), (.float .f64 ((ops j).hi))] 66)) := (Below.refl _ _).alloc (Nat.le_refl _) _
              have HOR := Lib.hid (show _ ∧ _ ∧ _ from ⟨hor, l1, l2⟩)
              clear hO1 hor l1 l2 hlw hbw
              rcases hu : U j with _ | _
              · rw [hu] at u0
                have HS := Lib.hid (trU_skip (ops := ops) hu)
                clear hu
                go_wp2
                go_roundw
                case rel => exact ⟨j + 1, vL, by go_num, hjn, by rw [HS.out]; exact HLW.out.below hal⟩
                case measure => simp [intOf]; omega
              · rw [hu] at u0
                have HUJ := Lib.hid hu
                clear hu
                have BR := bare_any (ops j)
                unfold opV at BR
                have hb0 : OpBox (wr.alloc (Obj.cells #[.int .i64 (ops j).K, .int .i64 (ops j).A, .int .i64 (ops j).B, .int .i64 (ops j).N, (.float .f64 ((ops j).lo)), (.float .f64 ((ops j).hi))] 66)) wr.heap.size (ops j) := OpBox.new _ _
                have HB0 := Lib.hid (show _ ∧ _ from ⟨hb0, hal⟩)
                clear hb0 hal
                go_upto_region 26 with (go_at_call 114; refine (BR.go _).mono ?_; rintro _ _ ⟨n, rfl, rfl⟩)
                refine cut_worldM (fun W8 hW8 => ?_)
                have hob : OpBox W8 wr.heap.size (bareT (ops j)) := by rw [← hW8]; exact (HB0.out.1.below n.below).set6 _
                have hvb : ∀ g, vL.ownBlock = some g → wr.heap.size ≠ g := fun g hg e => by have := (HLW.out.own.lt g hg).2; omega
                have hlw : LW W5 W5.heap.size V nO (trU U ops j).L (trU U ops j).L (trU U ops j).ix vL W8 := by rw [← hW8]; exact ((HLW.out.below HB0.out.2).below n.below).far6 hwl hvb _ _ _ _ _ _
                have hbo := hwl
                generalize wr.heap.size = ob at *
                have e0 := hob.c0
                have e1 := hob.c1
                have e2 := hob.c2
                have f1 := hob.fz 1 (by omega)
                have f2 := hob.fz 2 (by omega)
                have hwl8 := hlw.lt
                have hol8 := hob.lt
                haveI ge1 : Ge W8 (W5.heap.size + 1 + 1 + 1) := ⟨by omega⟩
                haveI ge2 : Ge W8 (W5.heap.size + 1) := ⟨by omega⟩
                haveI ge3 : Ge W8 (ob + 1) := ⟨hol8⟩
                haveI ge4 : Ge W8 (w.heap.size + 1) := ⟨by omega⟩
                have hnd := needs_any (ops j).K
                have eK : (bareT (ops j)).K = (ops j).K := rfl
                rw [eK] at e0
                clear hW8 BR d0 d1 d2 d3 d4 d5 u0 n0 gg1 gg2 gg3 gg4 gg5 g0 g1 g2
                clear n
                rcases HOR.out.1 with e | ⟨e, a1, a2⟩ | ⟨e, a1, a2, b1, b2⟩
                focus
                  rw [e] at hnd
                  go_upto_region 31 with (go_at_call 113; refine (hnd.go _).mono ?_; rintro _ _ ⟨n, rfl, rfl⟩)
                  refine cut_worldM (fun W9 hW9 => ?_)
                  have hob9 : OpBox W9 ob (subT (ops j) (trU U ops j).ix) := by rw [sub_0 e, ← hW9]; exact hob.below n.below
                  have hlw9 : LW W5 W5.heap.size V nO (trU U ops j).L (trU U ops j).L (trU U ops j).ix vL W9 := by rw [← hW9]; exact hlw.below n.below
                  clear hW9 n
                rotate_left
                focus
                  rw [e] at hnd
                  obtain ⟨mA, hmA⟩ : ∃ m : Nat, (ops j).A = m := ⟨(ops j).A.toNat, by omega⟩
                  rw [hmA] at a1 a2
                  have hAn : mA < nO := by omega
                  have y0 : W8.cell? ⟨W5.heap.size + 1 + 1, mA, none⟩ = some (.int .i64 ((trU U ops j).ix mA)) := hlw.get hAn
                  have eA : (bareT (ops j)).A = mA := by unfold bareT; rw [← hmA]; exact if_pos (by rw [e]; decide)
                  rw [eA] at e1
                  go_upto_region 31 with (go_at_call 113; refine (hnd.go _).mono ?_; rintro _ _ ⟨n, rfl, rfl⟩)
                  refine cut_worldM (fun W9 hW9 => ?_)
                  have hob9 : OpBox W9 ob (subT (ops j) (trU U ops j).ix) := by rw [sub_1 e, ← hW9, hmA]; exact (hob.below n.below).setA _
                  have hlw9 : LW W5 W5.heap.size V nO (trU U ops j).L (trU U ops j).L (trU U ops j).ix vL W9 := by rw [← hW9]; exact (hlw.below n.below).far _ hbo hvb
                  clear hW9 n y0 eA
                rotate_left
                focus
                  rw [e] at hnd
                  obtain ⟨mA, hmA⟩ : ∃ m : Nat, (ops j).A = m := ⟨(ops j).A.toNat, by omega⟩
                  obtain ⟨mB, hmB⟩ : ∃ m : Nat, (ops j).B = m := ⟨(ops j).B.toNat, by omega⟩
                  rw [hmA] at a1 a2
                  rw [hmB] at b1 b2
                  have hAn : mA < nO := by omega
                  have hBn : mB < nO := by omega
                  have y0 : W8.cell? ⟨W5.heap.size + 1 + 1, mA, none⟩ = some (.int .i64 ((trU U ops j).ix mA)) := hlw.get hAn
                  have y1 : W8.cell? ⟨W5.heap.size + 1 + 1, mB, none⟩ = some (.int .i64 ((trU U ops j).ix mB)) := hlw.get hBn
                  have eA : (bareT (ops j)).A = mA := by unfold bareT; rw [← hmA]; exact if_pos (by rw [e]; decide)
                  have eB : (bareT (ops j)).B = mB := by unfold bareT; rw [← hmB]; exact if_pos (by rw [e]; decide)
                  rw [eA] at e1
                  rw [eB] at e2
                  have q1 : ¬ (W5.heap.size + 2 = ob) := by omega
                  have q2 : ¬ (W5.heap.size + 1 + 1 = ob) := by omega
                  go_upto_region 31 with (go_at_call 113; refine (hnd.go _).mono ?_; rintro _ _ ⟨n, rfl, rfl⟩)
                  refine cut_worldM (fun W9 hW9 => ?_)
                  have hob9 : OpBox W9 ob (subT (ops j) (trU U ops j).ix) := by rw [sub_2 e, ← hW9, hmA, hmB]; exact ((hob.below n.below).setA _).setB _
                  have hlw9 : LW W5 W5.heap.size V nO (trU U ops j).L (trU U ops j).L (trU U ops j).ix vL W9 := by rw [← hW9]; exact ((hlw.below n.below).far _ hbo hvb).far _ hbo hvb
                  clear hW9 n y0 y1 eA eB q1 q2
                rotate_left
                all_goals
                  clear hob hlw e0 e1 e2 f1 f2 hwl8 hol8 ge1 ge2 ge3 ge4 hnd
                  have hlits := sub_lits (ix := (trU U ops j).ix) HOR.out.2
                  have Hold := fun i => trU_old (ops := ops) (j := i) HUJ.out
                  have Hnew := trU_new (ops := ops) HUJ.out
                  obtain ⟨p, hp⟩ : ∃ p, subT (ops j) (trU U ops j).ix = p := ⟨_, rfl⟩
                  rw [hp] at hob9 hlits Hnew
                  simp only [hp] at Hold
                  have HHN := Lib.hid (show _ ∧ _ from ⟨Hold, Hnew⟩)
                  have c0 := hob9.c0
                  have c1 := hob9.c1
                  have c2 := hob9.c2
                  have c3 := hob9.c3
                  have c4 := hob9.c4
                  have c5 := hob9.c5
                  have hwl9 := hlw9.lt
                  have hol9 := hob9.lt
                  have t1 := hlw9.ob.c1
                  have z0 := hlw9.get hjn
                  have z1 := hlw9.fz hjn
                  have hLL := trU_len U ops j
                  clear Hold Hnew hp
                  haveI ge1 : Ge W9 (W5.heap.size + 1 + 1 + 1) := ⟨by omega⟩
                  haveI ge2 : Ge W9 (W5.heap.size + 1) := ⟨by omega⟩
                  haveI ge3 : Ge W9 (ob + 1) := ⟨hol9⟩
                  haveI ge4 : Ge W9 (w.heap.size + 1) := ⟨by omega⟩
                  rcases hf : findT p (trU U ops j).L with _ | i
                  · obtain ⟨AL, cL, eL⟩ := hlw9.own.slice
                    subst eL
                    have hL3 : (trU U ops j).L.length ≤ 3000000 := by omega
                    go_wp2_with (first
                      | (at_lookup; refine wpList_lookT _ rfl _ _ rfl rfl hlw9.mp p rfl 0 false (Or.inr ⟨hf, rfl, rfl⟩) ?_)
                      | (at_mapUpdate; refine wpList_putT _ rfl _ _ _ rfl rfl hlw9.mp p rfl rfl hf ?_; intro w10 hm10 hg10; have hlw10 := hlw9.mapped hm10 hg10; have hob10 := hob9.grown hg10 (by simp; omega); have c0' := hob10.c0; have c1' := hob10.c1; have c2' := hob10.c2; have c3' := hob10.c3; have c4' := hob10.c4; have c5' := hob10.c5; have t1' := hlw10.ob.c1; have hwl10 := hlw10.lt; haveI ge5 : Ge w10 (ob + 1) := ⟨hob10.lt⟩; haveI ge6 : Ge w10 (W5.heap.size + 1) := ⟨by omega⟩)
                      | (at_builtin; refine wpList_append_op rfl (by rfl) rfl rfl (OpBox.new w10 p) (hlw10.own.below ((Below.refl _ _).alloc (Nat.le_refl _) _)) hlits hL3 (by simp; omega) ?_; intro g cap w11 ho11 hb11; rw [show ((trU U ops j).L ++ [p]).length = (trU U ops j).L.length + 1 from List.length_append] at ho11; have hlwA := hlw10.below ((Below.refl _ _).alloc (Nat.le_refl _) (Obj.cells #[.int .i64 p.K, .int .i64 p.A, .int .i64 p.B, .int .i64 p.N, (.float .f64 p.lo), (.float .f64 p.hi)] 66)); have ht11 := hlwA.ob.belowB hb11 (by omega); have t2 := ht11.c1; have t3 := ht11.fz 1 (by omega); have z2 : w11.cell? ⟨W5.heap.size + 1 + 1, j, none⟩ = some (.int .i64 ((trU U ops j).ix j)) := (hb11.cell (p := ⟨W5.heap.size + 1 + 1, j, none⟩) (by simp)).trans (hlwA.get hjn); have z3 : w11.frozen? ⟨W5.heap.size + 1 + 1, j, none⟩ = false := (hb11.frozen (p := ⟨W5.heap.size + 1 + 1, j, none⟩) (by simp)).trans (hlwA.fz hjn); have hlw11 := hlwA.appended ho11 hb11; clear hlwA))
                    go_roundw
                    case rel => exact ⟨j + 1, _, by go_num, hjn, by rw [HHN.out.2 hf]; exact hlw11.set hjn _⟩
                    case measure => simp [intOf]; omega
                  · go_wp2_with (at_lookup; refine wpList_lookT _ rfl _ _ rfl rfl hlw9.mp p rfl (i : Int) true (Or.inl ⟨by simpa using hf, rfl, by omega⟩) ?_)
                    go_roundw
                    case rel => exact ⟨j + 1, vL, by go_num, hjn, by rw [HHN.out.1 i hf]; exact hlw9.set hjn _⟩
                    case measure => simp [intOf]; omega
            · obtain rfl : j = nO := by omega
              have hbw := H5.out.1.trans (hlw.bel.mono H5.out.1.size)
              have g0 := cellBelow hlw.bel H5.out.2.1.c0
              have g1 := cellBelow hlw.bel H5.out.2.1.c1
              have g2 := cellBelow hlw.bel H5.out.2.1.c2
              have f0 : ∀ i, trimO ops outs j k i = (trU U ops j).ix (outs i).toNat := fun i => by unfold trimO; rw [HU.out]
              obtain ⟨f, hf⟩ : ∃ f, trimO ops outs j k = f := ⟨_, rfl⟩
              have hL : trimL ops outs j k = (trU U ops j).L := by unfold trimL; rw [HU.out]
              rw [hf] at f0
              have HF := Lib.hid (show _ ∧ _ ∧ _ from ⟨f0, hf, hL⟩)
              clear f0 hf hL
              obtain ⟨Wl, hWl⟩ : ∃ Wl, wr = Wl := ⟨_, rfl⟩
              have how0 : OW W5 Wl W5.heap.size V vL (.slice none 0 0) f 0 wr := by
                subst hWl
                exact ⟨hlw.ob, ownInt_nil _ _ _, ButS.refl _, hlw.bel, by omega⟩
              rw [hWl] at hwl
              have HWL := Lib.hid hWl
              clear hWl hlw hbw
              go_wp2
              go_loopw [138] (fun i wr => L3Inv W5 Wl V vL f k i wr) (fun i _ => k - (intOf i).toNat)
              case atStart => exact ⟨0, _, rfl, Nat.zero_le _, how0⟩
              case round =>
                obtain ⟨i, vN, rfl, hi3, how⟩ := hrel
                have hws := how.but.size
                haveI gh1 : Ge wr (W5.heap.size + 1) := ⟨by omega⟩
                haveI gh2 : Ge wr (W5.heap.size + 1 + 1 + 1) := ⟨by omega⟩
                haveI gh3 : Ge wr (w.heap.size + 1) := ⟨by omega⟩
                have hi4 : (i : Int) ≤ 400 := by have : k ≤ 400 := hn2; omega
                by_cases hin : i < k
                · obtain ⟨A', c', e', hN1⟩ := HN.out
                  cases e'
                  obtain ⟨b, o, eA, d0⟩ := hN1 i hin
                  subst eA
                  have hbw := H5.out.1.trans (how.bel.mono H5.out.1.size)
                  have d0 := cellBelow hbw d0
                  have hb := HT.out.2.2.2.2.2 i hin
                  unfold badO at hb
                  rw [Bool.or_eq_false_iff, decide_eq_false_iff_not, decide_eq_false_iff_not] at hb
                  obtain ⟨m, hm⟩ : ∃ m : Nat, outs i = m := ⟨(outs i).toNat, by omega⟩
                  rw [hm] at d0 hb
                  have hmO : m < j := by omega
                  have hfi : f i = (trU U ops j).ix m := by rw [HF.out.1, hm]; rfl
                  have y0 : wr.cell? ⟨W5.heap.size + 1 + 1, m, none⟩ = some (.int .i64 ((trU U ops j).ix m)) := by
                    rw [how.but.cell (W5.heap.size + 2) ⟨by omega, by omega⟩ m, ← HWL.out]
                    exact HLW.out.get hmO
                  have t2 := how.ob.c2
                  have t3 := how.ob.fz 2 (by omega)
                  generalize (trU U ops j).ix m = x at *
                  clear hb hN1 hbw
                  obtain ⟨A2, c2, eN⟩ := how.own.slice
                  subst eN
                  have hown := how.own
                  have qa := how.lt
                  have qb : W5.heap.size + 1 + 1 < Wl.heap.size := by omega
                  go_wp2_with (fail)
                  refine wp_region_noPanic ?_
                  go_region_law (first | (refine step_append_int (fr := (0, 0)) (i := x) rfl (by rfl) (by rfl) (by rfl) (by (repeat' (first | (with_reducible refine at_drewM ?_) | (with_reducible refine at_newM ?_; (first | rfl | (simp; done))) | (with_reducible refine at_oldM ?_)))) (OwnInt.below hown (by (repeat' first | (with_reducible first | exact Below.refl _ _ | assumption | refine Later.belowOf _ ?_ ?_ | refine Below.alloc ?_ ?_ _ | refine Below.setCell ?_ ?_ _ | refine Below.drewN' _ ?_ | refine Below.drew ?_ | exact Ge.le) | go_size))) hfi (by omega) (by first | omega | (simp; omega)) ?_; intro g cap w11 ho11 hb11; have t4 : w11.cell? ⟨W5.heap.size, 2, none⟩ = some (.slice A2 i c2) := (hb11.cell (p := ⟨W5.heap.size, 2, none⟩) how.lt).trans (by simp [go_sem, t2]); have y4 : w11.cell? ⟨W5.heap.size + 1 + 1, m, none⟩ = some (.int .i64 x) := (hb11.cell (p := ⟨W5.heap.size + 1 + 1, m, none⟩) qb).trans (by first | assumption | (simp [go_sem, y0]; done)); have t5 : w11.frozen? ⟨W5.heap.size, 2, none⟩ = false := (hb11.frozen (p := ⟨W5.heap.size, 2, none⟩) how.lt).trans (by simp [go_sem, t3])))
                  all_goals
                    refine NoPanic.normal ?_
                    go_wp2
                    go_roundw
                    case rel => exact ⟨i + 1, _, by go_num, hin, how.next ho11 (Below.trans (by (repeat' first | (with_reducible first | exact Below.refl _ _ | assumption | refine Later.belowOf _ ?_ ?_ | refine Below.alloc ?_ ?_ _ | refine Below.setCell ?_ ?_ _ | refine Below.drewN' _ ?_ | refine Below.drew ?_ | exact Ge.le) | go_size)) hb11)⟩
                    case measure => simp [intOf]; omega
                · obtain rfl : i = k := by omega
                  have hs5 := H5.out.1.size
                  have rb5 := HB.out.2.1.below ht5.bel
                  have rb6 := rb5.belowB how.bel rb5.lt
                  have r0 := rb6.c0
                  have r1 := rb6.c1
                  have r2 := rb6.c2
                  have r3 := rb6.fz 0 (by omega)
                  have r4 := rb6.fz 1 (by omega)
                  have r5 := rb6.fz 2 (by omega)
                  have t0 := how.ob.c0
                  have t1 := how.ob.c1
                  have t2 := how.ob.c2
                  have hDl : D < W5.heap.size := (Array.getElem?_eq_some_iff.1 HK.out).1
                  have hK2 : wr.heap[D]? = some (.deferred (some [])) := (how.bel.block D hDl).trans HK.out
                  have hD2 := H5.out.2.2
                  obtain ⟨AL, cL, eL⟩ := HLW.out.own.slice
                  subst eL
                  obtain ⟨AM, cM, eN⟩ := how.own.slice
                  subst eN
                  have hRD : w.heap.size + 1 ≠ D := by omega
                  have hset := ((rb6.set0 V).set1 (.slice AL (trU U ops j).L.length cL)).set2 (.slice AM i cM)
                  have hKW : ((((wr.setCell ⟨w.heap.size + 1, 0, none⟩ (.int .i64 V)).setCell ⟨w.heap.size + 1, 1, none⟩ (.slice AL (trU U ops j).L.length cL)).setCell ⟨w.heap.size + 1, 2, none⟩ (.slice AM i cM))).heap[D]? = some (.deferred (some [])) := by
                    rw [Below.heap_setCell _ _ _ _ hRD.symm, Below.heap_setCell _ _ _ _ hRD.symm, Below.heap_setCell _ _ _ _ hRD.symm]
                    exact hK2
                  have hbf : Below w.heap.size w ((((wr.setCell ⟨w.heap.size + 1, 0, none⟩ (.int .i64 V)).setCell ⟨w.heap.size + 1, 1, none⟩ (.slice AL (trU U ops j).L.length cL)).setCell ⟨w.heap.size + 1, 2, none⟩ (.slice AM i cM))) :=
                    ((((H5.out.1.trans (how.bel.mono hs5)).setCell (p := ⟨w.heap.size + 1, 0, none⟩) (by simp) _).setCell (p := ⟨w.heap.size + 1, 1, none⟩) (by simp) _).setCell (p := ⟨w.heap.size + 1, 2, none⟩) (by simp) _)
                  have hfar : ∀ g, g ≠ w.heap.size + 1 → g ≠ D → (((((wr.setCell ⟨w.heap.size + 1, 0, none⟩ (.int .i64 V)).setCell ⟨w.heap.size + 1, 1, none⟩ (.slice AL (trU U ops j).L.length cL)).setCell ⟨w.heap.size + 1, 2, none⟩ (.slice AM i cM))).putObj D (.deferred none)).heap[g]? = wr.heap[g]? := fun g h1 h2 => by
                    rw [World.putObj_heap_other h2, Below.heap_setCell _ _ _ _ h1, Below.heap_setCell _ _ _ _ h1, Below.heap_setCell _ _ _ _ h1]
                  have hol := (HLW.out.own).far (w' := ((((wr.setCell ⟨w.heap.size + 1, 0, none⟩ (.int .i64 V)).setCell ⟨w.heap.size + 1, 1, none⟩ (.slice AL (trU U ops j).L.length cL)).setCell ⟨w.heap.size + 1, 2, none⟩ (.slice AM i cM))).putObj D (.deferred none)) (fun g hg => by
                    have hgl := HLW.out.own.lt g hg
                    rw [HWL.out] at hgl ⊢
                    rw [hfar g (by omega) (by omega)]
                    exact how.but.blk g hgl.2 (by omega))
                  have hon := (how.own).far (w' := ((((wr.setCell ⟨w.heap.size + 1, 0, none⟩ (.int .i64 V)).setCell ⟨w.heap.size + 1, 1, none⟩ (.slice AL (trU U ops j).L.length cL)).setCell ⟨w.heap.size + 1, 2, none⟩ (.slice AM i cM))).putObj D (.deferred none)) (fun g hg => by
                    have hgl := ownM_lt how.own g hg
                    exact hfar g (by omega) (by omega))
                  have hlW := hwl
                  go_wp2
                  generalize (((wr.setCell ⟨w.heap.size + 1, 0, none⟩ (.int .i64 V)).setCell ⟨w.heap.size + 1, 1, none⟩ (.slice AL (trU U ops j).L.length cL)).setCell ⟨w.heap.size + 1, 2, none⟩ (.slice AM i cM)) = Wz at *
                  have hz : TapeBox (Wz.putObj D (.deferred none)) (w.heap.size + 1) V (.slice AL (trU U ops j).L.length cL) (.slice AM i cM) := (World.putObj_heap_other hRD).trans hset
                  refine ⟨by simp, .inl ⟨_, _, rfl, run_takeDeferred hKW, ?_⟩⟩
                  refine ⟨.tuple #[.agg #[.int .i64 V, .slice AL (trU U ops j).L.length cL, .slice AM i cM], .int .i64 0], ?_, V, _, _, 0, rfl, ?_, fun h => absurd (by first | exact HT.out | trivial) h, fun _ => ⟨rfl, rfl, ?_, ?_⟩⟩
                  · have z0 := hz.c0
                    have z1 := hz.c1
                    have z2 := hz.c2
                    simp [results, Tryz.f50, go_sem, z0, z1, z2]
                  · exact hbf.trans (belowK_b (w := w) (Nat.le_refl _) _ D _ _ (by omega) hKW rfl rfl)
                  · rw [HF.out.2.2]; exact hol.ops
                  · rw [HF.out.2.1]; exact OwnInt.outs hon
  · rw [if_neg hT] at RT
    have HT := Lib.hid hT
    clear hT hO hN hO1 hN1 b0
    go_enter Tryz.func50, Tryz.ntmps50
    go_wp2_with (go_at_call 49; (with_reducible refine RT.mono ?_); rintro _ w2 ⟨rfl, hb2⟩; obtain ⟨n, rfl⟩ : ∃ n : Later ((w.alloc (Obj.cells #[.int .i64 V, .slice AO nO cO, .slice AN nN cN] 45)).alloc (Obj.cells #[.int .i64 0, .slice none 0 0, .slice none 0 0] 45)), w2 = n.val := ⟨⟨w2, hb2⟩, rfl⟩; clear RT hb2)
    go_returns
    exact ⟨_, _, _, _, rfl, by (repeat' first | (with_reducible first | exact Below.refl _ _ | assumption | refine Later.belowOf _ ?_ ?_ | refine Below.alloc ?_ ?_ _ | refine Below.setCell ?_ ?_ _ | refine Below.drewN' _ ?_ | refine Below.drew ?_ | exact Ge.le) | go_size), fun _ => ⟨rfl, rfl, rfl, rfl⟩, fun h => absurd h HT.out⟩
end Go.Proofs.YtpkgpkabmechkaaGreat
