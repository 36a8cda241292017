/- Contracts: the reference's Trim. -/
import Derived.Test.YtpkgpkabmechkaaM10
import Derived.Deep.RegionLaw
namespace Go.Proofs.Ytpkgpkabmechkaa
set_option linter.unusedSimpArgs false
set_option linter.unusedVariables false
open Go.RowKit Go.Shelf
open Fl

structure LR (W5 W6 : World) (OB : Nat) (V : Int) (nO : Nat) (L : List OpT) (ix : Nat → Int) (vL : Value) (W : World) : Prop where
  ob : TapeBox W OB V vL (.slice none 0 0)
  row : RowB W W6.heap.size (fun j => .int .i64 (ix j)) nO
  own : OwnOp (W6.heap.size + 1) W vL L
  but : ButS OB W6.heap.size W6 W
  bel : Below OB W5 W
  ol : OB < W6.heap.size
namespace LR
variable {W5 W6 W W' : World} {OB : Nat} {V : Int} {nO : Nat} {L L' : List OpT} {ix : Nat → Int} {vL v' : Value}
theorem lt (h : LR W5 W6 OB V nO L ix vL W) : W6.heap.size < W.heap.size := h.row.lt
theorem below (h : LR W5 W6 OB V nO L ix vL W) (hb : Below W.heap.size W W') : LR W5 W6 OB V nO L ix vL W' :=
  ⟨h.ob.below hb, h.row.below hb, h.own.below hb, h.but.trans (ButS.below (Nat.le_of_lt h.lt) hb), h.bel.trans (hb.mono (by have := h.lt; have := h.ol; omega)), h.ol⟩
theorem far (h : LR W5 W6 OB V nO L ix vL W) {a : Addr} (u : Value) (ha : W6.heap.size < a.block) (hv : ∀ g, vL.ownBlock = some g → a.block ≠ g) : LR W5 W6 OB V nO L ix vL (W.setCell a u) := by
  have hol := h.ol
  refine ⟨h.ob.set_other u (by omega), h.row.set_other u (by omega), h.own.far fun g hg => Below.heap_setCell _ _ _ _ (fun e => hv g hg e.symm), ⟨by have := h.but.size; simp; omega, fun b h1 h2 => ?_⟩, h.bel.setCell (by omega) _, hol⟩
  rw [Below.heap_setCell _ _ _ _ (by omega), h.but.blk b h1 h2]
theorem far6 (h : LR W5 W6 OB V nO L ix vL W) {b : Nat} (ha : W6.heap.size < b) (hv : ∀ g, vL.ownBlock = some g → b ≠ g) (u0 u1 u2 u3 u4 u5 : Value) :
    LR W5 W6 OB V nO L ix vL ((((((W.setCell ⟨b, 0, none⟩ u0).setCell ⟨b, 1, none⟩ u1).setCell ⟨b, 2, none⟩ u2).setCell ⟨b, 3, none⟩ u3).setCell ⟨b, 4, none⟩ u4).setCell ⟨b, 5, none⟩ u5) :=
  (((((h.far u0 ha hv).far u1 ha hv).far u2 ha hv).far u3 ha hv).far u4 ha hv).far u5 ha hv
theorem appended (h : LR W5 W6 OB V nO L ix vL W) (ho : OwnOp (W6.heap.size + 1) W' v' L') (hb : Below (W6.heap.size + 1) W W') : LR W5 W6 OB V nO L' ix v' (W'.setCell ⟨OB, 1, none⟩ v') := by
  have hol := h.ol
  have r := h.row
  refine ⟨TapeBox.set1 (v := vL) ((hb.block OB (by omega)).trans h.ob) v', ?_, ho.set v' (by simp; omega), ⟨by have := h.but.size; have := hb.size; have := h.lt; simp; omega, fun b h1 h2 => ?_⟩, (h.bel.trans (hb.mono (by omega))).setCell (p := ⟨OB, 1, none⟩) (Nat.le_refl _) v', hol⟩
  · refine RowB.set_other ⟨Nat.lt_of_lt_of_le r.lt hb.size, fun j hj => ?_, fun j hj => ?_⟩ v' (by simp; omega)
    · have := r.c j hj
      simp only [World.cell?] at this ⊢
      rw [hb.block _ (Nat.lt_succ_self _)]; exact this
    · have := r.z j hj
      simp only [World.frozen?] at this ⊢
      rw [hb.block _ (Nat.lt_succ_self _)]; exact this
  · rw [Below.heap_setCell _ _ _ _ h2, hb.block b (by omega), h.but.blk b h1 h2]
theorem set (h : LR W5 W6 OB V nO L ix vL W) {i : Nat} (hi : i < nO) (n : Int) : LR W5 W6 OB V nO L (setF ix i n) vL (W.setCell ⟨W6.heap.size, i, none⟩ (.int .i64 n)) := by
  have hol := h.ol
  refine ⟨h.ob.set_other _ (by simp; omega), (h.row.set hi (.int .i64 n)).congr fun j _ => ?_, h.own.set _ (by simp), ⟨by have := h.but.size; simp; omega, fun b h1 h2 => ?_⟩, h.bel.setCell (p := ⟨W6.heap.size, i, none⟩) (by simp; omega) _, hol⟩
  · unfold setF
    by_cases e : j = i <;> simp [e]
  · rw [Below.heap_setCell _ _ _ _ (by simp; omega), h.but.blk b h1 h2]
theorem get (h : LR W5 W6 OB V nO L ix vL W) {i : Nat} (hi : i < nO) : W.cell? ⟨W6.heap.size, i, none⟩ = some (.int .i64 (ix i)) := h.row.c i hi
theorem fz (h : LR W5 W6 OB V nO L ix vL W) {i : Nat} (hi : i < nO) : W.frozen? ⟨W6.heap.size, i, none⟩ = false := h.row.z i hi
end LR

def RefTrim (w : World) (V : Int) (L : List OpT) (os : Nat → Int) (nN : Nat) (e : Ending) (w' : World) : Prop :=
  ∃ vO' vN', e = .returned (.agg #[.int .i64 V, vO', vN']) ∧ Below w.heap.size w w' ∧ OpsAt w' vO' (listF L) L.length ∧ OutsAt w' vN' os nN
def R2Inv (W5 W6 : World) (OB : Nat) (V : Int) (nO : Nat) (U : Nat → Bool) (ops : Nat → OpT) (i : Value) (wr : World) : Prop :=
  ∃ (k : Nat) (vL : Value), i = .int .i64 k ∧ k ≤ nO ∧ LR W5 W6 OB V nO (trU U ops k).L (trU U ops k).ix vL wr
def RinInv (W9 : World) (p : OpT) (L : List OpT) (i a : Value) (wi : World) : Prop :=
  ∃ q : Nat, i = .int .i64 q ∧ q ≤ L.length ∧ a = .int .i64 (fndR p L q) ∧ Below W9.heap.size W9 wi
def R3Inv (W5 Wl : World) (OB : Nat) (V : Int) (vL : Value) (f : Nat → Int) (nN : Nat) (i : Value) (wr : World) : Prop :=
  ∃ (j : Nat) (vN : Value), i = .int .i64 j ∧ j ≤ nN ∧ OW W5 Wl OB V vL vN f j wr

set_option maxHeartbeats 16000000 in
set_option maxRecDepth 100000 in
theorem rtrim_c {V : Int} {vO vN : Value} {ops : Nat → OpT} {outs : Nat → Int} {nO nN : Nat} {w : World} (hO : OpsAt w vO ops nO) (hN : OutsAt w vN outs nN) (hT : TapeR V nO ops nN outs) :
    Calls Try.prog 7 #[.agg #[.int .i64 V, vO, vN]] w (RefTrim w V (trimL ops outs nO nN) (trimO ops outs nO nN) nN) := by
  obtain ⟨AO, cO, rfl, hO1⟩ := id hO
  obtain ⟨AN, cN, rfl, hN1⟩ := id hN
  have b0 : Below w.heap.size w (((w.alloc (Obj.cells #[.int .i64 V, .slice AO nO cO, .slice AN nN cN] 25)).alloc (Obj.cells #[.int .i64 0, .slice none 0 0, .slice none 0 0] 25)).alloc (Obj.cells #[.int .i64 V, .slice none 0 0, .slice none 0 0] 25)) := (((Below.refl _ _).alloc (Nat.le_refl _) _).alloc (by simp) _).alloc (by simp; omega) _
  have RN := rneeded_c (V := V) (hO.below b0) (hN.below b0) hT
  have hok := trU_ok (u := needF ops outs nO nN) (n := nO) (V := V) hT.2.2.2.2.1 (fun i hi => by obtain ⟨_, _, _, l1, l2, _⟩ := hO1 i hi; exact ⟨l1, l2⟩)
  have HOK := Lib.hid hok
  have HT := Lib.hid hT
  have HO := Lib.hid hO
  have HN := Lib.hid hN
  have hn1 : nO ≤ 4000 := hT.2.2.1
  have hn2 : nN ≤ 400 := hT.2.2.2.1
  clear hO hN hO1 hN1 hT hok
  obtain ⟨i0, hi, hz0, hz1, hz2⟩ := info_parts info3
  go_enter Try.func7, Try.ntmps7
  go_upto_region 3 with (go_at_call 15; (with_reducible refine RN.mono ?_); rintro _ w2 ⟨S, rfl, hS, hrow, hb2⟩)
  have tb : TapeBox w2 w.heap.size V (.slice AO nO cO) (.slice AN nN cN) := (((TapeBox.new w V _ _).below ((Below.refl _ _).alloc (Nat.le_refl _) _)).below ((Below.refl _ _).alloc (Nat.le_refl _) _)).below hb2
  have rb : TapeBox w2 (w.heap.size + 1) 0 (.slice none 0 0) (.slice none 0 0) := by
    have := ((TapeBox.new (w.alloc (Obj.cells #[.int .i64 V, .slice AO nO cO, .slice AN nN cN] 25)) 0 (.slice none 0 0) (.slice none 0 0)).below ((Below.refl _ _).alloc (Nat.le_refl _) (Obj.cells #[.int .i64 V, .slice none 0 0, .slice none 0 0] 25))).below hb2
    simpa using this
  have ob : TapeBox w2 (w.heap.size + 2) V (.slice none 0 0) (.slice none 0 0) := by
    have := (TapeBox.new ((w.alloc (Obj.cells #[.int .i64 V, .slice AO nO cO, .slice AN nN cN] 25)).alloc (Obj.cells #[.int .i64 0, .slice none 0 0, .slice none 0 0] 25)) V (.slice none 0 0) (.slice none 0 0)).below hb2
    simpa using this
  have bw2 : Below w.heap.size w w2 := b0.trans (hb2.mono b0.size)
  have hS2 : w.heap.size + 3 ≤ S := by simpa using hS
  have hob := ob.lt
  have g1 := tb.c1
  have g2 := tb.c2
  have HB := Lib.hid (show _ ∧ _ ∧ _ ∧ _ ∧ _ from ⟨tb, rb, ob, bw2, hrow⟩)
  clear RN b0 hb2 tb rb ob bw2 hrow hS
  go_upto_region 4 with (at_make; refine wpList_make_full _ rfl _ _ 23 rfl w2.heap.size 3 i0 (.int .i64 0) 1 Try.underlying23 hi hz0 hz1 _ _ _ _ nO rfl rfl rfl rfl (by rw [hz2]; omega) (by unfold maxLen; omega) (Nat.le_refl _) ?_; intro w3 hown3 hg3)
  have hlr0 : LR w2 w2 (w.heap.size + 2) V nO [] (fun _ => 0) (.slice none 0 0) w3 := by
    have hb3 := (Below.refl w2.heap.size w2).grown hg3 (Nat.le_refl _) (fun k hk => by cases hk)
    exact ⟨HB.out.2.2.1.below hb3, made_row hown3 rfl, ownOp_nil _ _, ButS.below (Nat.le_refl _) hb3, hb3.mono (by omega), hob⟩
  have hlt3 := hlr0.lt
  have g1 := (HB.out.1.belowB hlr0.bel (by omega)).c1
  have g2 := (HB.out.1.belowB hlr0.bel (by omega)).c2
  obtain ⟨U, hU⟩ : ∃ U, needF ops outs nO nN = U := ⟨_, rfl⟩
  rw [hU] at HOK HB
  have HU := Lib.hid hU
  clear hown3 hg3 hU
  go_wp2
  go_loopw [26] (fun i wr => R2Inv w2 w2 (w.heap.size + 2) V nO U ops i wr) (fun i _ => nO - (intOf i).toNat)
  case atStart => exact ⟨0, _, rfl, Nat.zero_le _, hlr0⟩
  case round =>
    obtain ⟨j, vL, rfl, hj, hlr⟩ := hrel
    have hwl := hlr.lt
    have hj2 : (j : Int) ≤ 4000 := by omega
    haveI gg2 : Ge wr (S + 1) := ⟨by have := HB.out.2.2.2.2.lt; omega⟩
    haveI gg3 : Ge wr (w.heap.size + 1) := ⟨by omega⟩
    haveI gg4 : Ge wr (w2.heap.size + 1) := ⟨by omega⟩
    haveI gg5 : Ge wr (w.heap.size + 1 + 1 + 1) := ⟨by omega⟩
    have HLR := Lib.hid hlr
    by_cases hjn : j < nO
    · obtain ⟨A', c', e', hO1⟩ := HO.out
      cases e'
      obtain ⟨b, o, eA, l1, l2, d0, d1, d2, d3, d4, d5⟩ := hO1 j hjn
      subst eA
      have hbw := HB.out.2.2.2.1.trans (hlr.bel.mono (by omega))
      have d0 := cellBelow hbw d0
      have d1 := cellBelow hbw d1
      have d2 := cellBelow hbw d2
      have d3 := cellBelow hbw d3
      have d4 := cellBelow hbw d4
      have d5 := cellBelow hbw d5
      have hor := op_need (HT.out.2.2.2.2.1 j hjn)
      have u0 : wr.cell? ⟨S, j, none⟩ = some (.int .i64 (bitI (U j))) := (hlr.but.cell S ⟨HB.out.2.2.2.2.lt, by omega⟩ j).trans (HB.out.2.2.2.2.c j hjn)
      have hal : Below wr.heap.size wr (wr.alloc (Obj.cells #[.int .i64 (ops j).K, .int .i64 (ops j).A, .int .i64 (ops j).B, .int .i64 (ops j).N, (.float .f64 ((ops j).lo)), (.float .f64 ((ops j).hi))] 41)) := (Below.refl _ _).alloc (Nat.le_refl _) _
      have HOR := Lib.hid (show _ ∧ _ ∧ _ from ⟨hor, l1, l2⟩)
      have hops := HT.out.2.2.2.2.1 j hjn
      have HOPS := Lib.hid hops
      clear hO1 hor l1 l2 hlr hbw hops
      rcases hu : U j with _ | _
      · rw [hu] at u0
        have u0 : wr.cell? ⟨S, j, none⟩ = some (.int .i64 0) := u0
        have HS := Lib.hid (trU_skip (ops := ops) hu)
        clear hu
        go_wp2
        go_roundw
        case rel => exact ⟨j + 1, vL, by go_num, hjn, by rw [HS.out]; exact HLR.out.below hal⟩
        case measure => simp [intOf]; omega
      · rw [hu] at u0
        have u0 : wr.cell? ⟨S, j, none⟩ = some (.int .i64 1) := u0
        have HUJ := Lib.hid hu
        clear hu
        have BR := rbare_any (ops j)
        unfold opV at BR
        have hb0 : OpBox (wr.alloc (Obj.cells #[.int .i64 (ops j).K, .int .i64 (ops j).A, .int .i64 (ops j).B, .int .i64 (ops j).N, (.float .f64 ((ops j).lo)), (.float .f64 ((ops j).hi))] 41)) wr.heap.size (ops j) := OpBox.new _ _
        have HB0 := Lib.hid (show _ ∧ _ from ⟨hb0, hal⟩)
        clear hb0 hal
        go_upto_region 9 with (go_at_call 16; refine (BR.go _).mono ?_; rintro _ _ ⟨n, rfl, rfl⟩)
        refine cut_worldM (fun W8 hW8 => ?_)
        have hob : OpBox W8 wr.heap.size (bareT (ops j)) := by rw [← hW8]; exact (HB0.out.1.below n.below).set6 _
        have hvb : ∀ g, vL.ownBlock = some g → wr.heap.size ≠ g := fun g hg e => by have := (HLR.out.own.lt g hg).2; omega
        have hlr : LR w2 w2 (w.heap.size + 2) V nO (trU U ops j).L (trU U ops j).ix vL W8 := by rw [← hW8]; exact ((HLR.out.below HB0.out.2).below n.below).far6 hwl hvb _ _ _ _ _ _
        have hbo := hwl
        generalize wr.heap.size = ob at *
        have e0 := hob.c0
        have e1 := hob.c1
        have e2 := hob.c2
        have f1 := hob.fz 1 (by omega)
        have f2 := hob.fz 2 (by omega)
        have hwl8 := hlr.lt
        have hol8 := hob.lt
        haveI ge1 : Ge W8 (w2.heap.size + 1) := ⟨by omega⟩
        haveI ge2 : Ge W8 (w.heap.size + 1 + 1 + 1) := ⟨by omega⟩
        haveI ge3 : Ge W8 (ob + 1) := ⟨hol8⟩
        haveI ge4 : Ge W8 (w.heap.size + 1) := ⟨by omega⟩
        have hnd := args_any (ops j).K
        have eK : (bareT (ops j)).K = (ops j).K := rfl
        rw [eK] at e0
        clear hW8 BR d0 d1 d2 d3 d4 d5 u0 gg2 gg3 gg4 gg5 g1 g2
        clear n
        rcases HOR.out.1 with e | ⟨e, a1, a2⟩ | ⟨e, a1, a2, b1, b2⟩
        focus
          rw [e] at hnd
          go_upto_region 14 with (go_at_call 12; refine (hnd.go _).mono ?_; rintro _ _ ⟨n, rfl, rfl⟩)
          refine cut_worldM (fun W9 hW9 => ?_)
          have hob9 : OpBox W9 ob (subT (ops j) (trU U ops j).ix) := by rw [sub_0 e, ← hW9]; exact hob.below n.below
          have hlr9 : LR w2 w2 (w.heap.size + 2) V nO (trU U ops j).L (trU U ops j).ix vL W9 := by rw [← hW9]; exact hlr.below n.below
          clear hW9 n
        rotate_left
        focus
          rw [e] at hnd
          obtain ⟨mA, hmA⟩ : ∃ m : Nat, (ops j).A = m := ⟨(ops j).A.toNat, by omega⟩
          rw [hmA] at a1 a2
          have hAn : mA < nO := by omega
          have y0 := hlr.get hAn
          have eA : (bareT (ops j)).A = mA := by unfold bareT; rw [← hmA]; exact if_pos (by rw [e]; decide)
          rw [eA] at e1
          go_upto_region 14 with (go_at_call 12; refine (hnd.go _).mono ?_; rintro _ _ ⟨n, rfl, rfl⟩)
          refine cut_worldM (fun W9 hW9 => ?_)
          have hob9 : OpBox W9 ob (subT (ops j) (trU U ops j).ix) := by rw [sub_1 e, ← hW9, hmA]; exact (hob.below n.below).setA _
          have hlr9 : LR w2 w2 (w.heap.size + 2) V nO (trU U ops j).L (trU U ops j).ix vL W9 := by rw [← hW9]; exact (hlr.below n.below).far _ hbo hvb
          clear hW9 n y0 eA
        rotate_left
        focus
          rw [e] at hnd
          obtain ⟨mA, hmA⟩ : ∃ m : Nat, (ops j).A = m := ⟨(ops j).A.toNat, by omega⟩
          obtain ⟨mB, hmB⟩ : ∃ m : Nat, (ops j).B = m := ⟨(ops j).B.toNat, by omega⟩
          rw [hmA] at a1 a2
          rw [hmB] at b1 b2
          have hAn : mA < nO := by omega
          have hBn : mB < nO := by omega
          have y0 := hlr.get hAn
          have y1 := hlr.get hBn
          have eA : (bareT (ops j)).A = mA := by unfold bareT; rw [← hmA]; exact if_pos (by rw [e]; decide)
          have eB : (bareT (ops j)).B = mB := by unfold bareT; rw [← hmB]; exact if_pos (by rw [e]; decide)
          rw [eA] at e1
          rw [eB] at e2
          have q1 : ¬ (w2.heap.size = ob) := by omega
          go_upto_region 14 with (go_at_call 12; refine (hnd.go _).mono ?_; rintro _ _ ⟨n, rfl, rfl⟩)
          refine cut_worldM (fun W9 hW9 => ?_)
          have hob9 : OpBox W9 ob (subT (ops j) (trU U ops j).ix) := by rw [sub_2 e, ← hW9, hmA, hmB]; exact ((hob.below n.below).setA _).setB _
          have hlr9 : LR w2 w2 (w.heap.size + 2) V nO (trU U ops j).L (trU U ops j).ix vL W9 := by rw [← hW9]; exact ((hlr.below n.below).far _ hbo hvb).far _ hbo hvb
          clear hW9 n y0 y1 eA eB q1
        rotate_left
        all_goals
          clear hob hlr e0 e1 e2 f1 f2 hwl8 hol8 ge1 ge2 ge3 ge4 hnd
          have hlits := sub_lits (ix := (trU U ops j).ix) HOR.out.2
          have Hold := fun i => trU_old (ops := ops) (j := i) HUJ.out
          have Hnew := trU_new (ops := ops) HUJ.out
          have hokp := okT_sub (ix := (trU U ops j).ix) HOPS.out HOR.out.2.1 HOR.out.2.2
          obtain ⟨p, hp⟩ : ∃ p, subT (ops j) (trU U ops j).ix = p := ⟨_, rfl⟩
          rw [hp] at hob9 hlits Hnew hokp
          simp only [hp] at Hold
          have hfnd := fndR_all hokp (HOK.out j (by omega))
          have HHN := Lib.hid (show _ ∧ _ ∧ _ from ⟨Hold, Hnew, hfnd⟩)
          have HH9 := Lib.hid (show _ ∧ _ from ⟨hob9, hlr9⟩)
          have hwl9 := hlr9.lt
          have hol9 := hob9.lt
          have hLL := trU_len U ops j
          obtain ⟨AL, cL, eL⟩ := hlr9.own.slice
          subst eL
          have t1 := hlr9.ob.c1
          haveI ge2 : Ge W9 (w.heap.size + 1 + 1 + 1) := ⟨by omega⟩
          have hL3 : (trU U ops j).L.length ≤ 3000000 := by omega
          have hL4 : ((trU U ops j).L.length : Int) ≤ 4000 := by omega
          clear Hold Hnew hp hfnd hokp hob9
          go_wp2
          go_loopw [60, 9] (fun i a wi => RinInv W9 p (trU U ops j).L i a wi) (fun i _ _ => (trU U ops j).L.length - (intOf i).toNat)
          case atStart => exact ⟨0, rfl, Nat.zero_le _, rfl, Below.refl _ _⟩
          case round =>
            obtain ⟨q, rfl, hq, rfl, hbi⟩ := hrel
            have hq4 : (q : Int) ≤ 4000 := by omega
            have hob9 := HH9.out.1.below hbi
            have hlr9 := HH9.out.2.below hbi
            have c0 := hob9.c0
            have c1 := hob9.c1
            have c2 := hob9.c2
            have c3 := hob9.c3
            have c4 := hob9.c4
            have c5 := hob9.c5
            have hwi := hbi.size
            have hge := fndR_ge p (trU U ops j).L q
            haveI ge5 : Ge wr (ob + 1) := ⟨by omega⟩
            by_cases hql : q < (trU U ops j).L.length
            · obtain ⟨A3, c3', e3, hLo⟩ := hlr9.own.ops
              cases e3
              obtain ⟨b3, o3, eA3, l3, l4, x0, x1, x2, x3, x4, x5⟩ := hLo q hql
              subst eA3
              have hnx : fndR p (trU U ops j).L (q + 1) = if fndR p (trU U ops j).L q < 0 then (if sameR p (listF (trU U ops j).L q) = true then (q : Int) else -1) else fndR p (trU U ops j).L q := rfl
              have RS := rsame_any p (listF (trU U ops j).L q)
              obtain ⟨z, hz⟩ : ∃ z, listF (trU U ops j).L q = z := ⟨_, rfl⟩
              rw [hz] at x0 x1 x2 x3 x4 x5 RS hnx
              obtain ⟨sm, hsm⟩ : ∃ c, sameR p z = c := ⟨_, rfl⟩
              rw [hsm] at RS hnx
              have HNX := Lib.hid hnx
              have hal3 : Below wr.heap.size wr (wr.alloc (Obj.cells #[.int .i64 z.K, .int .i64 z.A, .int .i64 z.B, .int .i64 z.N, (.float .f64 z.lo), (.float .f64 z.hi)] 41)) := (Below.refl _ _).alloc (Nat.le_refl _) _
              unfold opV at RS
              generalize fndR p (trU U ops j).L q = at0 at *
              clear hLo l3 l4 hz hsm hlr9 hob9 hnx
              by_cases ha : at0 < 0
              · cases sm
                · have hm1 : at0 = -1 := by omega
                  go_wp2_with (go_at_call 17; refine (RS.go _).mono ?_; rintro _ _ ⟨n, rfl, rfl⟩)
                  go_roundw
                  case rel => exact ⟨q + 1, by go_num, hql, by rw [HNX.out, if_pos ha]; rfl, Below.trans hbi (Below.mono (Below.trans hal3 (n.below.mono hal3.size)) hbi.size)⟩
                  case measure => simp [intOf]; omega
                · go_wp2_with (go_at_call 17; refine (RS.go _).mono ?_; rintro _ _ ⟨n, rfl, rfl⟩)
                  go_roundw
                  case rel => exact ⟨q + 1, by go_num, hql, by rw [HNX.out, if_pos ha]; rfl, Below.trans hbi (Below.mono (Below.trans hal3 (n.below.mono hal3.size)) hbi.size)⟩
                  case measure => simp [intOf]; omega
              · go_wp2_with (go_at_call 17; refine (RS.go _).mono ?_; rintro _ _ ⟨n, rfl, rfl⟩)
                go_roundw
                case rel => exact ⟨q + 1, by go_num, hql, by rw [HNX.out, if_neg ha], Below.trans hbi (Below.mono hal3 hbi.size)⟩
                case measure => simp [intOf]; omega
            · obtain rfl : q = (trU U ops j).L.length := by omega
              have hat := HHN.out.2.2
              rcases hf : findT p (trU U ops j).L with _ | i
              · rw [hf] at hat
                have hat : fndR p (trU U ops j).L (trU U ops j).L.length = -1 := hat
                rw [hat]
                have t2 := hlr9.ob.c1
                have hwl10 := hlr9.lt
                clear hat hge
                haveI ge6 : Ge wr (w.heap.size + 1 + 1 + 1) := ⟨by omega⟩
                haveI ge7 : Ge wr (w2.heap.size + 1) := ⟨by omega⟩
                have T1 := hlr9.own.below ((Below.refl wr.heap.size wr).alloc (Nat.le_refl _) (Obj.cells #[.int .i64 p.K, .int .i64 p.A, .int .i64 p.B, .int .i64 p.N, (.float .f64 p.lo), (.float .f64 p.hi)] 41))
                have T0 := OpBox.new wr p
                have T3 : w2.heap.size + 1 ≤ (wr.alloc (Obj.cells #[.int .i64 p.K, .int .i64 p.A, .int .i64 p.B, .int .i64 p.N, (.float .f64 p.lo), (.float .f64 p.hi)] 41)).heap.size := by simp; omega
                have hlrA := hlr9.below ((Below.refl _ _).alloc (Nat.le_refl _) (Obj.cells #[.int .i64 p.K, .int .i64 p.A, .int .i64 p.B, .int .i64 p.N, (.float .f64 p.lo), (.float .f64 p.hi)] 41))
                have HRA := Lib.hid (show _ ∧ _ ∧ _ ∧ _ from ⟨hlrA, T0, T1, T3⟩)
                clear hlrA T0 T1 T3
                have n1 : ¬ (w2.heap.size = w.heap.size + 2) := by omega
                have n2 : ¬ (w2.heap.size = w.heap.size + 1 + 1) := by omega
                go_wp2_with (at_builtin; refine wpList_append_op rfl (by rfl) rfl rfl HRA.out.2.1 HRA.out.2.2.1 hlits hL3 HRA.out.2.2.2 ?_; intro g cap w11 ho11 hb11; rw [show ((trU U ops j).L ++ [p]).length = (trU U ops j).L.length + 1 from List.length_append] at ho11; have ht11 := HRA.out.1.ob.belowB hb11 (by omega); have t3 := ht11.c1; have t4 := ht11.fz 1 (by omega); have z2 : w11.cell? ⟨w2.heap.size, j, none⟩ = some (.int .i64 ((trU U ops j).ix j)) := (hb11.cell (p := ⟨w2.heap.size, j, none⟩) (by simp)).trans (HRA.out.1.get hjn); have z3 : w11.frozen? ⟨w2.heap.size, j, none⟩ = false := (hb11.frozen (p := ⟨w2.heap.size, j, none⟩) (by simp)).trans (HRA.out.1.fz hjn); have hlr11 := HRA.out.1.appended ho11 hb11)
                go_roundw
                case rel => exact ⟨j + 1, _, by go_num, hjn, by rw [HHN.out.2.1 hf]; exact hlr11.set hjn _⟩
                case measure => simp [intOf]; omega
              · rw [hf] at hat
                have hat : fndR p (trU U ops j).L (trU U ops j).L.length = (i : Int) := hat
                rw [hat]
                have hi0 : ¬ ((i : Int) < 0) := by omega
                have z0 := hlr9.get hjn
                have z1 := hlr9.fz hjn
                clear hat hge
                go_wp2
                go_roundw
                case rel => exact ⟨j + 1, _, by go_num, hjn, by rw [HHN.out.1 i hf]; exact hlr9.set hjn _⟩
                case measure => simp [intOf]; omega
    · obtain rfl : j = nO := by omega
      have g1 := (HB.out.1.belowB hlr.bel (by omega)).c1
      have g2 := (HB.out.1.belowB hlr.bel (by omega)).c2
      have f0 : ∀ i, trimO ops outs j nN i = (trU U ops j).ix (outs i).toNat := fun i => by unfold trimO; rw [HU.out]
      obtain ⟨f, hf⟩ : ∃ f, trimO ops outs j nN = f := ⟨_, rfl⟩
      have hL : trimL ops outs j nN = (trU U ops j).L := by unfold trimL; rw [HU.out]
      rw [hf] at f0
      have HF := Lib.hid (show _ ∧ _ ∧ _ from ⟨f0, hf, hL⟩)
      clear f0 hf hL
      obtain ⟨Wl, hWl⟩ : ∃ Wl, wr = Wl := ⟨_, rfl⟩
      have how0 : OW w2 Wl (w.heap.size + 2) V vL (.slice none 0 0) f 0 wr := by
        subst hWl
        exact ⟨hlr.ob, ownInt_nil _ _ _, ButS.refl _, hlr.bel, by omega⟩
      rw [hWl] at hwl
      have HWL := Lib.hid hWl
      clear hWl hlr
      go_wp2
      go_loopw [93] (fun i wr => R3Inv w2 Wl (w.heap.size + 2) V vL f nN i wr) (fun i _ => nN - (intOf i).toNat)
      case atStart => exact ⟨0, _, rfl, Nat.zero_le _, how0⟩
      case round =>
        obtain ⟨i, vN, rfl, hi3, how⟩ := hrel
        have hws := how.but.size
        haveI gh1 : Ge wr (w.heap.size + 1 + 1 + 1) := ⟨by omega⟩
        haveI gh2 : Ge wr (w2.heap.size + 1) := ⟨by omega⟩
        haveI gh3 : Ge wr (w.heap.size + 1) := ⟨by omega⟩
        have hi4 : (i : Int) ≤ 400 := by omega
        by_cases hin : i < nN
        · obtain ⟨A', c', e', hN1⟩ := HN.out
          cases e'
          obtain ⟨b, o, eA, d0⟩ := hN1 i hin
          subst eA
          have hbw := HB.out.2.2.2.1.trans (how.bel.mono (by omega))
          have d0 := cellBelow hbw d0
          have hb := HT.out.2.2.2.2.2 i hin
          unfold badO at hb
          rw [Bool.or_eq_false_iff, decide_eq_false_iff_not, decide_eq_false_iff_not] at hb
          obtain ⟨m, hm⟩ : ∃ m : Nat, outs i = m := ⟨(outs i).toNat, by omega⟩
          rw [hm] at d0 hb
          have hmO : m < j := by omega
          have hfi : f i = (trU U ops j).ix m := by rw [HF.out.1, hm]; rfl
          have y0 : wr.cell? ⟨w2.heap.size, m, none⟩ = some (.int .i64 ((trU U ops j).ix m)) := by
            rw [how.but.cell w2.heap.size ⟨by omega, by omega⟩ m, ← HWL.out]
            exact HLR.out.get hmO
          have t2 := how.ob.c2
          have t3 := how.ob.fz 2 (by omega)
          generalize (trU U ops j).ix m = x at *
          obtain ⟨A2, c2, eN⟩ := how.own.slice
          subst eN
          have hown := how.own
          have qa := how.lt
          clear hb hN1 hbw
          go_wp2_with (fail)
          refine wp_region_noPanic ?_
          go_region_law (first | (refine step_append_int (fr := (0, 0)) (i := x) rfl (by rfl) (by rfl) (by rfl) (by (repeat' (first | (with_reducible refine at_drewM ?_) | (with_reducible refine at_newM ?_; (first | rfl | (simp; done))) | (with_reducible refine at_oldM ?_)))) (OwnInt.below hown (by (repeat' first | (with_reducible first | exact Below.refl _ _ | assumption | refine Later.belowOf _ ?_ ?_ | refine Below.alloc ?_ ?_ _ | refine Below.setCell ?_ ?_ _ | refine Below.drewN' _ ?_ | refine Below.drew ?_ | exact Ge.le) | go_size))) hfi (by omega) (by first | omega | (simp; omega)) ?_; intro g cap w11 ho11 hb11; have t4 : w11.cell? ⟨w.heap.size + 1 + 1, 2, none⟩ = some (.slice A2 i c2) := (hb11.cell (p := ⟨w.heap.size + 1 + 1, 2, none⟩) qa).trans (by simp [go_sem, t2]); have t5 : w11.frozen? ⟨w.heap.size + 1 + 1, 2, none⟩ = false := (hb11.frozen (p := ⟨w.heap.size + 1 + 1, 2, none⟩) qa).trans (by simp [go_sem, t3])))
          all_goals
            refine NoPanic.normal ?_
            go_wp2
            go_roundw
            case rel => exact ⟨i + 1, _, by go_num, hin, how.next ho11 (Below.trans (by (repeat' first | (with_reducible first | exact Below.refl _ _ | assumption | refine Later.belowOf _ ?_ ?_ | refine Below.alloc ?_ ?_ _ | refine Below.setCell ?_ ?_ _ | refine Below.drewN' _ ?_ | refine Below.drew ?_ | exact Ge.le) | go_size)) hb11)⟩
            case measure => simp [intOf]; omega
        · obtain rfl : i = nN := by omega
          have rb6 := HB.out.2.1.belowB how.bel (by omega)
          have r0 := rb6.c0
          have r1 := rb6.c1
          have r2 := rb6.c2
          have r3 := rb6.fz 0 (by omega)
          have r4 := rb6.fz 1 (by omega)
          have r5 := rb6.fz 2 (by omega)
          have t0 := how.ob.c0
          have t1 := how.ob.c1
          have t2 := how.ob.c2
          obtain ⟨AL, cL, eL⟩ := HLR.out.own.slice
          subst eL
          obtain ⟨AM, cM, eN⟩ := how.own.slice
          subst eN
          have hbf : Below w.heap.size w ((((wr.setCell ⟨w.heap.size + 1, 0, none⟩ (.int .i64 V)).setCell ⟨w.heap.size + 1, 1, none⟩ (.slice AL (trU U ops j).L.length cL)).setCell ⟨w.heap.size + 1, 2, none⟩ (.slice AM i cM))) :=
            ((((HB.out.2.2.2.1.trans (how.bel.mono (by omega))).setCell (p := ⟨w.heap.size + 1, 0, none⟩) (by simp) _).setCell (p := ⟨w.heap.size + 1, 1, none⟩) (by simp) _).setCell (p := ⟨w.heap.size + 1, 2, none⟩) (by simp) _)
          have hfar : ∀ g, g ≠ w.heap.size + 1 → ((((wr.setCell ⟨w.heap.size + 1, 0, none⟩ (.int .i64 V)).setCell ⟨w.heap.size + 1, 1, none⟩ (.slice AL (trU U ops j).L.length cL)).setCell ⟨w.heap.size + 1, 2, none⟩ (.slice AM i cM))).heap[g]? = wr.heap[g]? := fun g h1 => by
            rw [Below.heap_setCell _ _ _ _ h1, Below.heap_setCell _ _ _ _ h1, Below.heap_setCell _ _ _ _ h1]
          have hol := (HLR.out.own).far (w' := (((wr.setCell ⟨w.heap.size + 1, 0, none⟩ (.int .i64 V)).setCell ⟨w.heap.size + 1, 1, none⟩ (.slice AL (trU U ops j).L.length cL)).setCell ⟨w.heap.size + 1, 2, none⟩ (.slice AM i cM))) (fun g hg => by
            have hgl := HLR.out.own.lt g hg
            rw [HWL.out] at hgl ⊢
            rw [hfar g (by omega)]
            exact how.but.blk g hgl.2 (by omega))
          have hon := (how.own).far (w' := (((wr.setCell ⟨w.heap.size + 1, 0, none⟩ (.int .i64 V)).setCell ⟨w.heap.size + 1, 1, none⟩ (.slice AL (trU U ops j).L.length cL)).setCell ⟨w.heap.size + 1, 2, none⟩ (.slice AM i cM))) (fun g hg => by
            have hgl := ownM_lt how.own g hg
            exact hfar g (by omega))
          have hset := ((rb6.set0 V).set1 (.slice AL (trU U ops j).L.length cL)).set2 (.slice AM i cM)
          have HZ := Lib.hid (show _ ∧ _ ∧ _ ∧ _ from ⟨hbf, hol, hon, hset⟩)
          clear hbf hol hon hfar hset
          go_wp2
          generalize (((wr.setCell ⟨w.heap.size + 1, 0, none⟩ (.int .i64 V)).setCell ⟨w.heap.size + 1, 1, none⟩ (.slice AL (trU U ops j).L.length cL)).setCell ⟨w.heap.size + 1, 2, none⟩ (.slice AM i cM)) = Wz at *
          have z0 := HZ.out.2.2.2.c0
          have z1 := HZ.out.2.2.2.c1
          have z2 := HZ.out.2.2.2.c2
          refine bodyPost_ret (v := .agg #[.int .i64 V, .slice AL (trU U ops j).L.length cL, .slice AM i cM]) (by simp [results, Try.f7, go_sem, z0, z1, z2]) rfl ?_
          exact ⟨_, _, rfl, HZ.out.1, by rw [HF.out.2.2]; exact HZ.out.2.1.ops, by rw [HF.out.2.1]; exact OwnInt.outs HZ.out.2.2.1⟩
end Go.Proofs.Ytpkgpkabmechkaa
