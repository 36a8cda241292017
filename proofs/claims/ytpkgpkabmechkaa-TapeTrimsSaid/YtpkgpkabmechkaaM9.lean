/- Contracts: what the reference says is needed. -/
import Derived.Test.YtpkgpkabmechkaaM8
namespace Go.Proofs.Ytpkgpkabmechkaa
set_option linter.unusedSimpArgs false
set_option linter.unusedVariables false
open Go.RowKit
open Fl

def bitI (b : Bool) : Int := if b then 1 else 0
structure NW (Wm : World) (S nO : Nat) (u : Nat → Bool) (W : World) : Prop where
  row : RowB W S (fun j => .int .i64 (bitI (u j))) nO
  bel : Below S Wm W
namespace NW
variable {Wm W W' : World} {S nO : Nat} {u : Nat → Bool}
theorem lt (h : NW Wm S nO u W) : S < W.heap.size := h.row.lt
theorem below (h : NW Wm S nO u W) (hb : Below W.heap.size W W') : NW Wm S nO u W' := ⟨h.row.below hb, h.bel.trans (hb.mono (Nat.le_of_lt h.row.lt))⟩
theorem set (h : NW Wm S nO u W) {i : Nat} (hi : i < nO) : NW Wm S nO (setF u i true) (W.setCell ⟨S, i, none⟩ (.int .i64 1)) := by
  refine ⟨(h.row.set hi (.int .i64 1)).congr fun j _ => ?_, h.bel.setCell (p := ⟨S, i, none⟩) (Nat.le_refl _) _⟩
  unfold setF
  by_cases e : j = i <;> simp [e, bitI]
theorem get (h : NW Wm S nO u W) {i : Nat} (hi : i < nO) : W.cell? ⟨S, i, none⟩ = some (.int .i64 (bitI (u i))) := h.row.c i hi
theorem fz (h : NW Wm S nO u W) {i : Nat} (hi : i < nO) : W.frozen? ⟨S, i, none⟩ = false := h.row.z i hi
end NW

def N1Inv (Wm : World) (S nO nN : Nat) (outs : Nat → Int) (i : Value) (wr : World) : Prop := ∃ j : Nat, i = .int .i64 j ∧ j ≤ nN ∧ NW Wm S nO (outU outs j) wr
def N2Inv (Wm : World) (S nO : Nat) (ops : Nat → OpT) (u0 : Nat → Bool) (i : Value) (wr : World) : Prop := ∃ r : Nat, i = .int .i64 ((nO : Int) - 1 - r) ∧ r ≤ nO ∧ NW Wm S nO (backU ops nO u0 r) wr

set_option maxHeartbeats 16000000 in
set_option maxRecDepth 100000 in
theorem rneeded_c {V : Int} {vO vN : Value} {ops : Nat → OpT} {outs : Nat → Int} {nO nN : Nat} {w : World} (hO : OpsAt w vO ops nO) (hN : OutsAt w vN outs nN) (hT : TapeR V nO ops nN outs) :
    Calls Try.prog 15 #[.agg #[.int .i64 V, vO, vN]] w fun e w' => ∃ S, e = .returned (.slice (some ⟨S, 0, none⟩) nO nO) ∧ w.heap.size ≤ S ∧ RowB w' S (fun j => .int .i64 (bitI (needF ops outs nO nN j))) nO ∧ Below w.heap.size w w' := by
  obtain ⟨AO, cO, rfl, hO1⟩ := id hO
  obtain ⟨AN, cN, rfl, hN1⟩ := id hN
  have HT := Lib.hid hT
  have HO := Lib.hid hO1
  have HN := Lib.hid hN1
  clear hO hN hO1 hN1
  obtain ⟨i0, hi, hz0, hz1, hz2⟩ := info_parts info3
  have hn1 : nO ≤ 4000 := HT.out.2.2.1
  have hn2 : nN ≤ 400 := HT.out.2.2.2.1
  have hn3 : (nO : Int) ≤ 4000 := by omega
  clear hT
  go_enter Try.func15, Try.ntmps15
  go_upto_region 2 with (at_make; refine wpList_make_full _ rfl _ _ 23 rfl (w.heap.size + 1) 3 i0 (.int .i64 0) 1 Try.underlying23 hi hz0 hz1 _ _ _ _ nO rfl rfl rfl rfl (by rw [hz2]; omega) (by unfold maxLen; omega) (by simp) ?_; intro w3 hown3 hg3)
  obtain ⟨Wm, hWm⟩ : ∃ Wm, w.alloc (Obj.cells #[.int .i64 V, .slice AO nO cO, .slice AN nN cN] 25) = Wm := ⟨_, rfl⟩
  have hsz : Wm.heap.size = w.heap.size + 1 := by rw [← hWm]; simp
  have bwm : Below w.heap.size w Wm := by rw [← hWm]; exact (Below.refl _ _).alloc (Nat.le_refl _) _
  have tbm : TapeBox Wm w.heap.size V (.slice AO nO cO) (.slice AN nN cN) := by rw [← hWm]; exact TapeBox.new _ _ _ _
  have t0 : NW Wm (w.heap.size + 1) nO (outU outs 0) w3 := by
    have hr := made_row hown3 rfl
    have := (Below.refl Wm.heap.size Wm).grown (by rw [← hWm]; exact hg3) (Nat.le_refl _) (fun k hk => by cases hk)
    rw [hsz] at this
    have hr2 : RowB w3 (w.heap.size + 1) (fun _ => .int .i64 0) nO := by simpa using hr
    exact ⟨hr2, this⟩
  have g1 := (tbm.belowB t0.bel (by omega)).c1
  have g2 := (tbm.belowB t0.bel (by omega)).c2
  have HW := Lib.hid (show _ ∧ _ ∧ _ from ⟨hsz, bwm, tbm⟩)
  clear hown3 hg3 hWm hsz bwm tbm
  go_wp2
  go_loopw [15] (fun i wr => N1Inv Wm (w.heap.size + 1) nO nN outs i wr) (fun i _ => nN - (intOf i).toNat)
  case atStart => exact ⟨0, rfl, Nat.zero_le _, t0⟩
  case round =>
    obtain ⟨k, rfl, hk, ht⟩ := hrel
    have hk2 : (k : Int) ≤ 400 := by omega
    obtain ⟨hsz, bwm, tbm⟩ := HW.out
    have g1 := (tbm.belowB ht.bel (by omega)).c1
    have g2 := (tbm.belowB ht.bel (by omega)).c2
    by_cases hkn : k < nN
    · obtain ⟨b, o, eA, d0⟩ := HN.out k hkn
      subst eA
      have d0 := cellBelow (hsz ▸ ht.bel) (cellBelow bwm d0)
      have hb := HT.out.2.2.2.2.2 k hkn
      unfold badO at hb
      rw [Bool.or_eq_false_iff, decide_eq_false_iff_not, decide_eq_false_iff_not] at hb
      obtain ⟨m, hm⟩ : ∃ m : Nat, outs k = m := ⟨(outs k).toNat, by omega⟩
      have hU : outU outs (k + 1) = setF (outU outs k) m true := by show setF (outU outs k) (outs k).toNat true = _; rw [hm]; rfl
      rw [hm] at d0 hb
      have hmO : m < nO := by omega
      have m0 := ht.get hmO
      have m1 := ht.fz hmO
      clear hb hsz bwm tbm
      go_wp2
      go_roundw
      case rel => exact ⟨k + 1, by go_num, hkn, by rw [hU]; exact ht.set hmO⟩
      case measure => simp [intOf]; omega
    · obtain rfl : k = nN := by omega
      obtain ⟨u0, hu0⟩ : ∃ u0, outU outs k = u0 := ⟨_, rfl⟩
      rw [hu0] at ht
      have HU := Lib.hid hu0
      clear t0 hu0 hsz bwm tbm
      go_wp2
      go_loopw [6] (fun i wr => N2Inv Wm (w.heap.size + 1) nO ops u0 i wr) (fun i _ => (intOf i + 1).toNat)
      case atStart => exact ⟨0, by go_num, Nat.zero_le _, ht⟩
      case round =>
        obtain ⟨r, rfl, hr, ht⟩ := hrel
        obtain ⟨hsz, bwm, tbm⟩ := HW.out
        have g1 := (tbm.belowB ht.bel (by omega)).c1
        have hlt := ht.lt
        haveI ge1 : Ge wr (w.heap.size + 1) := ⟨by omega⟩
        haveI ge2 : Ge wr (w.heap.size + 1 + 1) := ⟨by omega⟩
        by_cases hrn : r < nO
        · obtain ⟨m, hm⟩ : ∃ m, nO - 1 - r = m := ⟨_, rfl⟩
          have hmO : m < nO := by omega
          have hmr : (nO : Int) - 1 - r = m := by omega
          have hm4 : (m : Int) ≤ 4000 := by omega
          have hB : backU ops nO u0 (r + 1) = stepU (ops m) m (backU ops nO u0 r) := by show stepU (ops (nO - 1 - r)) (nO - 1 - r) _ = _; rw [hm]
          obtain ⟨b, o, eA, l1, l2, d0, d1, d2, d3, d4, d5⟩ := HO.out m hmO
          subst eA
          have hbl : b < w.heap.size := World.block_lt_of_cell? _ _ d0
          have bw : Below w.heap.size w wr := bwm.trans (ht.bel.mono (by omega))
          have d0 := cellBelow bw d0
          have d1 := cellBelow bw d1
          have d2 := cellBelow bw d2
          haveI ge3 : Ge wr (b + 1) := ⟨by have := bw.size; omega⟩
          have qb : ¬ (b = w.heap.size + 1) := by omega
          have hor := op_need (HT.out.2.2.2.2.1 m hmO)
          have hnd := args_any (ops m).K
          have x0 := ht.get hmO
          rw [hmr]
          have HBR := Lib.hid (show _ ∧ _ from ⟨hB, hmr⟩)
          clear hB hmr l1 l2 d3 d4 d5 hsz bwm tbm
          obtain ⟨u, hu⟩ : ∃ u, backU ops nO u0 r = u := ⟨_, rfl⟩
          rw [hu] at ht x0 HBR
          clear hu
          obtain ⟨um, hum⟩ : ∃ c, u m = c := ⟨_, rfl⟩
          rw [hum] at x0
          cases um
          · have x0 : wr.cell? ⟨w.heap.size + 1, m, none⟩ = some (.int .i64 0) := x0
            have hs0 : stepU (ops m) m u = u := by unfold stepU; rw [if_neg (by rw [hum]; simp)]
            rw [hs0] at HBR
            clear hs0
            go_wp2_with (go_at_call 12; refine (hnd.go _).mono ?_; rintro _ _ ⟨n, rfl, rfl⟩)
            go_roundw
            case rel => exact ⟨r + 1, by have := HBR.out.2; go_num, hrn, by rw [HBR.out.1]; exact ht.below n.below⟩
            case measure => simp [intOf] <;> omega
          · have x0 : wr.cell? ⟨w.heap.size + 1, m, none⟩ = some (.int .i64 1) := x0
            rcases hor with e | ⟨e, a1, a2⟩ | ⟨e, a1, a2, b1, b2⟩
            · rw [e] at hnd
              have hs0 : stepU (ops m) m u = u := by unfold stepU; rw [if_neg (by rw [e]; simp)]
              rw [hs0] at HBR
              clear hs0
              go_wp2_with (go_at_call 12; refine (hnd.go _).mono ?_; rintro _ _ ⟨n, rfl, rfl⟩)
              go_roundw
              case rel => exact ⟨r + 1, by have := HBR.out.2; go_num, hrn, by rw [HBR.out.1]; exact ht.below n.below⟩
              case measure => simp [intOf] <;> omega
            · rw [e] at hnd
              obtain ⟨mA, hmA⟩ : ∃ q : Nat, (ops m).A = q := ⟨(ops m).A.toNat, by omega⟩
              have hs0 : stepU (ops m) m u = setF u mA true := by unfold stepU; rw [if_pos ⟨hum, by rw [e]; decide⟩, if_neg (by rw [e]; decide), hmA]; rfl
              rw [hs0] at HBR
              rw [hmA] at d1 a1 a2
              have hAn : mA < nO := by omega
              have y0 := ht.get hAn
              have y1 := ht.fz hAn
              have nA : ¬ (m = mA) := by omega
              have nA2 : ¬ (mA = m) := by omega
              clear hs0
              go_wp2_with (go_at_call 12; refine (hnd.go _).mono ?_; rintro _ _ ⟨n, rfl, rfl⟩)
              go_roundw
              case rel => exact ⟨r + 1, by have := HBR.out.2; go_num, hrn, by rw [HBR.out.1]; exact (ht.below n.below).set hAn⟩
              case measure => simp [intOf] <;> omega
            · rw [e] at hnd
              obtain ⟨mA, hmA⟩ : ∃ q : Nat, (ops m).A = q := ⟨(ops m).A.toNat, by omega⟩
              obtain ⟨mB, hmB⟩ : ∃ q : Nat, (ops m).B = q := ⟨(ops m).B.toNat, by omega⟩
              have hs0 : stepU (ops m) m u = setF (setF u mA true) mB true := by unfold stepU; rw [if_pos ⟨hum, by rw [e]; decide⟩, if_pos (by rw [e]; decide), hmA, hmB]; rfl
              rw [hs0] at HBR
              rw [hmA] at d1 a1 a2
              rw [hmB] at d2 b1 b2
              have hAn : mA < nO := by omega
              have hBn : mB < nO := by omega
              have y0 := ht.get hAn
              have y1 := ht.fz hAn
              have z0 := ht.get hBn
              have z1 := ht.fz hBn
              have nA : ¬ (m = mA) := by omega
              have nA2 : ¬ (mA = m) := by omega
              clear hs0
              by_cases hAB : mA = mB
              · subst hAB
                go_wp2_with (go_at_call 12; refine (hnd.go _).mono ?_; rintro _ _ ⟨n, rfl, rfl⟩)
                go_roundw
                case rel => exact ⟨r + 1, by have := HBR.out.2; go_num, hrn, by rw [HBR.out.1]; exact ((ht.below n.below).set hAn).set hBn⟩
                case measure => simp [intOf] <;> omega
              · have hBA : ¬ mB = mA := fun e => hAB e.symm
                go_wp2_with (go_at_call 12; refine (hnd.go _).mono ?_; rintro _ _ ⟨n, rfl, rfl⟩)
                go_roundw
                case rel => exact ⟨r + 1, by have := HBR.out.2; go_num, hrn, by rw [HBR.out.1]; exact ((ht.below n.below).set hAn).set hBn⟩
                case measure => simp [intOf] <;> omega
        · obtain rfl : r = nO := by omega
          have hne : needF ops outs r k = backU ops r u0 r := by unfold needF; rw [HU.out]
          go_wp2
          go_ret
          exact ⟨_, rfl, by omega, by rw [hne]; exact ht.row, bwm.trans (ht.bel.mono (by omega))⟩
end Go.Proofs.Ytpkgpkabmechkaa
