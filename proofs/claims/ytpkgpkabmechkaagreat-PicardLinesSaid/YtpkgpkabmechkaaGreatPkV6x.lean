/- Contracts: tape.Eval. -/
import Derived.Test.YtpkgpkabmechkaaGreatPkV3
namespace Go.Proofs.YtpkgpkabmechkaaGreat
set_option linter.unusedSimpArgs false
set_option linter.unusedVariables false
open Go.RowKit
open Fl

noncomputable def evalE (V : Int) (nO : Nat) (ops : Nat → OpT) (nN : Nat) (outs : Nat → Int) (xs : Nat → Nat × Nat) (nx : Nat) : Int :=
  if startE V nO ops nN outs xs nx ≠ 0 then startE V nO ops nN outs xs nx else evErr ops xs nO
def outF (ops : Nat → OpT) (outs : Nat → Int) (xs : Nat → Nat × Nat) (j : Nat) : Nat × Nat := evF ops xs (outs j).toNat

/-- What Eval returns. -/
def EvalRes (w : World) (E : Int) (ys : Nat → Nat × Nat) (n : Nat) (e : Ending) (w' : World) : Prop :=
  ∃ v, e = .returned (.tuple #[v, .int .i64 E]) ∧ (E ≠ 0 → v = .slice none 0 0) ∧ (E = 0 → OwnIv w.heap.size w' v ys n) ∧ Below w.heap.size w w'

theorem start_zero {V : Int} {nO nN nx : Nat} {ops : Nat → OpT} {outs : Nat → Int} {xs : Nat → Nat × Nat} (h : startE V nO ops nN outs xs nx = 0) : TapeR V nO ops nN outs ∧ (nx : Int) = V ∧ ∀ j, j < nx → noneB (xs j).1 (xs j).2 = false := by
  unfold startE at h
  by_cases hT : TapeR V nO ops nN outs
  · rw [if_pos hT] at h
    by_cases hl : (nx : Int) = V ∧ anyB xs nx (fun x => noneB x.1 x.2) = false
    · refine ⟨hT, hl.1, fun j hj => ?_⟩
      rcases fot (noneB (xs j).1 (xs j).2) with h2 | h2
      · exact h2
      · have := anyB_iff (xs := xs) (n := nx) (bad := fun x => noneB x.1 x.2) |>.2 ⟨j, hj, h2⟩
        rw [hl.2] at this; cases this
    · rw [if_neg hl] at h; cases h
  · rw [if_neg hT] at h; cases h

def EvInv (W1 : World) (B1 : Nat) (ops : Nat → OpT) (xs : Nat → Nat × Nat) (nO : Nat) (i v : Value) (wr : World) : Prop :=
  ∃ k : Nat, i = .int .i64 k ∧ k ≤ nO ∧ OwnIv B1 wr v (evF ops xs) k ∧ evErr ops xs k = 0 ∧ Below B1 W1 wr
def OutsInv (W2 : World) (ys : Nat → Nat × Nat) (nN : Nat) (i v : Value) (wr : World) : Prop :=
  ∃ j : Nat, i = .int .i64 j ∧ j ≤ nN ∧ OwnIv W2.heap.size wr v ys j ∧ Below W2.heap.size W2 wr

theorem cellB {W wr : World} {B b o : Nat} {v : Value} (hb : Below B W wr) (h : W.cell? ⟨b, o, none⟩ = some v) (hB : b < B) : wr.cell? ⟨b, o, none⟩ = some v := (hb.cell (p := ⟨b, o, none⟩) hB).trans h

set_option maxHeartbeats 8000000 in
set_option maxRecDepth 100000 in
theorem eval_c {V : Int} {vO vN vx : Value} {ops : Nat → OpT} {outs : Nat → Int} {nO nN nx : Nat} {xs : Nat → Nat × Nat} {w : World} (hO : OpsAt w vO ops nO) (hN : OutsAt w vN outs nN) (hx : IvsAt w vx xs nx) :
    Calls Tryz.prog 33 #[.agg #[.int .i64 V, vO, vN], vx] w (EvalRes w (evalE V nO ops nN outs xs nx) (outF ops outs xs) nN) := by
  have b0 : Below w.heap.size w (w.alloc (Obj.cells #[.int .i64 V, vO, vN] 45)) := (Below.refl _ _).alloc (Nat.le_refl _) _
  have ST := start_c (V := V) (hO.below b0) (hN.below b0) (hx.below b0)
  unfold evalE
  by_cases hs : startE V nO ops nN outs xs nx = 0
  · rw [if_neg (by simpa using hs)]
    rw [hs] at ST
    obtain ⟨⟨t1, t2, t3, t4, t5, t6⟩, t7, t8⟩ := start_zero hs
    have HX := Lib.hid hx
    have HO := Lib.hid hO
    have HN := Lib.hid hN
    have HT5 := Lib.hid t5
    have HT6 := Lib.hid t6
    have hlen : ∀ i, i < nO → (ops i).lo < 18446744073709551616 ∧ (ops i).hi < 18446744073709551616 := fun i hi => by
      obtain ⟨A, c, e, h⟩ := HO.out
      obtain ⟨b, o, e2, l1, l2, _⟩ := h i hi
      exact ⟨l1, l2⟩
    have hlt := lt_ev (ops := ops) (xs := xs) (n := nO) (nx := nx) (fun i hi => by have := HT5.out i hi; rw [← t7] at this; exact this) hlen (fun i hi => HX.out.lt hi)
    have HLT := Lib.hid hlt
    clear hlt hlen t5 t6 t8 hx
    obtain ⟨AO, cO, rfl, hO⟩ := hO
    obtain ⟨AN, cN, rfl, hN⟩ := hN
    have HO2 := Lib.hid hO
    have HN2 := Lib.hid hN
    clear hO hN hs
    obtain ⟨i0, hi, hz0, hz1, hz2⟩ := info_parts info24
    have lw := Nat.le_refl w.heap.size
    go_enter Tryz.func33, Tryz.ntmps33
    go_upto_region 5 with (first
      | (go_at_call 83; (with_reducible refine ST.mono ?_); rintro _ _ ⟨n1, rfl, rfl⟩)
      | (at_make; refine wpList_make_own _ rfl _ _ 46 rfl (w.heap.size + 1) 24 i0 (.agg #[.float .f64 0, .float .f64 0]) 2 Tryz.underlying46 hi hz0 hz1 _ _ _ nO rfl rfl rfl (by rw [hz2]; omega) (by unfold maxLen; omega) (by have := n1.below.size; simpa using this) ?_; intro w1 hown1 hg1))
    have hs1 : w.heap.size + 1 ≤ n1.val.heap.size := by have := n1.below.size; simpa using this
    have bw1 : Below (w.heap.size + 1) n1.val w1 := (Below.refl (w.heap.size + 1) n1.val).grown hg1 hs1 (fun k hk => by cases hk)
    have d1 : n1.val.cell? ⟨w.heap.size, 1, none⟩ = some (.slice AO nO cO) := by simp [go_sem]
    have d2 : n1.val.cell? ⟨w.heap.size, 2, none⟩ = some (.slice AN nN cN) := by simp [go_sem]
    have bww : Below w.heap.size w n1.val := by (repeat' first | (with_reducible first | exact Below.refl _ _ | assumption | refine Later.belowOf _ ?_ ?_ | refine Below.alloc ?_ ?_ _ | refine Below.setCell ?_ ?_ _ | refine Below.drewN' _ ?_ | refine Below.drew ?_ | exact Ge.le) | go_size)
    have e1 := cellB bw1 d1 (by omega)
    have HD := Lib.hid (show _ ∧ _ ∧ _ ∧ _ from ⟨d2, bww, hs1, bw1⟩)
    clear hg1 ST b0 d1 d2
    go_wp2
    go_loopw [28, 7] (fun i v wr => EvInv n1.val (w.heap.size + 1) ops xs nO i v wr) (fun i _ _ => nO - (intOf i).toNat)
    case atStart =>
      exact ⟨0, rfl, Nat.zero_le _, ⟨fun i hi => by omega, hown1⟩, rfl, bw1⟩
    case round =>
      obtain ⟨k, rfl, hk, hown, her, hbel⟩ := hrel
      obtain ⟨d2, bww, hs1, _⟩ := HD.out
      have hwr : Below w.heap.size w wr := bww.trans (hbel.mono (by omega))
      have hsz := hbel.size
      haveI gwr : Ge wr w.heap.size := ⟨hwr.size⟩
      haveI gwr1 : Ge wr (w.heap.size + 1) := ⟨by omega⟩
      have HR := Lib.hid (show _ ∧ _ ∧ _ ∧ _ from ⟨hown, her, hbel, hwr⟩)
      have hk2 : (k : Int) ≤ 4000 := by omega
      by_cases hkn : k < nO
      · obtain ⟨b, o, eA, l1, l2, c0, c1, c2, c3, c4, c5⟩ := HO2.out k hkn
        subst eA
        have c0 := cellBelow hwr c0
        have c1 := cellBelow hwr c1
        have c2 := cellBelow hwr c2
        have c3 := cellBelow hwr c3
        have c4 := cellBelow hwr c4
        have c5 := cellBelow hwr c5
        have hor : opR (ops k) (k : Nat) (nx : Nat) := by have := HT5.out k hkn; rw [← t7] at this; exact this
        have hal : Below wr.heap.size wr (wr.alloc (Obj.cells #[.int .i64 (ops k).K, .int .i64 (ops k).A, .int .i64 (ops k).B, .int .i64 (ops k).N, (.float .f64 ((ops k).lo)), (.float .f64 ((ops k).hi))] 66)) := (Below.refl _ _).alloc (Nat.le_refl _) _
        have VC := value_c (hown.ivs.below hal) ((HX.out.below hwr).below hal) hor
        have ly := HLT.out k hkn
        rw [evF_eq hor] at ly
        have WC := wide_c ly
        have HY := Lib.hid (evF_eq (xs := xs) hor)
        have hy : evB ops xs k = valB (ops k) (evF ops xs (ops k).A.toNat) (evF ops xs (ops k).B.toNat) := rfl
        have hz : errAt ops xs k = if evB ops xs k = false then 51 else if wideB (evF ops xs k) = true then 5 else 0 := rfl
        rw [evF_eq hor, hy] at hz
        generalize valY (ops k) (evF ops xs (ops k).A.toNat) (evF ops xs (ops k).B.toNat) (xs (ops k).N.toNat) = y at *
        generalize valB (ops k) (evF ops xs (ops k).A.toNat) (evF ops xs (ops k).B.toNat) = ok at *
        have HEY := Lib.hid hz
        have HLY := Lib.hid ly
        clear hz hy ly hor hal hown her hbel
        generalize (ops k).K = oK at *
        generalize (ops k).A = oA at *
        generalize (ops k).B = oB at *
        generalize (ops k).N = oN at *
        generalize (ops k).lo = olo at *
        generalize (ops k).hi = ohi at *
        obtain ⟨y1, y2⟩ := y
        cases ok
        · have HE := Lib.hid (show evErr ops xs nO = 51 from by
            obtain ⟨_, h2, _⟩ := HR.out
            have h3 : errAt ops xs k = 51 := HEY.out
            rw [evErr_stop h2 (by rw [h3]; decide) hkn, h3])
          rw [HE.out]
          go_wp2_with (go_at_call 84; (with_reducible refine VC.mono ?_); rintro _ _ ⟨n2, rfl, rfl⟩)
          go_ret2
          exact ⟨_, rfl, fun _ => rfl, fun h => absurd h (by decide), by have := hwr; (repeat' first | (with_reducible first | exact Below.refl _ _ | assumption | refine Later.belowOf _ ?_ ?_ | refine Below.alloc ?_ ?_ _ | refine Below.setCell ?_ ?_ _ | refine Below.drewN' _ ?_ | refine Below.drew ?_ | exact Ge.le) | go_size)⟩
        · generalize hwb : wideB (y1, y2) = wb at *
          have hey := HEY.out
          cases wb
          · have HWB := Lib.hid hwb
            clear hwb
            go_upto_region 13 with (first | (go_at_call 84; (with_reducible refine VC.mono ?_); rintro _ _ ⟨n2, rfl, rfl⟩) | (go_at_call 85; (with_reducible refine (WC.go _).mono ?_); rintro _ _ ⟨n3, rfl, rfl⟩))
            obtain ⟨hown, her, hbel, _⟩ := HR.out
            have hown3 := OwnIv.below hown (w' := n3.val) (by (repeat' first | (with_reducible first | exact Below.refl _ _ | assumption | refine Later.belowOf _ ?_ ?_ | refine Below.alloc ?_ ?_ _ | refine Below.setCell ?_ ?_ _ | refine Below.drewN' _ ?_ | refine Below.drew ?_ | exact Ge.le) | go_size))
            have hbel3 : Below (w.heap.size + 1) n1.val n3.val := hbel.trans (Below.mono (B := wr.heap.size) (by (repeat' first | (with_reducible first | exact Below.refl _ _ | assumption | refine Later.belowOf _ ?_ ?_ | refine Below.alloc ?_ ?_ _ | refine Below.setCell ?_ ?_ _ | refine Below.drewN' _ ?_ | refine Below.drew ?_ | exact Ge.le) | go_size)) (by have := gwr1.le; omega))
            have hy2 : evF ops xs k = (y1, y2) := HY.out
            have her2 : evErr ops xs (k + 1) = 0 := evErr_on her hey
            have HA := Lib.hid (show _ ∧ _ from ⟨her2, hbel3⟩)
            have hle3 := hbel3.size
            clear her2 hbel3 her hbel hey hown VC WC
            go_wp2_with (at_builtin; refine wpList_append_iv n3.val rfl (.tmp 45) (.tmp 47) rfl (w.heap.size + 1) _ (evF ops xs) k y1 y2 rfl rfl hown3 hy2 HLY.out (by omega) (by omega) ?_; intro v4 w4 hown4 hb4)
            go_roundw
            case rel => exact ⟨k + 1, by go_num, hkn, hown4, HA.out.1, HA.out.2.trans hb4⟩
            case measure => simp [intOf]; omega
          · have HE := Lib.hid (show evErr ops xs nO = 5 from by
              obtain ⟨_, h2, _⟩ := HR.out
              have h3 : errAt ops xs k = 5 := hey
              rw [evErr_stop h2 (by rw [h3]; decide) hkn, h3])
            rw [HE.out]
            clear hey hwb
            go_wp2_with (first | (go_at_call 84; (with_reducible refine VC.mono ?_); rintro _ _ ⟨n2, rfl, rfl⟩) | (go_at_call 85; (with_reducible refine (WC.go _).mono ?_); rintro _ _ ⟨n3, rfl, rfl⟩))
            go_ret2
            exact ⟨_, rfl, fun _ => rfl, fun h => absurd h (by decide), by have := hwr; (repeat' first | (with_reducible first | exact Below.refl _ _ | assumption | refine Later.belowOf _ ?_ ?_ | refine Below.alloc ?_ ?_ _ | refine Below.setCell ?_ ?_ _ | refine Below.drewN' _ ?_ | refine Below.drew ?_ | exact Ge.le) | go_size)⟩
      · obtain rfl : k = nO := by omega
        obtain ⟨hown, her, hbel, hwr⟩ := HR.out
        have HE0 := Lib.hid her
        have d2' := cellB hbel d2 (by omega)
        obtain ⟨A, c, rfl, hnk, hA⟩ := hown.ivs
        have HA := Lib.hid hA
        have HW := Lib.hid (show _ ∧ _ from ⟨hown, hwr⟩)
        clear hA hown her hbel hkn
        go_wp2
        obtain ⟨W2, hW2⟩ : ∃ W2 : World, W2 = wr := ⟨_, rfl⟩
        subst hW2
        go_loopw [53, 12] (fun i v wr => OutsInv W2 (outF ops outs xs) nN i v wr) (fun i _ _ => nN - (intOf i).toNat)
        case atStart => exact ⟨0, rfl, Nat.zero_le _, ownIv_nil _ _ _, Below.refl _ _⟩
        case round =>
          obtain ⟨j, rfl, hj, ho2, hbel2⟩ := hrel
          have hj2 : (j : Int) ≤ 400 := by omega
          by_cases hjn : j < nN
          · obtain ⟨b, o, eA, c0⟩ := HN2.out j hjn
            subst eA
            have c0 := cellBelow (HW.out.2.trans (hbel2.mono HW.out.2.size)) c0
            have hbad := HT6.out j hjn
            unfold badO at hbad
            rw [Bool.or_eq_false_iff, decide_eq_false_iff_not, decide_eq_false_iff_not] at hbad
            obtain ⟨h3, h4⟩ := hbad
            have hyj : outF ops outs xs j = evF ops xs (outs j).toNat := rfl
            generalize outs j = oj at *
            obtain ⟨i, rfl⟩ := Int.eq_ofNat_of_zero_le (show 0 ≤ oj by omega)
            have hik : i < k := by omega
            obtain ⟨bv, ov, eV, lv, v0, v1⟩ := HA.out i hik
            cases eV
            have v0 := cellBelow hbel2 v0
            have v1 := cellBelow hbel2 v1
            have i0 : (0 : Int) ≤ (i : Int) := by omega
            have i1 : (i : Int) < (k : Int) := by omega
            rw [Int.toNat_natCast] at hyj
            generalize evF ops xs i = y at *
            obtain ⟨y1, y2⟩ := y
            have HYJ := Lib.hid hyj
            have HB2 := Lib.hid hbel2
            have hsz2 := hbel2.size
            clear hyj hbel2 h3 h4
            go_wp2_with (at_builtin; refine wpList_append_iv wr rfl (.tmp 57) (.tmp 62) rfl W2.heap.size _ (outF ops outs xs) j y1 y2 rfl rfl ho2 HYJ.out lv (by omega) (by omega) ?_; intro v4 w4 hown4 hb4)
            go_roundw
            case rel => exact ⟨j + 1, by go_num, hjn, hown4, HB2.out.trans hb4⟩
            case measure => simp [intOf]; omega
          · obtain rfl : j = nN := by omega
            have hwr := HW.out.2
            go_wp2
            go_ret2
            exact ⟨_, by rw [HE0.out]; rfl, fun h => absurd HE0.out h, fun _ => ho2.base hwr.size, hwr.trans (hbel2.mono hwr.size)⟩
  · rw [if_pos (by simpa using hs)]
    generalize hE : startE V nO ops nN outs xs nx = E at *
    clear hO hN hx b0 hE
    go_enter Tryz.func33, Tryz.ntmps33
    go_wp2_with (go_at_call 83; (with_reducible refine ST.mono ?_); rintro _ _ ⟨n1, rfl, rfl⟩)
    go_ret2
    exact ⟨_, rfl, fun _ => rfl, fun h => absurd h hs, by (repeat' first | (with_reducible first | exact Below.refl _ _ | assumption | refine Later.belowOf _ ?_ ?_ | refine Below.alloc ?_ ?_ _ | refine Below.setCell ?_ ?_ _ | refine Below.drewN' _ ?_ | refine Below.drew ?_ | exact Ge.le) | go_size)⟩
end Go.Proofs.YtpkgpkabmechkaaGreat

/- Contracts: the reference's values of a tape's operations up to roots (printed by wip/genlaw.py). -/
namespace Go.Proofs.YtpkgpkabmechkaaGreat
set_option linter.unusedSimpArgs false
set_option linter.unusedVariables false
open Go.RowKit
open Fl

end Go.Proofs.YtpkgpkabmechkaaGreat
