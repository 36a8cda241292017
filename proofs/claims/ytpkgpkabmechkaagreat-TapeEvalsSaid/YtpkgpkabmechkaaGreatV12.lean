/- Contracts: the law's run of a tape, without slopes. -/
import Derived.Test.YtpkgpkabmechkaaGreatV10
namespace Go.Proofs.YtpkgpkabmechkaaGreat
set_option linter.unusedSimpArgs false
set_option linter.unusedVariables false
open Go.RowKit
open Fl

/-- What run returns. -/
def RunRes (w : World) (E : Int) (ys : Nat → Nat × Nat) (n : Nat) (e : Ending) (w' : World) : Prop :=
  ∃ v d, e = .returned (.tuple #[v, d, .int .i64 E]) ∧ (E ≠ 0 → v = .slice none 0 0) ∧ (E = 0 → OwnIv w.heap.size w' v ys n) ∧ Below w.heap.size w w'
def RunInv (W1 : World) (B1 : Nat) (ops : Nat → OpT) (xs : Nat → Nat × Nat) (nO : Nat) (i v d : Value) (wr : World) : Prop :=
  ∃ k : Nat, i = .int .i64 k ∧ k ≤ nO ∧ Own2 B1 wr v (evF ops xs) k d k ∧ evErr ops xs k = 0 ∧ Below B1 W1 wr
def Outs2Inv (W2 : World) (ys : Nat → Nat × Nat) (nN : Nat) (i v d : Value) (wr : World) : Prop :=
  ∃ j : Nat, i = .int .i64 j ∧ j ≤ nN ∧ Own2 W2.heap.size wr v ys j d j ∧ Below W2.heap.size W2 wr
theorem right_not_none {a b : Nat} (h : noneB a b = false) : rightB a b = true := by
  unfold noneB at h
  rcases fot (rightB a b) with h1 | h1
  · rw [h1] at h; cases h
  · exact h1

open Classical in
set_option maxHeartbeats 8000000 in
set_option maxRecDepth 100000 in
theorem run_c {V : Int} {vO vN vx : Value} {ops : Nat → OpT} {outs : Nat → Int} {nO nN nx : Nat} {xs : Nat → Nat × Nat} {w : World} (hO : OpsAt w vO ops nO) (hN : OutsAt w vN outs nN) (hx : IvsAt w vx xs nx) :
    Calls Tryz.prog 34 #[.agg #[.int .i64 V, vO, vN], vx, .bool false] w (RunRes w (evalE V nO ops nN outs xs nx) (outF ops outs xs) nN) := by
  have b0 : Below w.heap.size w (w.alloc (Obj.cells #[.int .i64 V, vO, vN] 45)) := (Below.refl _ _).alloc (Nat.le_refl _) _
  have TR := to_later (rright_any V vO vN ops outs nO nN _ (hO.below b0) (hN.below b0))
  have VR := fun (m : Later (w.alloc (Obj.cells #[.int .i64 V, vO, vN] 45))) => vars_c (V := V) (vO := vO) (vN := vN) (hx.below (b0.trans (m.below.mono b0.size)))
  unfold evalE
  by_cases hT : TapeR V nO ops nN outs
  · have hT1 := hT
    rw [decide_eq_true hT] at TR
    by_cases hV : (nx : Int) = V ∧ anyB xs nx (fun x => noneB x.1 x.2) = false
    · rw [decide_eq_true hV] at VR
      have hs : startE V nO ops nN outs xs nx = 0 := by unfold startE; rw [if_pos hT, if_pos hV]
      rw [if_neg (by simpa using hs)]
      obtain ⟨⟨t1, t2, t3, t4, t5, t6⟩, t7, t8⟩ := start_zero hs
      have HX := Lib.hid hx
      have HO := Lib.hid hO
      have HN := Lib.hid hN
      have HT5 := Lib.hid t5
      have HT6 := Lib.hid t6
      have hlen : ∀ i, i < nO → (ops i).lo < 18446744073709551616 ∧ (ops i).hi < 18446744073709551616 := fun i hi => by
        obtain ⟨A, c, e, h⟩ := HO.out
        obtain ⟨b, o, e2, l1, l2, _⟩ := h i hi
        exact ⟨l1, l2⟩
      have hlt := lt_ev (ops := ops) (xs := xs) (n := nO) (nx := nx) (fun i hi => by have := HT5.out i hi; rw [← t7] at this; exact this) hlen (fun i hi => HX.out.lt hi)
      have hri : ∀ i, i < nO → rightB (evF ops xs i).1 (evF ops xs i).2 = true := fun i hi => by
        have hor : opR (ops i) (i : Nat) (nx : Nat) := by have := HT5.out i hi; rw [← t7] at this; exact this
        rw [evF_eq hor]
        exact right_val hor (fun h1 h2 => right_not_none (t8 _ (by omega)))
      have HLT := Lib.hid hlt
      have HRI := Lib.hid hri
      have HLN := Lib.hid hlen
      clear hlt hlen hri t5 t6 t8 hx hT hT1 hV
      obtain ⟨AO, cO, rfl, hO⟩ := hO
      obtain ⟨AN, cN, rfl, hN⟩ := hN
      have HO2 := Lib.hid hO
      have HN2 := Lib.hid hN
      clear hO hN hs
      go_enter Tryz.func34, Tryz.ntmps34
      go_upto_region 5 with (first
        | (go_at_call 39; (with_reducible refine TR.mono ?_); rintro _ _ ⟨n1, rfl, rfl⟩)
        | (go_at_call 86; (with_reducible refine (VR _).mono ?_); rintro _ _ ⟨n2, rfl, rfl⟩))
      have h1s := n1.below.size
      have h2s := n2.below.size
      have h1s' : w.heap.size + 1 ≤ n1.val.heap.size := by simpa using h1s
      have hs1 : w.heap.size + 1 ≤ n2.val.heap.size := by omega
      clear h1s'
      have d1 : n2.val.cell? ⟨w.heap.size, 1, none⟩ = some (.slice AO nO cO) := cellBelow n2.below (cellBelow n1.below (by simp [go_sem]))
      have d2 : n2.val.cell? ⟨w.heap.size, 2, none⟩ = some (.slice AN nN cN) := cellBelow n2.below (cellBelow n1.below (by simp [go_sem]))
      have bww : Below w.heap.size w n2.val := by (repeat' (first | (with_reducible exact Below.refl _ _) | (with_reducible assumption) | (with_reducible refine Later.belowOf _ ?_ ?_) | (with_reducible refine Below.alloc ?_ ?_ _) | (with_reducible refine Below.setCell ?_ ?_ _) | (with_reducible refine Below.drewN' _ ?_) | (with_reducible refine Below.drew ?_) | (with_reducible exact Ge.le) | go_size))
      have HD := Lib.hid (show _ ∧ _ ∧ _ from ⟨d2, bww, hs1⟩)
      clear TR VR b0 d2 bww h1s h2s
      go_wp2
      go_loopw [32, 9, 11] (fun i v d wr => RunInv n2.val n2.val.heap.size ops xs nO i v d wr) (fun i _ _ _ => nO - (intOf i).toNat)
      case atStart =>
        exact ⟨0, rfl, Nat.zero_le _, own2_nil _ _ _, rfl, Below.refl _ _⟩
      case round =>
        obtain ⟨k, rfl, hk, hown, her, hbel⟩ := hrel
        obtain ⟨d2, bww, hs1⟩ := HD.out
        have hwr : Below w.heap.size w wr := bww.trans (hbel.mono (by omega))
        have hsz := hbel.size
        haveI gwr : Ge wr w.heap.size := ⟨hwr.size⟩
        haveI gwr1 : Ge wr (w.heap.size + 1) := ⟨by omega⟩
        have HR := Lib.hid (show _ ∧ _ ∧ _ ∧ _ from ⟨hown, her, hbel, hwr⟩)
        have hk2 : (k : Int) ≤ 4000 := by omega
        by_cases hkn : k < nO
        · obtain ⟨b, o, eA, l1, l2, c0, c1, c2, c3, c4, c5⟩ := HO2.out k hkn
          subst eA
          have c0 := cellBelow hwr c0
          have c1 := cellBelow hwr c1
          have c2 := cellBelow hwr c2
          have c3 := cellBelow hwr c3
          have c4 := cellBelow hwr c4
          have c5 := cellBelow hwr c5
          have hor : opR (ops k) (k : Nat) (nx : Nat) := by have := HT5.out k hkn; rw [← t7] at this; exact this
          have hal : Below wr.heap.size wr (wr.alloc (Obj.cells #[.int .i64 (ops k).K, .int .i64 (ops k).A, .int .i64 (ops k).B, .int .i64 (ops k).N, (.float .f64 ((ops k).lo)), (.float .f64 ((ops k).hi))] 66)) := (Below.refl _ _).alloc (Nat.le_refl _) _
          have VC := lvalue_c ((hown.iv.ivs).below hal) ((HX.out.below hwr).below hal) hor (HLN.out k hkn).1 (HLN.out k hkn).2
          have ly := HLT.out k hkn
          have ry := HRI.out k hkn
          rw [evF_eq hor] at ly ry
          have WC := bounded_c ly
          have hwide := wide_bound ly ry
          have HY := Lib.hid (evF_eq (xs := xs) hor)
          have hy : evB ops xs k = valB (ops k) (evF ops xs (ops k).A.toNat) (evF ops xs (ops k).B.toNat) := rfl
          have hz : errAt ops xs k = if evB ops xs k = false then 51 else if wideB (evF ops xs k) = true then 5 else 0 := rfl
          rw [evF_eq hor, hy] at hz
          generalize valY (ops k) (evF ops xs (ops k).A.toNat) (evF ops xs (ops k).B.toNat) (xs (ops k).N.toNat) = y at *
          generalize valB (ops k) (evF ops xs (ops k).A.toNat) (evF ops xs (ops k).B.toNat) = ok at *
          rw [hwide] at hz
          have HEY := Lib.hid hz
          have HLY := Lib.hid ly
          clear hz hy ly ry hwide hor hal hown her hbel
          generalize (ops k).K = oK at *
          generalize (ops k).A = oA at *
          generalize (ops k).B = oB at *
          generalize (ops k).N = oN at *
          generalize (ops k).lo = olo at *
          generalize (ops k).hi = ohi at *
          obtain ⟨y1, y2⟩ := y
          cases ok
          · have HE := Lib.hid (show evErr ops xs nO = 51 from by
              obtain ⟨_, h2, _⟩ := HR.out
              have h3 : errAt ops xs k = 51 := HEY.out
              rw [evErr_stop h2 (by rw [h3]; decide) hkn, h3])
            rw [HE.out]
            go_wp2_with (go_at_call 87; (with_reducible refine VC.mono ?_); rintro _ _ ⟨n3, rfl, rfl⟩)
            go_ret3
            exact ⟨_, _, rfl, fun _ => rfl, fun h => absurd h (by decide), by have := hwr; (repeat' (first | (with_reducible exact Below.refl _ _) | (with_reducible assumption) | (with_reducible refine Later.belowOf _ ?_ ?_) | (with_reducible refine Below.alloc ?_ ?_ _) | (with_reducible refine Below.setCell ?_ ?_ _) | (with_reducible refine Below.drewN' _ ?_) | (with_reducible refine Below.drew ?_) | (with_reducible exact Ge.le) | go_size))⟩
          · generalize hwb : boundB (y1, y2) = wb at *
            have hey := HEY.out
            cases wb
            · have HE := Lib.hid (show evErr ops xs nO = 5 from by
                obtain ⟨_, h2, _⟩ := HR.out
                have h3 : errAt ops xs k = 5 := hey
                rw [evErr_stop h2 (by rw [h3]; decide) hkn, h3])
              rw [HE.out]
              clear hey hwb
              go_wp2_with (first | (go_at_call 87; (with_reducible refine VC.mono ?_); rintro _ _ ⟨n3, rfl, rfl⟩) | (go_at_call 88; (with_reducible refine (WC.go _).mono ?_); rintro _ _ ⟨n4, rfl, rfl⟩))
              go_ret3
              exact ⟨_, _, rfl, fun _ => rfl, fun h => absurd h (by decide), by have := hwr; (repeat' (first | (with_reducible exact Below.refl _ _) | (with_reducible assumption) | (with_reducible refine Later.belowOf _ ?_ ?_) | (with_reducible refine Below.alloc ?_ ?_ _) | (with_reducible refine Below.setCell ?_ ?_ _) | (with_reducible refine Below.drewN' _ ?_) | (with_reducible refine Below.drew ?_) | (with_reducible exact Ge.le) | go_size))⟩
            · have HWB := Lib.hid hwb
              clear hwb
              go_upto_region 18 with (first | (go_at_call 87; (with_reducible refine VC.mono ?_); rintro _ _ ⟨n3, rfl, rfl⟩) | (go_at_call 88; (with_reducible refine (WC.go _).mono ?_); rintro _ _ ⟨n4, rfl, rfl⟩))
              obtain ⟨hown, her, hbel, _⟩ := HR.out
              have hown4 := Own2.below hown (w' := n4.val) (by (repeat' (first | (with_reducible exact Below.refl _ _) | (with_reducible assumption) | (with_reducible refine Later.belowOf _ ?_ ?_) | (with_reducible refine Below.alloc ?_ ?_ _) | (with_reducible refine Below.setCell ?_ ?_ _) | (with_reducible refine Below.drewN' _ ?_) | (with_reducible refine Below.drew ?_) | (with_reducible exact Ge.le) | go_size)))
              have hbel4 : Below n2.val.heap.size n2.val n4.val := hbel.trans (Below.mono (B := wr.heap.size) (by (repeat' (first | (with_reducible exact Below.refl _ _) | (with_reducible assumption) | (with_reducible refine Later.belowOf _ ?_ ?_) | (with_reducible refine Below.alloc ?_ ?_ _) | (with_reducible refine Below.setCell ?_ ?_ _) | (with_reducible refine Below.drewN' _ ?_) | (with_reducible refine Below.drew ?_) | (with_reducible exact Ge.le) | go_size))) hsz)
              have hy2 : evF ops xs k = (y1, y2) := HY.out
              have her2 : evErr ops xs (k + 1) = 0 := evErr_on her hey
              have HA := Lib.hid (show _ ∧ _ from ⟨her2, hbel4⟩)
              have hle4 := hbel4.size
              have hown5 := Own2.below hown4 (w' := n4.val.alloc (.cells #[(.float .f64 y1), (.float .f64 y2)] 24)) ((Below.refl _ _).alloc (Nat.le_refl _) _)
              have hle5 : n2.val.heap.size ≤ (n4.val.alloc (.cells #[(.float .f64 y1), (.float .f64 y2)] 24)).heap.size := by simp; omega
              clear her2 hbel4 her hbel hey hown hown4 VC WC
              go_wp2
              go_loopw [18, 17] (fun _ r wi => r = .slice none 0 0 ∧ wi = n4.val) (fun _ _ _ => 0)
              case atStart => exact ⟨rfl, rfl⟩
              case round =>
                obtain ⟨rfl, rfl⟩ := hrel
                go_wp2_with (first
                  | (at_builtin; refine wpList_append_p rfl rfl rfl rfl (heap_alloc_new _ _) hown5 hy2 HLY.out (by omega) hle5 ?_; intro g1 cap1 w5 hown6 hb6; have hle6 := hb6.size; have hown7 := Own2.below hown6 (w' := w5.alloc (.cells #[.slice none 0 0] 46)) ((Below.refl _ _).alloc (Nat.le_refl _) _); have hle7 : n2.val.heap.size ≤ (w5.alloc (.cells #[.slice none 0 0] 46)).heap.size := by simp; omega)
                  | (at_builtin; refine wpList_append_n rfl rfl rfl rfl (heap_alloc_new _ _) hown7 (by omega) hle7 ?_; intro g2 cap2 w6 hown8 hb8))
                go_roundw
                case rel => exact ⟨k + 1, by go_num, hkn, hown8, HA.out.1, HA.out.2.trans (Below.trans ((Below.refl n2.val.heap.size n4.val).alloc hle4 _) (hb6.trans (Below.trans ((Below.refl n2.val.heap.size w5).alloc (by simpa using Nat.le_trans hle5 hle6) _) hb8)))⟩
                case measure => simp [intOf]; omega
        · obtain rfl : k = nO := by omega
          obtain ⟨hown, her, hbel, hwr⟩ := HR.out
          have HE0 := Lib.hid her
          have d2' := cellB hbel d2 (by omega)
          obtain ⟨Av, cv, rfl, hnk, hAv⟩ := hown.iv.ivs
          obtain ⟨Ad, cd, rfl, hAd⟩ := nil_at hown.nl
          have HV2 := Lib.hid hAv
          have HD2 := Lib.hid hAd
          have HW := Lib.hid (show _ ∧ _ from ⟨hown, hwr⟩)
          clear hAv hAd hown her hbel hkn
          go_wp2
          obtain ⟨W2, hW2⟩ : ∃ W2 : World, W2 = wr := ⟨_, rfl⟩
          subst hW2
          go_loopw [92, 10, 12] (fun i v d wr => Outs2Inv W2 (outF ops outs xs) nN i v d wr) (fun i _ _ _ => nN - (intOf i).toNat)
          case atStart => exact ⟨0, rfl, Nat.zero_le _, own2_nil _ _ _, Below.refl _ _⟩
          case round =>
            obtain ⟨j, rfl, hj, ho2, hbel2⟩ := hrel
            have hj2 : (j : Int) ≤ 400 := by omega
            by_cases hjn : j < nN
            · obtain ⟨b, o, eA, c0⟩ := HN2.out j hjn
              subst eA
              have c0 := cellBelow (HW.out.2.trans (hbel2.mono HW.out.2.size)) c0
              have hbad := HT6.out j hjn
              unfold badO at hbad
              rw [Bool.or_eq_false_iff, decide_eq_false_iff_not, decide_eq_false_iff_not] at hbad
              obtain ⟨h3, h4⟩ := hbad
              have hyj : outF ops outs xs j = evF ops xs (outs j).toNat := rfl
              generalize outs j = oj at *
              obtain ⟨i, rfl⟩ := Int.eq_ofNat_of_zero_le (show 0 ≤ oj by omega)
              have hik : i < k := by omega
              obtain ⟨bv, ov, eV, lv, v0, v1⟩ := HV2.out i hik
              obtain ⟨gd, eD, e0⟩ := HD2.out i hik
              subst eV eD
              have qb : bv < W2.heap.size := World.block_lt_of_cell? _ _ v0
              have qd : gd < W2.heap.size := World.block_lt_of_cell? _ _ e0
              have v0 := cellBelow hbel2 v0
              have v1 := cellBelow hbel2 v1
              have e0 := cellBelow hbel2 e0
              have i0 : (0 : Int) ≤ (i : Int) := by omega
              have i1 : (i : Int) < (k : Int) := by omega
              rw [Int.toNat_natCast] at hyj
              generalize evF ops xs i = y at *
              obtain ⟨y1, y2⟩ := y
              have HYJ := Lib.hid hyj
              have HB2 := Lib.hid hbel2
              have hsz2 := hbel2.size
              clear hyj hbel2 h3 h4
              go_wp2_with (fail)
              haveI gw2 : Ge wr W2.heap.size := ⟨hsz2⟩
              have QV := fun g h => (own_lt ho2.iv.2 g h).2
              go_region_held3 (fun w' => w'.cell? ⟨bv, ov + i * 2, none⟩ = some (.float .f64 y1) ∧ w'.cell? ⟨bv, ov + i * 2 + 1, none⟩ = some (.float .f64 y2) ∧ w'.cell? ⟨gd, i, none⟩ = some (.slice none 0 0))
                (first
                  | go_keep
                  | (go_split_ands; refine ⟨?_, ?_, ?_⟩
                     · (rw [hb5.cell qb]; assumption)
                     · (rw [hb5.cell qb]; assumption)
                     · (rw [hb5.cell qd]; assumption))
                  | (go_split_ands; refine ⟨?_, ?_, ?_⟩
                     · (rw [hb8.cell qb]; assumption)
                     · (rw [hb8.cell qb]; assumption)
                     · (rw [hb8.cell qd]; assumption)))
                (first
                  | (refine step_append_p (fr := (0, 0)) rfl (by rfl) (by rfl) (by rfl) (by (repeat' (first | (with_reducible refine at_drew ?_) | (with_reducible refine at_new ?_; (first | rfl | (simp; done))) | (with_reducible refine at_old ?_)))) (Own2.below ho2 (by (repeat' (first | (with_reducible exact Below.refl _ _) | (with_reducible assumption) | (with_reducible refine Later.belowOf _ ?_ ?_) | (with_reducible refine Below.alloc ?_ ?_ _) | (with_reducible refine Below.setCell ?_ ?_ _) | (with_reducible refine Below.drewN' _ ?_) | (with_reducible refine Below.drew ?_) | (with_reducible exact Ge.le) | go_size)))) HYJ.out lv (by omega) (by first | omega | (simp; omega)) ?_; intro g1 cap1 w5 ho5 hb5 hf5 hs5; replace hs5 : wr.heap.size ≤ w5.heap.size := (by have h := hs5; simp at h; omega))
                  | (refine step_append_n (fr := (0, 0)) rfl (by rfl) (by rfl) (by rfl) (by (repeat' (first | (with_reducible refine at_drew ?_) | (with_reducible refine at_new ?_; (first | rfl | (simp; done))) | (with_reducible refine at_old ?_) | (with_reducible refine at_far hf5 QV (by first | exact Nat.le_refl _ | simp) ?_)))) (Own2.below ho5 (by (repeat' (first | (with_reducible exact Below.refl _ _) | (with_reducible assumption) | (with_reducible refine Later.belowOf _ ?_ ?_) | (with_reducible refine Below.alloc ?_ ?_ _) | (with_reducible refine Below.setCell ?_ ?_ _) | (with_reducible refine Below.drewN' _ ?_) | (with_reducible refine Below.drew ?_) | (with_reducible exact Ge.le) | go_size)))) (by omega) (by first | omega | (simp; omega)) ?_; intro g2 cap2 w6 ho6 hb8))
              all_goals
                haveI gw5 : Ge w5 W2.heap.size := ⟨by omega⟩
                go_wp2
                go_roundw
                case rel => exact ⟨j + 1, by go_num, hjn, ho6, HB2.out.trans (Below.trans (by (repeat' (first | (with_reducible exact Below.refl _ _) | (with_reducible assumption) | (with_reducible refine Later.belowOf _ ?_ ?_) | (with_reducible refine Below.alloc ?_ ?_ _) | (with_reducible refine Below.setCell ?_ ?_ _) | (with_reducible refine Below.drewN' _ ?_) | (with_reducible refine Below.drew ?_) | (with_reducible exact Ge.le) | go_size))) (hb5.trans (Below.trans (by (repeat' (first | (with_reducible exact Below.refl _ _) | (with_reducible assumption) | (with_reducible refine Later.belowOf _ ?_ ?_) | (with_reducible refine Below.alloc ?_ ?_ _) | (with_reducible refine Below.setCell ?_ ?_ _) | (with_reducible refine Below.drewN' _ ?_) | (with_reducible refine Below.drew ?_) | (with_reducible exact Ge.le) | go_size))) hb8)))⟩
                case measure => simp [intOf]; omega
            · obtain rfl : j = nN := by omega
              have hwr := HW.out.2
              go_wp2
              go_ret3
              exact ⟨_, _, by rw [HE0.out]; rfl, fun h => absurd HE0.out h, fun _ => ho2.iv.base hwr.size, hwr.trans (hbel2.mono hwr.size)⟩
    · rw [decide_eq_false hV] at VR
      have hs : startE V nO ops nN outs xs nx = 1 := by unfold startE; rw [if_pos hT, if_neg hV]
      rw [hs, if_pos (by decide)]
      obtain ⟨Ax, cx, rfl, hnx, hcx⟩ := hx
      clear hT hT1 hO hN b0 hs hV hcx
      go_enter Tryz.func34, Tryz.ntmps34
      go_wp2_with (first
        | (go_at_call 39; (with_reducible refine TR.mono ?_); rintro _ _ ⟨n1, rfl, rfl⟩)
        | (go_at_call 86; (with_reducible refine (VR _).mono ?_); rintro _ _ ⟨n2, rfl, rfl⟩))
      go_ret3
      exact ⟨_, _, rfl, fun _ => rfl, fun h => absurd h (by decide), by (repeat' (first | (with_reducible exact Below.refl _ _) | (with_reducible assumption) | (with_reducible refine Later.belowOf _ ?_ ?_) | (with_reducible refine Below.alloc ?_ ?_ _) | (with_reducible refine Below.setCell ?_ ?_ _) | (with_reducible refine Below.drewN' _ ?_) | (with_reducible refine Below.drew ?_) | (with_reducible exact Ge.le) | go_size))⟩
  · rw [decide_eq_false hT] at TR
    have hs : startE V nO ops nN outs xs nx = 50 := by unfold startE; rw [if_neg hT]
    rw [hs, if_pos (by decide)]
    clear hT hO hN b0 hs VR hx
    go_enter Tryz.func34, Tryz.ntmps34
    go_wp2_with (go_at_call 39; (with_reducible refine TR.mono ?_); rintro _ _ ⟨n1, rfl, rfl⟩)
    go_ret3
    exact ⟨_, _, rfl, fun _ => rfl, fun h => absurd h (by decide), by (repeat' (first | (with_reducible exact Below.refl _ _) | (with_reducible assumption) | (with_reducible refine Later.belowOf _ ?_ ?_) | (with_reducible refine Below.alloc ?_ ?_ _) | (with_reducible refine Below.setCell ?_ ?_ _) | (with_reducible refine Below.drewN' _ ?_) | (with_reducible refine Below.drew ?_) | (with_reducible exact Ge.le) | go_size))⟩
end Go.Proofs.YtpkgpkabmechkaaGreat
