/- Contracts: picard.Bound, where what is asked may be. -/
import Derived.Test.YtpkgpkabmechkaaGreatPkP4x
import Derived.Test.YtpkgpkabmechkaaGreatPkW57x
import Derived.Laws.EntriesVeiled
namespace Go.Proofs.YtpkgpkabmechkaaGreat
set_option linter.unusedSimpArgs false
set_option linter.unusedVariables false
open Go.RowKit
open Fl

/-- What Bound returns. -/
def BoundRes (w : World) (z : Bool) (H : (Nat → Nat × Nat) → Bool) (x wide : Nat → Nat × Nat) (n : Nat) (e : Ending) (w' : World) : Prop :=
  ∃ v E, e = .returned (.tuple #[v, .int .i64 E]) ∧ Below w.heap.size w w' ∧ (E = 0 → ∃ ys, IvsAt w' v ys n) ∧ (E = 0 ∨ E = 80 ∧ v = .slice none 0 0) ∧
    (z = true → (H x = true → E = 0 ∧ IvsAt w' v x n) ∧ (H x = false → E = 80)) ∧ (z = false → H wide = true → E = 0 ∧ ∃ ys, IvsAt w' v ys n ∧ ShrunkH H wide ys n)

set_option maxHeartbeats 16000000 in
set_option maxRecDepth 100000 in
theorem bound_c {V : Int} {vO vN vx : Value} {ops : Nat → OpT} {outs : Nat → Int} {nO nN n : Nat} {x : Nat → Nat × Nat} {time : Nat} {w : World} (ha : Ask w V vO vN vx ops outs nO nN n x time)
    (hT : TapeR V nO ops nN outs) (hV1 : 1 ≤ V) (hV2 : V ≤ 24) (hnN : (nN : Int) = V) (hn : (n : Int) = V) (ht0 : fle 0 time = true) (ht1 : fle time 4697254411347427328 = true)
    (hno : anyB x n (fun x => noneB x.1 x.2) = false) (hbo : anyB x n (fun x => !pbB x) = false) :
    Calls Tryz.prog 38 #[.agg #[.int .i64 V, vO, vN], vx, (.float .f64 time)] w (BoundRes w (feq time 0) (fun b => holdsB V nO ops nN outs x b time n) x (widerF x 4589168020290535424) n) := by
  have SC := fun (W : World) (hW : Below w.heap.size w W) => pstart_c (ha.hO.below hW) (ha.hN.below hW) (ha.hx.below hW) hT hV1 hV2 hnN hn ht0 ht1 hno hbo
  generalize hHf : (fun b => holdsB V nO ops nN outs x b time n) = H at *
  generalize hz : feq time 0 = z at *
  have HZ := Lib.hid (show _ ∧ _ from ⟨hz, hHf⟩)
  clear hz hHf
  have HA := Lib.hid ha
  have hn0 : 0 < n := by omega
  clear hT hV1 hV2 hnN hn ht0 ht1 hno hbo ha
  have hvx : ∃ bx0 ox0 cx0, vx = .slice (some ⟨bx0, ox0, none⟩) n cx0 := by
    obtain ⟨A, c, rfl, _, h⟩ := HA.out.hx
    obtain ⟨b, o, rfl, _⟩ := h 0 hn0
    exact ⟨b, o, c, rfl⟩
  obtain ⟨bx0, ox0, cx0, rfl⟩ := hvx
  go_enter Tryz.func38, Tryz.ntmps38
  go_upto_region 6 with (go_at_call 94; refine (SC _ (by (repeat' first | (with_reducible first | exact Below.refl _ _ | assumption | refine Later.belowOf _ ?_ ?_ | refine Below.alloc ?_ ?_ _ | refine Below.setCell ?_ ?_ _ | refine Below.drewN' _ ?_ | refine Below.drew ?_ | exact Ge.le) | go_size))).mono ?_; rintro _ _ ⟨n1, rfl, rfl⟩)
  refine cut_world (fun W hW => ?_)
  have bw : Below w.heap.size w W := by rw [← hW]; (repeat' first | (with_reducible first | exact Below.refl _ _ | assumption | refine Later.belowOf _ ?_ ?_ | refine Below.alloc ?_ ?_ _ | refine Below.setCell ?_ ?_ _ | refine Below.drewN' _ ?_ | refine Below.drew ?_ | exact Ge.le) | go_size)
  have hc : Ctx W w.heap.size (w.heap.size + 1) (w.heap.size + 1 + 1) V vO vN (.slice (some ⟨bx0, ox0, none⟩) n cx0) time := by
    rw [← hW]
    exact ⟨by simp [go_sem], by simp [go_sem], by simp [go_sem], by simp [go_sem], by simp [go_sem]⟩
  have hh : W.cell? ⟨n1.val.heap.size, 0, none⟩ = some (.func (.func 95) #[] #[.pointer (some ⟨w.heap.size, 0, none⟩), .pointer (some ⟨w.heap.size + 1, 0, none⟩), .pointer (some ⟨w.heap.size + 1 + 1, 0, none⟩)]) := by rw [← hW]; simp [go_sem]
  have hg : W.cell? ⟨n1.val.heap.size + 1, 0, none⟩ = some (.func (.func 99) #[] #[.pointer (some ⟨n1.val.heap.size, 0, none⟩)]) := by rw [← hW]; simp [go_sem]
  clear hW SC
  generalize w.heap.size + 1 + 1 = bm at *
  generalize w.heap.size + 1 = bx at *
  generalize n1.val.heap.size + 1 = bg at *
  generalize n1.val.heap.size = bh at *
  have ha := HA.out.below bw
  have hH : HoldsOk W n H (fun b => hullF x (reachY ops outs x b time)) w.heap.size bx bm := by
    rw [← HZ.out.2]
    exact fun W' vb b hW hi => holds_c (hc.below hW) (ha.below hW) hi
  generalize (fun b => hullF x (reachY ops outs x b time)) = Yf at *
  have hx := ha.hx
  have CX := hH W _ x (Below.refl _ _) hx
  have hcx := hc.cx
  have hcm := hc.cm
  haveI gx : Ge W (bx + 1) := ⟨World.block_lt_of_cell? W _ hcx⟩
  haveI gm : Ge W (bm + 1) := ⟨World.block_lt_of_cell? W _ hcm⟩
  haveI gh : Ge W (bh + 1) := ⟨World.block_lt_of_cell? W _ hh⟩
  haveI gg : Ge W (bg + 1) := ⟨World.block_lt_of_cell? W _ hg⟩
  have HHid := Lib.hid hH
  have HC := Lib.hid (show _ ∧ _ ∧ _ from ⟨hc, ha, bw⟩)
  have hn1 := ha.h1
  clear hH hc ha bw
  rcases fot z with hz0 | hz0
  · have hz := HZ.out.1.trans hz0
    clear CX
    have WC := pwider_c (share := 4589168020290535424) hx hn1 (by decide)
    go_upto_region 12 with (go_at_call 100; (with_reducible refine WC.mono ?_); rintro _ w2 ⟨u2, rfl, hu2, hb2⟩)
    obtain ⟨n2, rfl⟩ : ∃ n2 : Later W, w2 = n2.val := ⟨⟨w2, hb2⟩, rfl⟩
    have hu3 := hu2.ivs
    have CW := HHid.out n2.val _ _ n2.below hu3
    have HU := Lib.hid hu3
    have hb02 : Below w.heap.size w n2.val := HC.out.2.2.trans (n2.below.mono HC.out.2.2.size)
    have HB2 := Lib.hid hb02
    generalize hwf : widerF x 4589168020290535424 = wf at *
    generalize hr : H wf = r at *
    clear hb2 hu2 hu3 WC hb02
    cases r
    · go_upto_region 15 with (go_at_call 95; (with_reducible refine CW.mono ?_); rintro _ w3 ⟨v3, rfl, hv1, hv2, hb3⟩)
      obtain ⟨n3, rfl⟩ : ∃ n3 : Later n2.val, w3 = n3.val := ⟨⟨w3, hb3⟩, rfl⟩
      have hW3 : Below W.heap.size W n3.val := n2.below.trans (n3.below.mono n2.below.size)
      have hb03 : Below w.heap.size w n3.val := HB2.out.trans (n3.below.mono HB2.out.size)
      have GC := fun (K : FuncId) (hK : K = 100 ∨ K = 102) (W' : World) (hW' : Below W.heap.size W W') => grown_c (V := V) hK (HHid.out.below hW') (HC.out.1.below hW') (HC.out.2.1.below hW') (cellBelow hW' hh) (cellBelow hW' hg)
      have HW3 := Lib.hid (show _ ∧ _ from ⟨hW3, hb03⟩)
      have G1 := GC _ (Or.inl rfl) n3.val hW3
      clear hW3 hb03 hv1 hv2 hb3 CW
      go_upto_region 17 with (go_at_call 101; (with_reducible refine G1.mono ?_); rintro _ w4 ⟨v4, ok, rfl, hok, hb4⟩)
      obtain ⟨n4, rfl⟩ : ∃ n4 : Later n3.val, w4 = n4.val := ⟨⟨w4, hb4⟩, rfl⟩
      have hb04 : Below w.heap.size w n4.val := HW3.out.2.trans (n4.below.mono HW3.out.2.size)
      have G2 := GC _ (Or.inr rfl) n4.val (HW3.out.1.trans (n4.below.mono HW3.out.1.size))
      have HB4 := Lib.hid (show _ ∧ _ from ⟨hb04, hok⟩)
      clear hb04 hb4 hok G1 GC
      cases ok
      · go_upto_region 20 with (go_at_call 101; (with_reducible refine G2.mono ?_); rintro _ w5 ⟨v5, ok5, rfl, hok5, hb5⟩)
        have hb05 : Below w.heap.size w w5 := HB4.out.1.trans (hb5.mono HB4.out.1.size)
        cases ok5
        · go_wp2
          go_ret2
          exact ⟨_, _, rfl, hb05, fun h => absurd h (by decide), Or.inr ⟨rfl, rfl⟩, fun h => (by first | exact absurd (hz0.symm.trans h) (by decide) | cases h), fun _ h => absurd (hr.symm.trans h) (by decide)⟩
        · go_wp2
          go_ret2
          exact ⟨_, _, rfl, hb05, fun _ => hok5 (by first | trivial | rfl), Or.inl rfl, fun h => (by first | exact absurd (hz0.symm.trans h) (by decide) | cases h), fun _ h => absurd (hr.symm.trans h) (by decide)⟩
      · go_wp2
        go_ret2
        exact ⟨_, _, rfl, HB4.out.1, fun _ => HB4.out.2 (by first | trivial | rfl), Or.inl rfl, fun h => (by first | exact absurd (hz0.symm.trans h) (by decide) | cases h), fun _ h => absurd (hr.symm.trans h) (by decide)⟩
    · have TC := fun (W' : World) (hW' : Below n2.val.heap.size n2.val W') => tight_c (HHid.out.below (n2.below.trans (hW'.mono n2.below.size))) (cellBelow hW' (cellBelow n2.below hh)) (HU.out.below hW')
      go_wp2_with (first
        | (go_at_call 95; (with_reducible refine CW.mono ?_); rintro _ w3 ⟨v3, rfl, hv1, hv2, hb3⟩; obtain ⟨n3, rfl⟩ : ∃ n3 : Later n2.val, w3 = n3.val := ⟨⟨w3, hb3⟩, rfl⟩; clear hv1 hv2)
        | (go_at_call 99; refine (TC n3.val n3.below).mono ?_; rintro _ w4 ⟨u4, zs, rfl, hu4, hs4, hb4⟩))
      go_ret2
      have hb03 : Below w.heap.size w n3.val := HB2.out.trans (n3.below.mono HB2.out.size)
      exact ⟨_, _, rfl, hb03.trans (hb4.mono hb03.size), fun _ => ⟨_, hu4⟩, Or.inl rfl, fun h => (by first | exact absurd (hz0.symm.trans h) (by decide) | cases h), fun _ _ => ⟨rfl, zs, hu4, hs4⟩⟩
  · have hz := HZ.out.1.trans hz0
    generalize hr : H x = r at *
    cases r
    · go_wp2_with (go_at_call 95; (with_reducible refine CX.mono ?_); rintro _ w2 ⟨v2, rfl, hv1, hv2, hb2⟩)
      go_ret2
      exact ⟨_, _, rfl, HC.out.2.2.trans (hb2.mono HC.out.2.2.size), fun h => (by cases h), Or.inr ⟨rfl, rfl⟩, fun _ => ⟨fun h => (by rw [hr] at h; cases h), fun _ => rfl⟩, fun h => (by first | exact absurd (hz0.symm.trans h) (by decide) | cases h)⟩
    · go_wp2_with (first
        | (go_at_call 95; (with_reducible refine CX.mono ?_); rintro _ w2 ⟨v2, rfl, hv1, hv2, hb2⟩; obtain ⟨n2, rfl⟩ : ∃ n2 : Later W, w2 = n2.val := ⟨⟨w2, hb2⟩, rfl⟩; clear hv1 hv2)
        | (go_at_call 93; refine (clone_c (hx.below n2.below) hn0 hn1).mono ?_; rintro _ w3 ⟨u3, rfl, hu3, hb3⟩))
      go_ret2
      have hb23 : Below w.heap.size w n2.val := HC.out.2.2.trans (n2.below.mono HC.out.2.2.size)
      exact ⟨_, _, rfl, hb23.trans (hb3.mono hb23.size), fun _ => ⟨_, hu3⟩, Or.inl rfl, fun _ => ⟨fun _ => ⟨rfl, hu3⟩, fun h => (by rw [hr] at h; cases h)⟩, fun h => (by first | exact absurd (hz0.symm.trans h) (by decide) | cases h)⟩
end Go.Proofs.YtpkgpkabmechkaaGreat

/- Contracts: the law's bounded, field, may; the reference's Reach. -/
namespace Go.Proofs.YtpkgpkabmechkaaGreat
set_option linter.unusedSimpArgs false
set_option linter.unusedVariables false
open Go.RowKit
open Fl

set_option maxHeartbeats 2000000 in
set_option maxRecDepth 100000 in
theorem lbounded_c {v : Value} {n : Nat} {x : Nat → Nat × Nat} {w : World} (hx : IvsAt w v x n) :
    Calls Tryz.prog 41 #[v] w fun e w' => ∃ q : Later w, e = .returned (.bool (!anyB x n (fun x => !boundB x))) ∧ w' = q.val := by
  obtain ⟨Ax, cx, rfl, hnx, hcx⟩ := hx
  have HX := Lib.hid hcx
  clear hcx
  obtain ⟨R, hR⟩ : ∃ R : Bool, R = !anyB x n (fun x => !boundB x) := ⟨_, rfl⟩
  rw [← hR]
  have HR := Lib.hid hR
  clear hR
  go_enter Tryz.func41, Tryz.ntmps41
  go_wp2
  go_loopw [7] (fun i wr => IvInv w x n (fun x => !boundB x) i wr) (fun i _ => n - (intOf i).toNat)
  case atStart => exact ⟨0, rfl, Nat.zero_le _, fun j hj => by omega, Below.refl _ _⟩
  case round =>
    obtain ⟨k, rfl, hk, hE, hbel⟩ := hrel
    have HE := Lib.hid hE
    have hk2 : (k : Int) ≤ 9223372036854775807 := by omega
    have HB := Lib.hid hbel
    clear hE
    by_cases h1 : k < n
    · obtain ⟨b, o, eA, lx, c1, c2⟩ := HX.out k h1
      subst eA
      have c1 := cellBelow hbel c1
      have c2 := cellBelow hbel c2
      have nn := bounded_c lx
      generalize hx : x k = xk at *
      generalize hbx : boundB xk = bx at *
      have HX2 := Lib.hid (show _ ∧ _ from ⟨hx, hbx⟩)
      clear hx hbx lx hbel
      obtain ⟨x1, x2⟩ := xk
      simp only at c1 c2 nn
      cases bx
      · go_wp2_with (go_at_call 88; (with_reducible refine (nn.go _).mono ?_); rintro _ _ ⟨n1, rfl, rfl⟩)
        go_ret
        refine ⟨⟨_, HB.out.trans (Below.mono (B := wr.heap.size) (by (repeat' first | (with_reducible first | exact Below.refl _ _ | assumption | refine Later.belowOf _ ?_ ?_ | refine Below.alloc ?_ ?_ _ | refine Below.setCell ?_ ?_ _ | refine Below.drewN' _ ?_ | refine Below.drew ?_ | exact Ge.le) | go_size)) HB.out.size)⟩, ret_bool ?_, rfl⟩
        have : anyB x n (fun x => !boundB x) = true := anyB_iff.2 ⟨k, h1, by rw [HX2.out.1, HX2.out.2]; rfl⟩
        rw [HR.out, this]; rfl
      · go_wp2_with (go_at_call 88; (with_reducible refine (nn.go _).mono ?_); rintro _ _ ⟨n1, rfl, rfl⟩)
        go_roundw
        case rel => exact ⟨k + 1, by go_num, h1, fun j hj => by rcases Nat.lt_succ_iff_lt_or_eq.1 hj with h | h; exact HE.out j h; (show (!boundB (x j)) = false; rw [h, HX2.out.1, HX2.out.2]; rfl), HB.out.trans (Below.mono (B := wr.heap.size) (by (repeat' first | (with_reducible first | exact Below.refl _ _ | assumption | refine Later.belowOf _ ?_ ?_ | refine Below.alloc ?_ ?_ _ | refine Below.setCell ?_ ?_ _ | refine Below.drewN' _ ?_ | refine Below.drew ?_ | exact Ge.le) | go_size)) HB.out.size)⟩
        case measure => simp [intOf]; omega
    · obtain rfl : k = n := by omega
      go_wp2
      go_ret
      have ha : anyB x k (fun x => !boundB x) = false := by
        rcases fot (anyB x k (fun x => !boundB x)) with h | h
        · exact h
        · obtain ⟨j, hj, hb⟩ := anyB_iff.1 h
          have := HE.out j hj
          rw [this] at hb; cases hb
      first
        | exact ⟨⟨_, hbel⟩, ret_bool (by rw [HR.out, ha]; rfl), rfl⟩
        | exact ⟨ret_bool (by rw [HR.out, ha]; rfl), ⟨_, hbel⟩, rfl⟩

set_option maxHeartbeats 2000000 in
set_option maxRecDepth 100000 in
theorem reachR_c {x f : Nat × Nat} {time : Nat} (hx : Lt x) (hf : Lt f) (ht : time < 18446744073709551616) : Gives 47 #[(.agg #[.float .f64 x.1, .float .f64 x.2]), (.agg #[.float .f64 f.1, .float .f64 f.2]), (.float .f64 time)] (.agg #[.float .f64 ((goP x f time).1), .float .f64 ((goP x f time).2)]) := by
  intro w
  have MK := make2_any 0 time (by decide) ht
  have lm : Lt (makeI 0 time) := lt_make (by decide) ht
  have ML := mulR lm hf
  have lp := lt_mul lm hf
  have AD := addR hx lp
  unfold goP
  generalize addP x (mulP (makeI 0 time) f) = z at *
  generalize mulP (makeI 0 time) f = p at *
  generalize makeI 0 time = mk at *
  clear hx hf lm lp
  obtain ⟨x1, x2⟩ := x
  obtain ⟨f1, f2⟩ := f
  obtain ⟨p1, p2⟩ := p
  obtain ⟨m1, m2⟩ := mk
  obtain ⟨z1, z2⟩ := z
  simp only at *
  go_enter Tryz.func47, Tryz.ntmps47
  go_wp2_with (fail)
  (refine wp_region_tail_later 6 (by kernel_rfl) (by kernel_rfl) ?_; simp only [List.take_succ_cons, List.take_zero, List.drop_succ_cons, List.drop_zero])
  repeat (go_big_quiet_step (first | (go_at_call 18; (with_reducible exact MK.later _)) | (go_at_call 27; (with_reducible exact ML.later _)) | (go_at_call 30; (with_reducible exact AD.later _))))
  (refine wpQuiet_nil ?_; rintro _ ⟨nq, rfl⟩)
  go_wp2
  go_returns
  exact ⟨rfl, by (repeat' first | (with_reducible first | exact Below.refl _ _ | assumption | refine Later.belowOf _ ?_ ?_ | refine Below.alloc ?_ ?_ _ | refine Below.setCell ?_ ?_ _ | refine Below.drewN' _ ?_ | refine Below.drew ?_ | exact Ge.le) | go_size)⟩

open Classical in
set_option maxHeartbeats 2000000 in
set_option maxRecDepth 100000 in
theorem field_c {V : Int} {vO vN : Value} {ops : Nat → OpT} {outs : Nat → Int} {nO nN : Nat} {w : World} (hO : OpsAt w vO ops nO) (hN : OutsAt w vN outs nN) :
    Calls Tryz.prog 104 #[.agg #[.int .i64 V, vO, vN]] w fun e w' => ∃ q : Later w, e = .returned (.bool (decide (TapeR V nO ops nN outs ∧ 1 ≤ V ∧ V ≤ 24 ∧ (nN : Int) = V))) ∧ w' = q.val := by
  have b0 : Below w.heap.size w (w.alloc (Obj.cells #[.int .i64 V, vO, vN] 45)) := (Below.refl _ _).alloc (Nat.le_refl _) _
  have TR := to_later (rright_any V vO vN ops outs nO nN _ (hO.below b0) (hN.below b0))
  obtain ⟨R, hR⟩ : ∃ R : Bool, R = decide (TapeR V nO ops nN outs ∧ 1 ≤ V ∧ V ≤ 24 ∧ (nN : Int) = V) := ⟨_, rfl⟩
  rw [← hR]
  obtain ⟨AN, cN, rfl, hN⟩ := hN
  generalize hT : decide (TapeR V nO ops nN outs) = T at *
  have HR := Lib.hid (show _ ∧ _ from ⟨hR, hT⟩)
  clear hR hT hO hN b0
  have cs : T = false ∨ (T = true ∧ V < 1) ∨ (T = true ∧ 1 ≤ V ∧ 24 < V) ∨ (T = true ∧ 1 ≤ V ∧ V ≤ 24) := by
    cases T
    · exact Or.inl rfl
    · have : V < 1 ∨ (1 ≤ V ∧ 24 < V) ∨ (1 ≤ V ∧ V ≤ 24) := by omega
      rcases this with h | h | h
      · exact Or.inr (Or.inl ⟨rfl, h⟩)
      · exact Or.inr (Or.inr (Or.inl ⟨rfl, h⟩))
      · exact Or.inr (Or.inr (Or.inr ⟨rfl, h⟩))
  rcases cs with rfl | ⟨rfl, h1⟩ | ⟨rfl, h1, h2⟩ | ⟨rfl, h1, h2⟩
  all_goals
    go_enter Tryz.func104, Tryz.ntmps104
    go_wp2_with (go_at_call 39; (with_reducible refine TR.mono ?_); rintro _ _ ⟨n1, rfl, rfl⟩)
    go_ret
    obtain ⟨hR, hT⟩ := HR.out
    first
      | refine ⟨⟨_, by (repeat' first | (with_reducible first | exact Below.refl _ _ | assumption | refine Later.belowOf _ ?_ ?_ | refine Below.alloc ?_ ?_ _ | refine Below.setCell ?_ ?_ _ | refine Below.drewN' _ ?_ | refine Below.drew ?_ | exact Ge.le) | go_size)⟩, ret_bool ?_, rfl⟩
      | refine ⟨ret_bool ?_, ⟨_, by (repeat' first | (with_reducible first | exact Below.refl _ _ | assumption | refine Later.belowOf _ ?_ ?_ | refine Below.alloc ?_ ?_ _ | refine Below.setCell ?_ ?_ _ | refine Below.drewN' _ ?_ | refine Below.drew ?_ | exact Ge.le) | go_size)⟩, rfl⟩
    rw [hR]
    first
      | (have h' := of_decide_eq_false hT; rw [decide_eq_false (fun hh => h' hh.1)])
      | (have h' := of_decide_eq_true hT; rw [Bool.eq_iff_iff]; simp [h', h1]; done)
      | (have h' := of_decide_eq_true hT; rw [Bool.eq_iff_iff]; simp [h']; omega)

open Classical in
noncomputable def mayB (V : Int) (nO : Nat) (ops : Nat → OpT) (nN : Nat) (outs : Nat → Int) (x : Nat → Nat × Nat) (n time : Nat) : Bool :=
  decide (TapeR V nO ops nN outs ∧ 1 ≤ V ∧ V ≤ 24 ∧ (nN : Int) = V) && (decide ((n : Int) = V ∧ anyB x n (fun x => noneB x.1 x.2) = false) && (fle 0 time && fle time 4697254411347427328))

open Classical in
set_option maxHeartbeats 4000000 in
set_option maxRecDepth 100000 in
theorem may_c {V : Int} {vO vN vx : Value} {ops : Nat → OpT} {outs : Nat → Int} {nO nN n time : Nat} {x : Nat → Nat × Nat} {w : World} (hO : OpsAt w vO ops nO) (hN : OutsAt w vN outs nN) (hx : IvsAt w vx x n) :
    Calls Tryz.prog 40 #[.agg #[.int .i64 V, vO, vN], vx, (.float .f64 time)] w fun e w' => ∃ q : Later w, e = .returned (.bool (mayB V nO ops nN outs x n time)) ∧ w' = q.val := by
  have b0 : Below w.heap.size w (w.alloc (Obj.cells #[.int .i64 V, vO, vN] 45)) := (Below.refl _ _).alloc (Nat.le_refl _) _
  have FC := field_c (V := V) (hO.below b0) (hN.below b0)
  have VC := fun (W : World) (hW : Below w.heap.size w W) => vars_c (V := V) (vO := vO) (vN := vN) (hx.below hW)
  unfold mayB
  generalize decide (TapeR V nO ops nN outs ∧ 1 ≤ V ∧ V ≤ 24 ∧ (nN : Int) = V) = Fd at *
  generalize decide ((n : Int) = V ∧ anyB x n (fun x => noneB x.1 x.2) = false) = Vr at *
  clear hO hN hx b0
  have cs : (Fd = false) ∨ (Fd = true ∧ Vr = false) ∨ (Fd = true ∧ Vr = true) := by cases Fd <;> cases Vr <;> simp
  rcases cs with rfl | ⟨rfl, rfl⟩ | ⟨rfl, rfl⟩
  · go_enter Tryz.func40, Tryz.ntmps40
    go_wp2_with (go_at_call 104; (with_reducible refine FC.mono ?_); rintro _ _ ⟨n1, rfl, rfl⟩)
    go_ret
    first
      | exact ⟨⟨_, by (repeat' first | (with_reducible first | exact Below.refl _ _ | assumption | refine Later.belowOf _ ?_ ?_ | refine Below.alloc ?_ ?_ _ | refine Below.setCell ?_ ?_ _ | refine Below.drewN' _ ?_ | refine Below.drew ?_ | exact Ge.le) | go_size)⟩, rfl, rfl⟩
      | exact ⟨rfl, ⟨_, by (repeat' first | (with_reducible first | exact Below.refl _ _ | assumption | refine Later.belowOf _ ?_ ?_ | refine Below.alloc ?_ ?_ _ | refine Below.setCell ?_ ?_ _ | refine Below.drewN' _ ?_ | refine Below.drew ?_ | exact Ge.le) | go_size)⟩, rfl⟩
  · go_enter Tryz.func40, Tryz.ntmps40
    go_wp2_with (first | (go_at_call 104; (with_reducible refine FC.mono ?_); rintro _ _ ⟨n1, rfl, rfl⟩) | (go_at_call 86; refine (VC _ (by (repeat' first | (with_reducible first | exact Below.refl _ _ | assumption | refine Later.belowOf _ ?_ ?_ | refine Below.alloc ?_ ?_ _ | refine Below.setCell ?_ ?_ _ | refine Below.drewN' _ ?_ | refine Below.drew ?_ | exact Ge.le) | go_size))).mono ?_; rintro _ _ ⟨n2, rfl, rfl⟩))
    go_ret
    first
      | exact ⟨⟨_, by (repeat' first | (with_reducible first | exact Below.refl _ _ | assumption | refine Later.belowOf _ ?_ ?_ | refine Below.alloc ?_ ?_ _ | refine Below.setCell ?_ ?_ _ | refine Below.drewN' _ ?_ | refine Below.drew ?_ | exact Ge.le) | go_size)⟩, rfl, rfl⟩
      | exact ⟨rfl, ⟨_, by (repeat' first | (with_reducible first | exact Below.refl _ _ | assumption | refine Later.belowOf _ ?_ ?_ | refine Below.alloc ?_ ?_ _ | refine Below.setCell ?_ ?_ _ | refine Below.drewN' _ ?_ | refine Below.drew ?_ | exact Ge.le) | go_size)⟩, rfl⟩
  · rcases fot (fle 0 time) with h0 | h0
    · rw [h0]
      go_enter Tryz.func40, Tryz.ntmps40
      go_wp2_with (first | (go_at_call 104; (with_reducible refine FC.mono ?_); rintro _ _ ⟨n1, rfl, rfl⟩) | (go_at_call 86; refine (VC _ (by (repeat' first | (with_reducible first | exact Below.refl _ _ | assumption | refine Later.belowOf _ ?_ ?_ | refine Below.alloc ?_ ?_ _ | refine Below.setCell ?_ ?_ _ | refine Below.drewN' _ ?_ | refine Below.drew ?_ | exact Ge.le) | go_size))).mono ?_; rintro _ _ ⟨n2, rfl, rfl⟩))
      go_ret
      first
        | exact ⟨⟨_, by (repeat' first | (with_reducible first | exact Below.refl _ _ | assumption | refine Later.belowOf _ ?_ ?_ | refine Below.alloc ?_ ?_ _ | refine Below.setCell ?_ ?_ _ | refine Below.drewN' _ ?_ | refine Below.drew ?_ | exact Ge.le) | go_size)⟩, rfl, rfl⟩
        | exact ⟨rfl, ⟨_, by (repeat' first | (with_reducible first | exact Below.refl _ _ | assumption | refine Later.belowOf _ ?_ ?_ | refine Below.alloc ?_ ?_ _ | refine Below.setCell ?_ ?_ _ | refine Below.drewN' _ ?_ | refine Below.drew ?_ | exact Ge.le) | go_size)⟩, rfl⟩
    · rw [h0]
      generalize hle : fle time 4697254411347427328 = l1
      go_enter Tryz.func40, Tryz.ntmps40
      go_wp2_with (first | (go_at_call 104; (with_reducible refine FC.mono ?_); rintro _ _ ⟨n1, rfl, rfl⟩) | (go_at_call 86; refine (VC _ (by (repeat' first | (with_reducible first | exact Below.refl _ _ | assumption | refine Later.belowOf _ ?_ ?_ | refine Below.alloc ?_ ?_ _ | refine Below.setCell ?_ ?_ _ | refine Below.drewN' _ ?_ | refine Below.drew ?_ | exact Ge.le) | go_size))).mono ?_; rintro _ _ ⟨n2, rfl, rfl⟩))
      go_ret
      first
        | exact ⟨⟨_, by (repeat' first | (with_reducible first | exact Below.refl _ _ | assumption | refine Later.belowOf _ ?_ ?_ | refine Below.alloc ?_ ?_ _ | refine Below.setCell ?_ ?_ _ | refine Below.drewN' _ ?_ | refine Below.drew ?_ | exact Ge.le) | go_size)⟩, ret_bool (by simp), rfl⟩
        | exact ⟨ret_bool (by simp), ⟨_, by (repeat' first | (with_reducible first | exact Below.refl _ _ | assumption | refine Later.belowOf _ ?_ ?_ | refine Below.alloc ?_ ?_ _ | refine Below.setCell ?_ ?_ _ | refine Below.drewN' _ ?_ | refine Below.drew ?_ | exact Ge.le) | go_size)⟩, rfl⟩
end Go.Proofs.YtpkgpkabmechkaaGreat

/- Contracts: the reference's Bounds. -/
namespace Go.Proofs.YtpkgpkabmechkaaGreat
set_option linter.unusedSimpArgs false
set_option linter.unusedVariables false
open Go.RowKit
open Fl

def boundsI (x b f : Nat → Nat × Nat) (time i : Nat) : Bool := boundB (b i) && (insideB (x i).1 (x i).2 (b i).1 (b i).2 && insideB (goP (x i) (f i) time).1 (goP (x i) (f i) time).2 (b i).1 (b i).2)
def boundsAll (x b f : Nat → Nat × Nat) (time n : Nat) : Bool := (List.range n).all fun i => boundsI x b f time i
theorem boundsAll_iff {x b f : Nat → Nat × Nat} {time n : Nat} : boundsAll x b f time n = true ↔ ∀ i, i < n → boundsI x b f time i = true := by
  unfold boundsAll
  rw [List.all_eq_true]
  exact ⟨fun h i hi => h i (List.mem_range.2 hi), fun h i hi => h i (List.mem_range.1 hi)⟩
def BsInv (W : World) (x b f : Nat → Nat × Nat) (time n : Nat) (i : Value) (w : World) : Prop :=
  ∃ k : Nat, i = .int .i64 k ∧ k ≤ n ∧ (∀ j, j < k → boundsI x b f time j = true) ∧ Below W.heap.size W w

set_option maxHeartbeats 8000000 in
set_option maxRecDepth 100000 in
theorem refBounds_c {vx vb vf : Value} {n time : Nat} {x b f : Nat → Nat × Nat} {w : World} (hx : IvsAt w vx x n) (hb : IvsAt w vb b n) (hf : IvsAt w vf f n) (ht : time < 18446744073709551616) :
    Calls Tryz.prog 105 #[vx, vb, vf, (.float .f64 time)] w fun e w' => ∃ q : Later w, e = .returned (.bool (boundsAll x b f time n)) ∧ w' = q.val := by
  obtain ⟨A1, c1, rfl, hn, hx⟩ := hx
  obtain ⟨A2, c2, rfl, _, hb⟩ := hb
  obtain ⟨A3, c3, rfl, _, hf⟩ := hf
  have HX := Lib.hid hx
  have HB := Lib.hid hb
  have HF := Lib.hid hf
  clear hx hb hf
  obtain ⟨R, hR⟩ : ∃ R : Bool, R = boundsAll x b f time n := ⟨_, rfl⟩
  rw [← hR]
  have HR := Lib.hid hR
  clear hR
  go_enter Tryz.func105, Tryz.ntmps105
  go_wp2
  go_loopw [24] (fun i wr => BsInv w x b f time n i wr) (fun i _ => n - (intOf i).toNat)
  case atStart => exact ⟨0, rfl, Nat.zero_le _, fun j hj => by omega, Below.refl _ _⟩
  case round =>
    obtain ⟨k, rfl, hk, hE, hbel⟩ := hrel
    have HE := Lib.hid (show _ ∧ _ from ⟨hE, hbel⟩)
    have hk2 : (k : Int) ≤ 9223372036854775807 := by omega
    clear hE
    by_cases h1 : k < n
    · obtain ⟨b1, o1, e1, lx, x0, x1⟩ := HX.out k h1
      obtain ⟨b2, o2, e2, lb, y0, y1⟩ := HB.out k h1
      obtain ⟨b3, o3, e3, lf, f0, f1⟩ := HF.out k h1
      subst e1 e2 e3
      have x0 := cellBelow hbel x0
      have x1 := cellBelow hbel x1
      have y0 := cellBelow hbel y0
      have y1 := cellBelow hbel y1
      have f0 := cellBelow hbel f0
      have f1 := cellBelow hbel f1
      haveI g1 : Ge wr (b1 + 1) := ⟨World.block_lt_of_cell? wr _ x0⟩
      haveI g2 : Ge wr (b2 + 1) := ⟨World.block_lt_of_cell? wr _ y0⟩
      haveI g3 : Ge wr (b3 + 1) := ⟨World.block_lt_of_cell? wr _ f0⟩
      have RR := reachR_c lx lf ht
      have lz : Lt (goP (x k) (f k) time) := lt_add lx (lt_mul (lt_make (by decide) ht) lf)
      have BB := bounded_c lb
      have I1 := inside_ref_any (x k).1 (x k).2 (b k).1 (b k).2 lx.1 lx.2 lb.1 lb.2
      have I2 := inside_ref_any (goP (x k) (f k) time).1 (goP (x k) (f k) time).2 (b k).1 (b k).2 lz.1 lz.2 lb.1 lb.2
      have hbi : boundsI x b f time k = (boundB (b k) && (insideB (x k).1 (x k).2 (b k).1 (b k).2 && insideB (goP (x k) (f k) time).1 (goP (x k) (f k) time).2 (b k).1 (b k).2)) := rfl
      generalize boundB (b k) = p1 at *
      generalize insideB (x k).1 (x k).2 (b k).1 (b k).2 = p2 at *
      generalize insideB (goP (x k) (f k) time).1 (goP (x k) (f k) time).2 (b k).1 (b k).2 = p3 at *
      generalize goP (x k) (f k) time = z at *
      generalize x k = xk at *
      generalize b k = bk at *
      generalize f k = fk at *
      have HI := Lib.hid hbi
      obtain ⟨xa, xb⟩ := xk
      obtain ⟨ba, bb⟩ := bk
      obtain ⟨fa, fb⟩ := fk
      obtain ⟨za, zb⟩ := z
      simp only at x0 x1 y0 y1 f0 f1 RR BB I1 I2
      clear lx lb lf lz hbi hbel
      have k0 : (0 : Int) ≤ (k : Int) := by omega
      have k1 : (k : Int) < (n : Int) := by omega
      have cs : (p1 = false) ∨ (p1 = true ∧ p2 = false) ∨ (p1 = true ∧ p2 = true ∧ p3 = false) ∨ (p1 = true ∧ p2 = true ∧ p3 = true) := by cases p1 <;> cases p2 <;> cases p3 <;> simp
      rcases cs with rfl | ⟨rfl, rfl⟩ | ⟨rfl, rfl, rfl⟩ | ⟨rfl, rfl, rfl⟩
      all_goals
        go_wp2_with (fail)
        refine wp_region_later (by kernel_rfl) (by kernel_rfl) ?_
        repeat (go_big_quiet_step (first | (go_at_call 88; (with_reducible exact BB.later _)) | (go_at_call 46; first | (with_reducible exact I1.later _) | (with_reducible exact I2.later _)) | (go_at_call 47; (with_reducible exact RR.later _))))
        (refine wpQuiet_nil ?_; rintro _ ⟨nq, rfl⟩)
        go_wp2
      iterate 3
        · go_ret
          refine ⟨⟨_, HE.out.2.trans (Below.mono (B := wr.heap.size) (by (repeat' first | (with_reducible first | exact Below.refl _ _ | assumption | refine Later.belowOf _ ?_ ?_ | refine Below.alloc ?_ ?_ _ | refine Below.setCell ?_ ?_ _ | refine Below.drewN' _ ?_ | refine Below.drew ?_ | exact Ge.le) | go_size)) HE.out.2.size)⟩, ret_bool ?_, rfl⟩
          rw [HR.out]
          rcases fot (boundsAll x b f time n) with h | h
          · exact h.symm
          · have h2 := boundsAll_iff.1 h k h1
            rw [HI.out] at h2; cases h2
      · go_roundw
        case rel =>
          refine ⟨k + 1, by go_num, h1, fun j hj => ?_, HE.out.2.trans (Below.mono (B := wr.heap.size) (by (repeat' first | (with_reducible first | exact Below.refl _ _ | assumption | refine Later.belowOf _ ?_ ?_ | refine Below.alloc ?_ ?_ _ | refine Below.setCell ?_ ?_ _ | refine Below.drewN' _ ?_ | refine Below.drew ?_ | exact Ge.le) | go_size)) HE.out.2.size)⟩
          rcases Nat.lt_succ_iff_lt_or_eq.1 hj with h | h
          · exact HE.out.1 j h
          · rw [h, HI.out]; rfl
        case measure => simp [intOf]; omega
    · obtain rfl : k = n := by omega
      go_wp2
      go_ret
      have hin : boundsAll x b f time k = true := boundsAll_iff.2 HE.out.1
      first
        | exact ⟨⟨_, hbel⟩, ret_bool (by rw [HR.out, hin]), rfl⟩
        | exact ⟨ret_bool (by rw [HR.out, hin]), ⟨_, hbel⟩, rfl⟩
end Go.Proofs.YtpkgpkabmechkaaGreat

/- Contracts: does a box bound, by what tape.Eval tells. -/
namespace Go.Proofs.YtpkgpkabmechkaaGreat
set_option linter.unusedSimpArgs false
set_option linter.unusedVariables false
open Go.RowKit
open Fl

noncomputable def bdB (V : Int) (nO : Nat) (ops : Nat → OpT) (nN : Nat) (outs : Nat → Int) (x b : Nat → Nat × Nat) (time n : Nat) : Bool :=
  decide (evalE V nO ops nN outs b n = 0) && boundsAll x b (outF ops outs b) time n

set_option maxHeartbeats 4000000 in
set_option maxRecDepth 100000 in
theorem bounds_c {V : Int} {vO vN vx vb : Value} {ops : Nat → OpT} {outs : Nat → Int} {nO n : Nat} {x b : Nat → Nat × Nat} {time : Nat} {w : World} (hO : OpsAt w vO ops nO) (hN : OutsAt w vN outs n) (hx : IvsAt w vx x n) (hb : IvsAt w vb b n) (ht : time < 18446744073709551616) :
    Calls Tryz.prog 42 #[.agg #[.int .i64 V, vO, vN], vx, vb, (.float .f64 time)] w fun e w' => ∃ q : Later w, e = .returned (.bool (bdB V nO ops n outs x b time n)) ∧ w' = q.val := by
  have b0 : Below w.heap.size w (w.alloc (Obj.cells #[.int .i64 V, vO, vN] 45)) := (Below.refl _ _).alloc (Nat.le_refl _) _
  have EV := eval_c (V := V) (hO.below b0) (hN.below b0) (hb.below b0)
  have BC := fun (W : World) (hW : Below w.heap.size w W) (vf : Value) (hf : IvsAt W vf (outF ops outs b) n) => refBounds_c (hx.below hW) (hb.below hW) hf ht
  unfold bdB
  generalize evalE V nO ops n outs b n = E at *
  generalize boundsAll x b (outF ops outs b) time n = R at *
  generalize outF ops outs b = F at *
  clear hO hN hx hb b0
  by_cases hE : E = 0
  · subst hE
    simp only [decide_true, Bool.true_and]
    go_enter Tryz.func42, Tryz.ntmps42
    go_wp2_with (first
      | (go_at_call 33; refine EV.mono ?_; rintro _ w2 ⟨va, rfl, ha1, ha2, hb2⟩; replace ha2 := (ha2 rfl).ivs; clear ha1 EV; obtain ⟨n2, rfl⟩ : ∃ n2 : Later (w.alloc (Obj.cells #[.int .i64 V, vO, vN] 45)), w2 = n2.val := ⟨⟨w2, hb2⟩, rfl⟩; clear hb2)
      | (go_at_call 105; refine (BC _ (by (repeat' first | (with_reducible first | exact Below.refl _ _ | assumption | refine Later.belowOf _ ?_ ?_ | refine Below.alloc ?_ ?_ _ | refine Below.setCell ?_ ?_ _ | refine Below.drewN' _ ?_ | refine Below.drew ?_ | exact Ge.le) | go_size)) _ ha2).mono ?_; rintro _ _ ⟨n3, rfl, rfl⟩))
    go_ret
    first
      | exact ⟨⟨_, by (repeat' first | (with_reducible first | exact Below.refl _ _ | assumption | refine Later.belowOf _ ?_ ?_ | refine Below.alloc ?_ ?_ _ | refine Below.setCell ?_ ?_ _ | refine Below.drewN' _ ?_ | refine Below.drew ?_ | exact Ge.le) | go_size)⟩, rfl, rfl⟩
      | exact ⟨rfl, ⟨_, by (repeat' first | (with_reducible first | exact Below.refl _ _ | assumption | refine Later.belowOf _ ?_ ?_ | refine Below.alloc ?_ ?_ _ | refine Below.setCell ?_ ?_ _ | refine Below.drewN' _ ?_ | refine Below.drew ?_ | exact Ge.le) | go_size)⟩, rfl⟩
  · rw [decide_eq_false hE, Bool.false_and]
    have hE2 : ((E == 0) = false) := by simpa using hE
    clear BC
    go_enter Tryz.func42, Tryz.ntmps42
    go_wp2_with (go_at_call 33; refine EV.mono ?_; rintro _ w2 ⟨va, rfl, ha1, ha2, hb2⟩; obtain rfl := ha1 hE; clear ha1 ha2 EV; obtain ⟨n2, rfl⟩ : ∃ n2 : Later (w.alloc (Obj.cells #[.int .i64 V, vO, vN] 45)), w2 = n2.val := ⟨⟨w2, hb2⟩, rfl⟩; clear hb2)
    go_ret
    first
      | exact ⟨⟨_, by (repeat' first | (with_reducible first | exact Below.refl _ _ | assumption | refine Later.belowOf _ ?_ ?_ | refine Below.alloc ?_ ?_ _ | refine Below.setCell ?_ ?_ _ | refine Below.drewN' _ ?_ | refine Below.drew ?_ | exact Ge.le) | go_size)⟩, rfl, rfl⟩
      | exact ⟨rfl, ⟨_, by (repeat' first | (with_reducible first | exact Below.refl _ _ | assumption | refine Later.belowOf _ ?_ ?_ | refine Below.alloc ?_ ?_ _ | refine Below.setCell ?_ ?_ _ | refine Below.drewN' _ ?_ | refine Below.drew ?_ | exact Ge.le) | go_size)⟩, rfl⟩
end Go.Proofs.YtpkgpkabmechkaaGreat

/- Plain: of a box that bounds; of no time. -/
namespace Go.Proofs.YtpkgpkabmechkaaGreat
set_option linter.unusedSimpArgs false
set_option linter.unusedVariables false
open Go.RowKit
open Fl

theorem evErr_all {ops : Nat → OpT} {xs : Nat → Nat × Nat} : ∀ {n : Nat}, evErr ops xs n = 0 → ∀ k, k < n → errAt ops xs k = 0 := by
  intro n
  induction n with
  | zero => intro h k hk; omega
  | succ n ih =>
    intro h
    unfold evErr at h
    by_cases h0 : evErr ops xs n = 0
    · rw [if_neg (by simpa using h0)] at h
      intro k hk
      rcases Nat.lt_succ_iff_lt_or_eq.1 hk with h1 | h1
      · exact ih h0 k h1
      · rw [h1]; exact h
    · rw [if_pos h0] at h; exact absurd h h0
theorem errAt_zero {ops : Nat → OpT} {xs : Nat → Nat × Nat} {k : Nat} (h : errAt ops xs k = 0) : evB ops xs k = true ∧ wideB (evF ops xs k) = false := by
  unfold errAt at h
  rcases fot (evB ops xs k) with h1 | h1
  · rw [if_pos h1] at h; exact absurd h (by decide)
  · rw [if_neg (by rw [h1]; simp)] at h
    rcases fot (wideB (evF ops xs k)) with h2 | h2
    · exact ⟨h1, h2⟩
    · rw [if_pos h2] at h; exact absurd h (by decide)
theorem evalE_zero {V : Int} {nO nN nx : Nat} {ops : Nat → OpT} {outs : Nat → Int} {xs : Nat → Nat × Nat} (h : evalE V nO ops nN outs xs nx = 0) : startE V nO ops nN outs xs nx = 0 ∧ evErr ops xs nO = 0 := by
  unfold evalE at h
  by_cases h0 : startE V nO ops nN outs xs nx = 0
  · rw [if_neg (by simpa using h0)] at h; exact ⟨h0, h⟩
  · rw [if_pos h0] at h; exact absurd h h0
/-- What is told of a tape is bounded. -/
theorem out_bound {V : Int} {nO nN nx : Nat} {ops : Nat → OpT} {outs : Nat → Int} {xs : Nat → Nat × Nat} (h : evalE V nO ops nN outs xs nx = 0) (hl : ∀ i, i < nO → (ops i).lo < 18446744073709551616 ∧ (ops i).hi < 18446744073709551616) (hx : ∀ i, i < nx → Lt (xs i)) :
    ∀ j, j < nN → Lt (outF ops outs xs j) ∧ boundB (outF ops outs xs j) = true := by
  obtain ⟨hs, he⟩ := evalE_zero h
  obtain ⟨⟨t1, t2, t3, t4, t5, t6⟩, t7, t8⟩ := start_zero hs
  intro j hj
  have hbad := t6 j hj
  unfold badO at hbad
  rw [Bool.or_eq_false_iff, decide_eq_false_iff_not, decide_eq_false_iff_not] at hbad
  have ho : ∀ i, i < nO → opR (ops i) (i : Nat) (nx : Nat) := fun i hi => by have := t5 i hi; rw [← t7] at this; exact this
  have hk : (outs j).toNat < nO := by omega
  have hlt := lt_ev ho hl hx _ hk
  have hri : rightB (evF ops xs (outs j).toNat).1 (evF ops xs (outs j).toNat).2 = true := by
    rw [evF_eq (ho _ hk)]
    exact right_val (ho _ hk) (fun h1 h2 => (right_of (t8 _ (by omega))).1)
  have hw := (errAt_zero (evErr_all he _ hk)).2
  rw [wide_bound hlt hri] at hw
  have hb : boundB (evF ops xs (outs j).toNat) = true := by simpa using hw
  exact ⟨hlt, hb⟩

theorem bound_none {x : Nat × Nat} (h : boundB x = true) : noneB x.1 x.2 = false := by
  unfold boundB at h
  rw [Bool.and_eq_true] at h
  simpa using h.1
theorem bound_idx {x : Nat × Nat} (hx : Lt x) : boundB x = true ↔ noneB x.1 x.2 = false ∧ -9218868437227405312 < idx x.1 ∧ idx x.2 < 9218868437227405312 := by
  unfold boundB
  rcases fot (noneB x.1 x.2) with h | h
  · have E := ends_of hx.1 hx.2 h
    have c1 := E.ca.num
    have c2 := E.cb.num
    have r1 := nan_false.1 c1
    have r2 := nan_false.1 c2
    have i1 : -9218868437227405312 ≤ idx x.1 := by unfold INFR at r1; unfold idx; split <;> omega
    have i2 : idx x.2 ≤ 9218868437227405312 := by unfold INFR at r2; unfold idx; split <;> omega
    have e1 : feq x.1 18442240474082181120 = decide (idx x.1 = -9218868437227405312) := by unfold feq; rw [c1, idx_ninf]; rfl
    have e2 : feq x.2 9218868437227405312 = decide (idx x.2 = 9218868437227405312) := by unfold feq; rw [c2, idx_pinf]; rfl
    rw [h, e1, e2]
    simp
    omega
  · rw [h]; simp
theorem inside_bound {a b : Nat × Nat} (ha : Lt a) (hb : Lt b) (h : boundB b = true) (hi : insideB a.1 a.2 b.1 b.2 = true) (hn : noneB a.1 a.2 = false) : boundB a = true := by
  obtain ⟨n, l, u⟩ := (bound_idx hb).1 h
  unfold insideB at hi
  rw [hn, n] at hi
  simp only [Bool.false_or, Bool.not_false, Bool.true_and, Bool.and_eq_true] at hi
  have h1 := (fle_true.1 hi.1).2.2
  have h2 := (fle_true.1 hi.2).2.2
  exact (bound_idx ha).2 ⟨hn, by omega, by omega⟩
theorem wide_of_bound {x : Nat × Nat} (hx : Lt x) (h : boundB x = true) : wideB x = false := by
  rw [wide_bound hx (right_of (bound_none h)).1, h]; rfl

/-- A time, from nought on. -/
theorem time_ends {time : Nat} (lt : time < 18446744073709551616) (h0 : fle 0 time = true) (h1 : fle time 4697254411347427328 = true) : makeI 0 time = (0, cl time) ∧ Ends 0 (cl time) ∧ noneB 0 (cl time) = false := by
  obtain ⟨n1, n2, l⟩ := fle_true.1 h0
  obtain ⟨_, _, u⟩ := fle_true.1 h1
  have e0 : idx 0 = 0 := by decide
  have e1 : idx 4697254411347427328 = 4697254411347427328 := by decide
  have cc : Can (cl time) := ⟨cl_lt lt, nan_cl _ n2, fun h => by rw [idx_cl] at h; unfold cl; rw [if_pos h]⟩
  have ic := idx_cl time
  have n := none_can can_zero cc (by omega) (by omega) (by omega)
  refine ⟨?_, ends_of can_zero.lt cc.lt n, n⟩
  have := make_can can_zero cc (by omega) (by omega) (by omega)
  unfold makeI at this ⊢
  rw [cl_cl] at this
  exact this
theorem go_ends {x f : Nat × Nat} {time : Nat} (lt : time < 18446744073709551616) (h0 : fle 0 time = true) (h1 : fle time 4697254411347427328 = true) (hx : Lt x) (nx : noneB x.1 x.2 = false) (hf : Lt f) (nf : noneB f.1 f.2 = false) :
    noneB (goP x f time).1 (goP x f time).2 = false := by
  obtain ⟨e, E, n⟩ := time_ends lt h0 h1
  have P := prod_sub (Sub.self E n) (Sub.self (ends_of hf.1 hf.2 nf) nf)
  have S := sum_sub (Sub.self (ends_of hx.1 hx.2 nx) nx) P
  unfold goP addP mulP
  rw [e]
  exact S.n

theorem mulS_zero {q : Nat} (dir : Int) (h : nan q = false) : mulS 0 q dir = 0 := by
  unfold mulS
  rw [h]
  simp [show nan 0 = false by decide, show rung 0 = 0 by decide]
theorem plc_exact {x : Nat} (h : finB x = true) (dir : Int) : plc (val x) 1 dir = idx x := by
  have hr := finB_rung.1 h
  unfold plc
  rw [val_abs, rungOf_exact1 hr, rungOf_exact1 hr]
  by_cases h0 : rung x = 0
  · have : val x = 0 := (val_eq_zero x).2 h0
    rw [this, h0, (idx_zero_iff x).2 h0]; simp
  · have := val_neg x h0
    unfold idx
    cases hs : sgn x
    · rw [if_neg (by rw [this, hs]; simp)]; simp
    · rw [if_pos (by rw [this, hs])]; simp
theorem addS_zero {x : Nat} (h : finB x = true) (dir : Int) : idx (addS x 0 dir) = idx x := by
  rw [addS_fin dir h (by decide), idx_rnd, (val_eq_zero 0).2 (by decide), Int.add_zero, plc_exact h]
theorem finOf {x : Nat} (h1 : -9218868437227405312 < idx x) (h2 : idx x < 9218868437227405312) : finB x = true := by
  rw [finB_rung]
  unfold idx at h1 h2
  unfold INFR
  cases hs : sgn x <;> rw [hs] at h1 h2 <;> simp at h1 h2 <;> omega
/-- Nothing is added. -/
theorem add_nought {x : Nat × Nat} (hx : Lt x) (h : boundB x = true) : Lt (sumI x.1 x.2 0 0) ∧ boundB (sumI x.1 x.2 0 0) = true ∧ idx (sumI x.1 x.2 0 0).1 = idx x.1 ∧ idx (sumI x.1 x.2 0 0).2 = idx x.2 := by
  obtain ⟨n, l, u⟩ := (bound_idx hx).1 h
  have E := ends_of hx.1 hx.2 n
  have le := E.le
  have f1 := finOf l (by omega)
  have f2 := finOf (x := x.2) (by omega) u
  have a1 := addS_zero f1 (-1)
  have a2 := addS_zero f2 1
  have S := sum_sub (Sub.self E n) (Sub.self ends00.1 ends00.2)
  have c1 : Can (addS x.1 0 (-1)) := can_add _ E.ca can_zero (by rw [addS_fin _ f1 (by decide)]; exact nan_rnd _ _ _)
  have c2 : Can (addS x.2 0 1) := can_add _ E.cb can_zero (by rw [addS_fin _ f2 (by decide)]; exact nan_rnd _ _ _)
  have e : sumI x.1 x.2 0 0 = endsI (addS x.1 0 (-1)) (addS x.2 0 1) := by unfold sumI; rw [n, ends00.2]; rfl
  obtain ⟨E2, n2, l2, u2⟩ := ends_eq c1 c2 (by omega)
  have L : Lt (sumI x.1 x.2 0 0) := ⟨S.E.ca.lt, S.E.cb.lt⟩
  rw [e] at L ⊢
  refine ⟨L, (bound_idx L).2 ⟨n2, by omega, by omega⟩, by omega, by omega⟩
theorem prod_nought {f : Nat × Nat} (hf : Lt f) (h : boundB f = true) : prodI 0 0 f.1 f.2 = (0, 0) := by
  have n := bound_none h
  have E := ends_of hf.1 hf.2 n
  have m : ∀ d, mulS 0 f.1 d = 0 := fun d => mulS_zero d E.ca.num
  have m2 : ∀ d, mulS 0 f.2 d = 0 := fun d => mulS_zero d E.cb.num
  unfold prodI mulL mulH
  rw [n, ends00.2, m, m2, m, m2]
  decide +kernel
theorem go_nought {x f : Nat × Nat} {time : Nat} (lt : time < 18446744073709551616) (h0 : fle 0 time = true) (h1 : fle time 4697254411347427328 = true) (hz : feq time 0 = true) (hx : Lt x) (bx : boundB x = true) (hf : Lt f) (bf : boundB f = true) :
    wideB (goP x f time) = false ∧ insideB (goP x f time).1 (goP x f time).2 x.1 x.2 = true := by
  obtain ⟨e, E, n⟩ := time_ends lt h0 h1
  have hc : cl time = 0 := by
    have := (feq_true.1 hz).2.2
    unfold cl
    rw [if_pos (by rw [this]; decide)]
  have e2 : goP x f time = sumI x.1 x.2 0 0 := by
    unfold goP addP mulP
    rw [e, hc, prod_nought hf bf]
  obtain ⟨L, B, i1, i2⟩ := add_nought hx bx
  rw [e2]
  refine ⟨wide_of_bound L B, ?_⟩
  have nx := bound_none bx
  have Ex := ends_of hx.1 hx.2 nx
  have nb := bound_none B
  have Eb := ends_of L.1 L.2 nb
  unfold insideB
  rw [nx, nb, fle_can Ex.ca.num Eb.ca.num (by omega), fle_can Eb.cb.num Ex.cb.num (by omega)]; rfl
theorem inside_me {x : Nat × Nat} (hx : Lt x) : insideB x.1 x.2 x.1 x.2 = true := by
  rcases fot (noneB x.1 x.2) with h | h
  · exact inside_self hx.1 hx.2 h
  · unfold insideB; rw [h]; rfl
def InsInv (W : World) (n : Nat) (i : Value) (w : World) : Prop := ∃ k : Nat, i = .int .i64 k ∧ k ≤ n ∧ Below W.heap.size W w

theorem any_false {xs : Nat → Nat × Nat} {n : Nat} {bad : Nat × Nat → Bool} (h : anyB xs n bad = false) : ∀ i, i < n → bad (xs i) = false := fun i hi => by
  rcases fot (bad (xs i)) with h1 | h1
  · exact h1
  · rw [anyB_iff.2 ⟨i, hi, h1⟩] at h; cases h
theorem any_of {xs : Nat → Nat × Nat} {n : Nat} {bad : Nat × Nat → Bool} (h : ∀ i, i < n → bad (xs i) = false) : anyB xs n bad = false := by
  rcases fot (anyB xs n bad) with h1 | h1
  · exact h1
  · obtain ⟨i, hi, h2⟩ := anyB_iff.1 h1
    rw [h i hi] at h2; cases h2
theorem bound_pb {x : Nat × Nat} (hx : Lt x) (h : boundB x = true) : pbB x = true := by
  have hw := wide_of_bound hx h
  rw [wide_pb, Bool.or_eq_false_iff] at hw
  simpa using hw.2
end Go.Proofs.YtpkgpkabmechkaaGreat

/- Contracts: the reference's wide box. -/
namespace Go.Proofs.YtpkgpkabmechkaaGreat
set_option linter.unusedSimpArgs false
set_option linter.unusedVariables false
open Go.RowKit
open Fl

theorem right_num2 {a b : Nat} (h : rightB a b = true) : nan b = false := by
  rcases fot (noneB a b) with h1 | h1
  · exact (nums_of h1).2
  · unfold noneB at h1
    rw [h] at h1
    simp only [Bool.not_true, Bool.false_or] at h1
    unfold eqI at h1
    rw [Bool.and_eq_true] at h1
    exact (feq_true.1 h1.2).1
theorem right_mulP (a b : Nat × Nat) : rightB (mulP a b).1 (mulP a b).2 = true := by unfold mulP prodI; split; exact right_e2; exact right_ends
theorem makeI_clL (a b : Nat) : makeI (cl a) b = makeI a b := by unfold makeI; rw [cl_cl]
theorem ownIv_empty (w : World) (xs : Nat → Nat × Nat) : OwnIv w.heap.size (w.alloc (Obj.cells #[] 24)) (.slice (some ⟨w.heap.size, 0, none⟩) 0 0) xs 0 :=
  ⟨fun i hi => by omega, rfl, Or.inr ⟨w.heap.size, 0, #[], rfl, Nat.le_refl _, heap_alloc_new _ _, Nat.le_refl _, by decide, rfl, rfl⟩⟩

@[go_sem high] theorem run_zero_sub (P : Program) (w : World) (t : TypeId) (d : Nat) (h : nan d = false) : (binOp .sub t (.float .f64 0) (.float .f64 d)).run P w = .ok (.float .f64 (cl (fneg d))) w := by
  rw [run_fop .sub (Or.inr (Or.inl rfl))]
  obtain ⟨e1, e2⟩ := fop_zero_sub w h
  rw [e1, e2]; rfl

set_option maxHeartbeats 8000000 in
set_option maxRecDepth 100000 in
theorem refWide_c {v : Value} {n : Nat} {b : Nat → Nat × Nat} {w : World} (hx : IvsAt w v b n) (hn1 : n ≤ 1000) :
    Calls Tryz.prog 43 #[v] w fun e w' => ∃ u, e = .returned u ∧ OwnIv w.heap.size w' u (widerF b 4589168020290535424) n ∧ Below w.heap.size w w' := by
  obtain ⟨A, c, rfl, hn, hx⟩ := hx
  have HX := Lib.hid hx
  clear hx
  go_enter Tryz.func43, Tryz.ntmps43
  go_wp2
  go_loopw [11, 3] (fun i v wr => OutInv1 w (widerF b 4589168020290535424) n i v wr) (fun i _ _ => n - (intOf i).toNat)
  case atStart => exact ⟨0, rfl, Nat.zero_le _, ownIv_empty _ _, (Below.refl _ _).alloc (Nat.le_refl _) _⟩
  case round =>
    obtain ⟨k, rfl, hk, hown, hbel⟩ := hrel
    have hk2 : (k : Int) ≤ 1000 := by omega
    by_cases h1 : k < n
    · obtain ⟨b1, o1, eA, lx, c1, c2⟩ := HX.out k h1
      subst eA
      have c1 := cellBelow hbel c1
      have c2 := cellBelow hbel c2
      haveI g3 : Ge wr w.heap.size := ⟨hbel.size⟩
      have MG := mag_ref_any (b k).1 (b k).2 lx.1 lx.2
      have lmg : magI (b k).1 (b k).2 < 18446744073709551616 := lt_magI
      have PM := make2_any _ _ lmg lmg
      have P1 := make2_any 4607182418800017408 4607182418800017408 (by decide) (by decide)
      have PS := make2_any 4589168020290535424 4589168020290535424 (by decide) (by decide)
      have l1 := lt_pt (show 4607182418800017408 < 18446744073709551616 by decide)
      have lpm := lt_pt lmg
      have lps := lt_pt (show 4589168020290535424 < 18446744073709551616 by decide)
      have A1 := addR l1 lpm
      have la := lt_add l1 lpm
      have M1 := mulR lps la
      have lm := lt_mul lps la
      have hd : nan (mulP (ptP 4589168020290535424) (addP (ptP 4607182418800017408) (ptP (magI (b k).1 (b k).2)))).2 = false := right_num2 (right_mulP _ _)
      have hz : widerF b 4589168020290535424 k = addP (b k) (makeI (fneg (moreD (magI (b k).1 (b k).2) 4589168020290535424)) (moreD (magI (b k).1 (b k).2) 4589168020290535424)) := rfl
      unfold moreD at hz
      rw [← makeI_clL] at hz
      have MK := make2_any (cl (fneg (mulP (ptP 4589168020290535424) (addP (ptP 4607182418800017408) (ptP (magI (b k).1 (b k).2)))).2)) _ (cl_lt (fneg_lt _)) lm.2
      have lk := lt_make (cl_lt (fneg_lt (mulP (ptP 4589168020290535424) (addP (ptP 4607182418800017408) (ptP (magI (b k).1 (b k).2)))).2)) lm.2
      have A2 := addR lx lk
      have lz := lt_add lx lk
      change Gives _ _ (.agg #[.float .f64 ((ptP (magI (b k).1 (b k).2)).1), .float .f64 ((ptP (magI (b k).1 (b k).2)).2)]) at PM
      change Gives _ _ (.agg #[.float .f64 ((ptP 4607182418800017408).1), .float .f64 ((ptP 4607182418800017408).2)]) at P1
      change Gives _ _ (.agg #[.float .f64 ((ptP 4589168020290535424).1), .float .f64 ((ptP 4589168020290535424).2)]) at PS
      generalize magI (b k).1 (b k).2 = mg at *
      generalize ptP mg = pm at *
      generalize ptP 4607182418800017408 = p1 at *
      generalize ptP 4589168020290535424 = ps at *
      generalize addP p1 pm = s at *
      generalize mulP ps s = m at *
      obtain ⟨m1, d⟩ := m
      simp only at *
      generalize makeI (cl (fneg d)) d = mk at *
      generalize b k = x at *
      generalize addP x mk = z at *
      have HZ := Lib.hid (show _ ∧ _ from ⟨hz, lz⟩)
      have HR := Lib.hid (show _ ∧ _ from ⟨hown, hbel⟩)
      obtain ⟨x1, x2⟩ := x
      obtain ⟨z1, z2⟩ := z
      simp only at *
      clear lx lmg l1 lpm lps la lm lk lz hown hbel hz
      have k0 : (0 : Int) ≤ (k : Int) := by omega
      have k1 : (k : Int) < (n : Int) := by omega
      go_wp2_with (first
        | (go_at_call 45; (with_reducible refine (MG.go _).mono ?_); rintro _ _ ⟨n1, rfl, rfl⟩)
        | (go_at_call 18; first | ((with_reducible refine (PS.go _).mono ?_); rintro _ _ ⟨n2, rfl, rfl⟩) | ((with_reducible refine (P1.go _).mono ?_); rintro _ _ ⟨n3, rfl, rfl⟩) | ((with_reducible refine (PM.go _).mono ?_); rintro _ _ ⟨n4, rfl, rfl⟩))
        | (go_at_call 30; (with_reducible refine (A1.go _).mono ?_); rintro _ _ ⟨n5, rfl, rfl⟩)
        | (go_at_call 27; (with_reducible refine (M1.go _).mono ?_); rintro _ _ ⟨n6, rfl, rfl⟩))
      have s0 : n6.val.cell? ⟨wr.heap.size, 0, none⟩ = some (.float .f64 x1) := by simp [go_sem]
      have s1 : n6.val.cell? ⟨wr.heap.size, 1, none⟩ = some (.float .f64 x2) := by simp [go_sem]
      have hbq : Below wr.heap.size wr n6.val := by (repeat' first | (with_reducible first | exact Below.refl _ _ | assumption | refine Later.belowOf _ ?_ ?_ | refine Below.alloc ?_ ?_ _ | refine Below.setCell ?_ ?_ _ | refine Below.drewN' _ ?_ | refine Below.drew ?_ | exact Ge.le) | go_size)
      have QV := fun g h => (OwnIv.lt HR.out.1 g h).2
      have hle := HR.out.2.size
      haveI gq : Ge n6.val (wr.heap.size + 1) := ⟨World.block_lt_of_cell? _ _ s0⟩
      have hown3 := OwnIv.below HR.out.1 hbq
      have hbel3 : Below w.heap.size w n6.val := HR.out.2.trans (hbq.mono hle)
      have HB3 := Lib.hid (show _ ∧ _ from ⟨hown3, hbel3⟩)
      have hle3 := hbel3.size
      haveI gq2 : Ge n6.val w.heap.size := ⟨hle3⟩
      clear hbel3 hown3 hbq c1 c2 PS P1 PM MG A1 M1
      first
        | (go_region_held3 (fun w' => w'.cell? ⟨wr.heap.size, 0, none⟩ = some (.float .f64 x1) ∧ w'.cell? ⟨wr.heap.size, 1, none⟩ = some (.float .f64 x2))
          (first | (go_simp; done) | go_keep | (go_split_ands; refine ⟨?_, ?_⟩ <;> exact far_cell hf4 QV (Nat.le_refl _) (by assumption)))
          (first
            | (go_at_call 18; (with_reducible refine (MK.go _).mono ?_); rintro _ _ ⟨nn, rfl, rfl⟩)
            | (go_at_call 30; (with_reducible refine (A2.go _).mono ?_); rintro _ _ ⟨nn, rfl, rfl⟩)
            | (refine step_append_iv (fr := (0, 0)) rfl (by rfl) (by rfl) (by rfl) (by (repeat' (first | (with_reducible refine at_drew ?_) | (with_reducible refine at_new ?_; (first | rfl | (simp; done))) | (with_reducible refine at_old ?_)))) (OwnIv.below HB3.out.1 (by (repeat' first | (with_reducible first | exact Below.refl _ _ | assumption | refine Later.belowOf _ ?_ ?_ | refine Below.alloc ?_ ?_ _ | refine Below.setCell ?_ ?_ _ | refine Below.drewN' _ ?_ | refine Below.drew ?_ | exact Ge.le) | go_size))) HZ.out.1 HZ.out.2 (by omega) (by first | omega | exact Ge.le | go_size) ?_; intro g4 cap4 w4 hown4 hb4 hf4)))
        | fail "region"
      go_wp2
      go_roundw
      case rel => exact ⟨k + 1, by go_num, h1, hown4, HB3.out.2.trans (Below.trans (by (repeat' first | (with_reducible first | exact Below.refl _ _ | assumption | refine Later.belowOf _ ?_ ?_ | refine Below.alloc ?_ ?_ _ | refine Below.setCell ?_ ?_ _ | refine Below.drewN' _ ?_ | refine Below.drew ?_ | exact Ge.le) | go_size)) hb4)⟩
      case measure => simp [intOf]; omega
    · obtain rfl : k = n := by omega
      go_wp2
      go_ret
      exact ⟨_, rfl, hown, hbel⟩
end Go.Proofs.YtpkgpkabmechkaaGreat
