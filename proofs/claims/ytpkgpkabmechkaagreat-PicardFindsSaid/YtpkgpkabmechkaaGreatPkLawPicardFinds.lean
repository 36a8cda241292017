/- PicardFinds: for every tape, slice of intervals and time the law returns true. -/
import Derived.Test.YtpkgpkabmechkaaGreatPkP8x
namespace Go.Proofs.YtpkgpkabmechkaaGreat
set_option linter.unusedSimpArgs false
set_option linter.unusedVariables false
open Go.ChangeShapes Go.WideShapes Go.ChangeAt Go.RowKit Go.Joins
open Fl

/-- The box that is told lies in the wide one: the law's last loop, as a fact of the law. -/
structure Facts (V : Int) (nO : Nat) (ops : Nat → OpT) (nN : Nat) (outs : Nat → Int) (x : Nat → Nat × Nat) (n time : Nat) : Prop where
  hT : TapeR V nO ops nN outs
  hV1 : 1 ≤ V
  hV2 : V ≤ 24
  hnN : (nN : Int) = V
  hn : (n : Int) = V
  hno : anyB x n (fun x => noneB x.1 x.2) = false
  h0 : fle 0 time = true
  h1 : fle time 4697254411347427328 = true
open Classical in
theorem may_facts {V : Int} {nO : Nat} {ops : Nat → OpT} {nN : Nat} {outs : Nat → Int} {x : Nat → Nat × Nat} {n time : Nat} (h : mayB V nO ops nN outs x n time = true) : Facts V nO ops nN outs x n time := by
  unfold mayB at h
  rw [Bool.and_eq_true, Bool.and_eq_true, Bool.and_eq_true, decide_eq_true_eq, decide_eq_true_eq] at h
  obtain ⟨⟨h1, h2, h3, h4⟩, ⟨h5, h6⟩, h7, h8⟩ := h
  exact ⟨h1, h2, h3, h4, h5, h6, h7, h8⟩
/-- Of no time: all that is asked is whether there are rates. -/
theorem holds_nought {V : Int} {nO : Nat} {ops : Nat → OpT} {nN : Nat} {outs : Nat → Int} {x : Nat → Nat × Nat} {n time : Nat} (F : Facts V nO ops nN outs x n time) (hbo : anyB x n (fun x => !boundB x) = false) (hz : feq time 0 = true) (lt : time < 18446744073709551616)
    (hl : ∀ i, i < nO → (ops i).lo < 18446744073709551616 ∧ (ops i).hi < 18446744073709551616) (hx : ∀ i, i < n → Lt (x i)) :
    holdsB V nO ops nN outs x x time n = decide (evalE V nO ops nN outs x n = 0) := by
  unfold holdsB reachB
  by_cases hE : evalE V nO ops nN outs x n = 0
  · rw [decide_eq_true hE, Bool.true_and]
    have hb : ∀ i, i < n → boundB (x i) = true := fun i hi => by simpa using any_false hbo i hi
    have ho := out_bound hE hl hx
    have hnn : n = nN := by have := F.hn; have := F.hnN; omega
    have hg := fun i hi => go_nought lt F.h0 F.h1 hz (hx i hi) (hb i hi) (ho i (hnn ▸ hi)).1 (ho i (hnn ▸ hi)).2
    rw [reachOk_iff.2 fun i hi => (hg i hi).1, inAll_iff.2 fun i hi => inside_me (hx i hi), inAll_iff (a := reachY ops outs x x time) |>.2 fun i hi => (hg i hi).2]
    rfl
  · rw [decide_eq_false hE]; rfl
/-- What bounds by the reference's word holds. -/
theorem holds_of_bd {V : Int} {nO : Nat} {ops : Nat → OpT} {nN : Nat} {outs : Nat → Int} {x b : Nat → Nat × Nat} {n time : Nat} (F : Facts V nO ops nN outs x n time) (lt : time < 18446744073709551616)
    (hl : ∀ i, i < nO → (ops i).lo < 18446744073709551616 ∧ (ops i).hi < 18446744073709551616) (hx : ∀ i, i < n → Lt (x i)) (hb : ∀ i, i < n → Lt (b i)) (h : bdB V nO ops nN outs x b time n = true) :
    holdsB V nO ops nN outs x b time n = true := by
  unfold bdB at h
  rw [Bool.and_eq_true, decide_eq_true_eq] at h
  obtain ⟨hE, hB⟩ := h
  have hB := boundsAll_iff.1 hB
  have hnn : n = nN := by have := F.hn; have := F.hnN; omega
  have ho := out_bound hE hl hb
  have hg : ∀ i, i < n → boundB (b i) = true ∧ insideB (x i).1 (x i).2 (b i).1 (b i).2 = true ∧ insideB (goP (x i) (outF ops outs b i) time).1 (goP (x i) (outF ops outs b i) time).2 (b i).1 (b i).2 = true := fun i hi => by
    have := hB i hi
    unfold boundsI at this
    rw [Bool.and_eq_true, Bool.and_eq_true] at this
    exact this
  unfold holdsB reachB
  rw [decide_eq_true hE, inAll_iff.2 fun i hi => (hg i hi).2.1, inAll_iff (a := reachY ops outs x b time) |>.2 fun i hi => (hg i hi).2.2, reachOk_iff.2 fun i hi => ?_]
  · rfl
  · have lf := (ho i (hnn ▸ hi)).1
    have L : Lt (goP (x i) (outF ops outs b i) time) := lt_add (hx i hi) (lt_mul (lt_make (by decide) lt) lf)
    exact wide_of_bound L (inside_bound L (hb i hi) (hg i hi).1 (hg i hi).2.2 (go_ends lt F.h0 F.h1 (hx i hi) (any_false F.hno i hi) lf (bound_none (ho i (hnn ▸ hi)).2)))
theorem shrunk_in {b ys : Nat → Nat × Nat} {n : Nat} (h : Shrunk b ys n) (hb : ∀ i, i < n → Lt (b i)) : ∀ i, i < n → insideB (ys i).1 (ys i).2 (b i).1 (b i).2 = true := fun i hi => by
  rcases h with h | h
  · rw [h]; exact inside_me (hb i hi)
  · exact inAll_iff.1 h i hi

set_option maxHeartbeats 16000000 in
set_option maxRecDepth 100000 in
theorem picardFinds_walk (V : Int) (vO vN : Value) (ops : Nat → OpT) (nO : Nat) (outs : Nat → Int) (nN : Nat) (vx : Value) (x : Nat → Nat × Nat) (n : Nat) (time : Nat) (ht : time < 18446744073709551616) (w : World) (hO : OpsAt w vO ops nO) (hN : OutsAt w vN outs nN) (hx : IvsAt w vx x n) :
    Calls Tryz.prog 7 #[.agg #[.int .i64 V, vO, vN], vx, (.float .f64 time)] w fun e w' => e = .returned (.bool true) ∧ Below w.heap.size w w' := by
  have b0 : Below w.heap.size w (w.alloc (Obj.cells #[.int .i64 V, vO, vN] 45)) := (Below.refl _ _).alloc (Nat.le_refl _) _
  have MC := may_c (V := V) (time := time) (hO.below b0) (hN.below b0) (hx.below b0)
  have LB := fun (W : World) (hW : Below w.heap.size w W) => lbounded_c (hx.below hW)
  have HA := Lib.hid (show _ ∧ _ ∧ _ from ⟨hO, hN, hx⟩)
  have hlen : ∀ i, i < nO → (ops i).lo < 18446744073709551616 ∧ (ops i).hi < 18446744073709551616 := fun i hi => by
    obtain ⟨A, c, e, h⟩ := hO
    obtain ⟨b, o, e2, l1, l2, _⟩ := h i hi
    exact ⟨l1, l2⟩
  have HL := Lib.hid hlen
  have hlt : ∀ i, i < n → Lt (x i) := fun i hi => hx.lt hi
  have HLT := Lib.hid hlt
  obtain ⟨AO, cO, rfl, hO⟩ := hO
  clear hO hN hx hlen hlt
  generalize hM : mayB V nO ops nN outs x n time = M at *
  generalize hB : anyB x n (fun x => !boundB x) = B at *
  have HM := Lib.hid (show _ ∧ _ from ⟨hM, hB⟩)
  clear hM hB
  by_cases hlong : (nO : Int) ≤ 200
  · cases M
    · clear LB
      go_enter Tryz.func7, Tryz.ntmps7
      go_wp2_with (go_at_call 40; (with_reducible refine MC.mono ?_); rintro _ _ ⟨n1, rfl, rfl⟩)
      go_ret
      exact ⟨rfl, by (repeat' first | (with_reducible first | exact Below.refl _ _ | assumption | refine Later.belowOf _ ?_ ?_ | refine Below.alloc ?_ ?_ _ | refine Below.setCell ?_ ?_ _ | refine Below.drewN' _ ?_ | refine Below.drew ?_ | exact Ge.le) | go_size)⟩
    · cases B
      · have F := may_facts HM.out.1
        have hbo := HM.out.2
        have hn1 : n ≤ 1000 := by have := F.hn; have := F.hV2; omega
        have hn0 : 0 < n := by have := F.hn; have := F.hV1; omega
        have hpb : anyB x n (fun x => !pbB x) = false := any_of fun i hi => by
          have := bound_pb (HLT.out i hi) (by simpa using any_false hbo i hi)
          simp [this]
        have hnn : nN = n := by have := F.hn; have := F.hnN; omega
        subst hnn
        have BC := fun (W : World) (hW : Below w.heap.size w W) => bound_c (V := V) (time := time) (w := W) (⟨HA.out.1.below hW, HA.out.2.1.below hW, HA.out.2.2.below hW, Nat.le_refl _, hn1, ht⟩ : Ask W V _ vN vx ops outs nO nN nN x time) F.hT F.hV1 F.hV2 F.hnN F.hn F.h0 F.h1 F.hno hpb
        have HF := Lib.hid (show _ ∧ _ from ⟨F, hbo⟩)
        clear F hpb hbo
        rcases fot (feq time 0) with hz | hz
        · -- a time
          have WC := fun (W : World) (hW : Below w.heap.size w W) => refWide_c (HA.out.2.2.below hW) hn1
          have DC := fun (W : World) (hW : Below w.heap.size w W) (vb : Value) (hb : IvsAt W vb (widerF x 4589168020290535424) nN) => bounds_c (V := V) (HA.out.1.below hW) (HA.out.2.1.below hW) (HA.out.2.2.below hW) hb ht
          have hH : bdB V nO ops nN outs x (widerF x 4589168020290535424) time nN = true → (∀ i, i < nN → Lt (widerF x 4589168020290535424 i)) → holdsB V nO ops nN outs x (widerF x 4589168020290535424) time nN = true := fun h hb => holds_of_bd HF.out.1 ht HL.out HLT.out hb h
          rw [hz] at BC
          have HH := Lib.hid hH
          clear hH
          generalize bdB V nO ops nN outs x (widerF x 4589168020290535424) time nN = D at *
          go_enter Tryz.func7, Tryz.ntmps7
          go_upto_region 3 with (first
            | (go_at_call 40; (with_reducible refine MC.mono ?_); rintro _ _ ⟨n1, rfl, rfl⟩)
            | (go_at_call 41; refine (LB _ (by (repeat' first | (with_reducible first | exact Below.refl _ _ | assumption | refine Later.belowOf _ ?_ ?_ | refine Below.alloc ?_ ?_ _ | refine Below.setCell ?_ ?_ _ | refine Below.drewN' _ ?_ | refine Below.drew ?_ | exact Ge.le) | go_size))).mono ?_; rintro _ _ ⟨n2, rfl, rfl⟩))
          have bw2 : Below w.heap.size w n2.val := by (repeat' first | (with_reducible first | exact Below.refl _ _ | assumption | refine Later.belowOf _ ?_ ?_ | refine Below.alloc ?_ ?_ _ | refine Below.setCell ?_ ?_ _ | refine Below.drewN' _ ?_ | refine Below.drew ?_ | exact Ge.le) | go_size)
          have B3 := BC n2.val bw2
          have HW2 := Lib.hid bw2
          clear BC MC LB bw2
          go_upto_region 7 with (go_at_call 38; (with_reducible refine B3.mono ?_); rintro _ w3 ⟨v3, E3, rfl, hb3, hq1, hq2, hq3, hz3⟩)
          replace hz3 := hz3 (by first | trivial | rfl)
          obtain ⟨n3, rfl⟩ : ∃ n3 : Later n2.val, w3 = n3.val := ⟨⟨w3, hb3⟩, rfl⟩
          have bw3 : Below w.heap.size w n3.val := HW2.out.trans (n3.below.mono HW2.out.size)
          have W4 := WC n3.val bw3
          have HZ3 := Lib.hid (show _ ∧ _ from ⟨hz3, bw3⟩)
          clear hq1 hq2 hq3 hz3 bw3 hb3 WC B3
          go_upto_region 8 with (go_at_call 43; (with_reducible refine W4.mono ?_); rintro _ w4 ⟨u4, rfl, hu4, hb4⟩)
          replace hu4 := hu4.ivs
          obtain ⟨n4, rfl⟩ : ∃ n4 : Later n3.val, w4 = n4.val := ⟨⟨w4, hb4⟩, rfl⟩
          have bw4 : Below w.heap.size w n4.val := HZ3.out.2.trans (n4.below.mono HZ3.out.2.size)
          have D5 := DC n4.val bw4 u4 hu4
          have HU := Lib.hid (show _ ∧ _ from ⟨hu4, bw4⟩)
          clear DC W4 hu4 bw4 hb4
          cases D
          · go_wp2_with (go_at_call 42; (with_reducible refine D5.mono ?_); rintro _ _ ⟨n5, rfl, rfl⟩)
            go_ret
            exact ⟨rfl, by have := HU.out.2; exact this.trans (n5.below.mono this.size)⟩
          · obtain ⟨rfl, ys, hy, hsh⟩ := HZ3.out.1 (HH.out rfl fun i hi => HU.out.1.lt hi)
            have hin := shrunk_in hsh.1 (fun i hi => HU.out.1.lt hi)
            have hy5 := hy.below n4.below
            have HY := Lib.hid (show _ ∧ _ from ⟨hin, hy5⟩)
            clear hin hy5 hsh hy
            obtain ⟨A1, c1, rfl, hy1, hy2⟩ := HY.out.2
            obtain ⟨A2, c2, rfl, hu1, hu2⟩ := HU.out.1
            have HY2 := Lib.hid (show _ ∧ _ from ⟨hy2, hu2⟩)
            clear hy2 hu2
            go_wp2_with (go_at_call 42; (with_reducible refine D5.mono ?_); rintro _ _ ⟨n5, rfl, rfl⟩)
            have bw5 : Below w.heap.size w n5.val := HU.out.2.trans (n5.below.mono HU.out.2.size)
            have HB5 := Lib.hid bw5
            clear D5 bw5
            go_loopw [77] (fun i wr => InsInv n5.val nN i wr) (fun i _ => nN - (intOf i).toNat)
            case atStart => exact ⟨0, rfl, Nat.zero_le _, Below.refl _ _⟩
            case round =>
              obtain ⟨k, rfl, hk, hbel⟩ := hrel
              by_cases h1 : k < nN
              · obtain ⟨b1, o1, e1, ly, y0, y1⟩ := HY2.out.1 k h1
                obtain ⟨b2, o2, e2, lu, u0, u1⟩ := HY2.out.2 k h1
                subst e1 e2
                have y0 := cellBelow hbel (cellBelow n5.below y0)
                have y1 := cellBelow hbel (cellBelow n5.below y1)
                have u0 := cellBelow hbel (cellBelow n5.below u0)
                have u1 := cellBelow hbel (cellBelow n5.below u1)
                haveI g1 : Ge wr (b1 + 1) := ⟨World.block_lt_of_cell? wr _ y0⟩
                haveI g2 : Ge wr (b2 + 1) := ⟨World.block_lt_of_cell? wr _ u0⟩
                have I1 := inside_any (ys k).1 (ys k).2 (widerF x 4589168020290535424 k).1 (widerF x 4589168020290535424 k).2
                rw [HY.out.1 k h1] at I1
                generalize ys k = yk at *
                generalize widerF x 4589168020290535424 k = wk at *
                obtain ⟨ya, yb⟩ := yk
                obtain ⟨wa, wb⟩ := wk
                simp only at y0 y1 u0 u1 I1
                have HB := Lib.hid hbel
                clear ly lu hbel
                have k0 : (0 : Int) ≤ (k : Int) := by omega
                have k1 : (k : Int) < (nN : Int) := by omega
                go_wp2_with (fail)
                refine wp_region_later (by kernel_rfl) (by kernel_rfl) ?_
                repeat (go_big_quiet_step (first | (go_at_call 44; (with_reducible exact I1.later _))))
                (refine wpQuiet_nil ?_; rintro _ ⟨nq, rfl⟩)
                go_wp2
                go_roundw
                case rel => exact ⟨k + 1, by go_num, h1, HB.out.trans (nq.below.mono HB.out.size)⟩
                case measure => simp [intOf]; omega
              · obtain rfl : k = nN := by omega
                go_wp2
                go_ret
                exact ⟨rfl, HB5.out.trans (hbel.mono HB5.out.size)⟩
        · -- of no time
          have EC := fun (W : World) (hW : Below w.heap.size w W) => eval_c (V := V) (HA.out.1.below hW) (HA.out.2.1.below hW) (HA.out.2.2.below hW)
          have hH := holds_nought HF.out.1 HF.out.2 hz ht HL.out HLT.out
          rw [hz] at BC
          go_enter Tryz.func7, Tryz.ntmps7
          go_upto_region 3 with (first
            | (go_at_call 40; (with_reducible refine MC.mono ?_); rintro _ _ ⟨n1, rfl, rfl⟩)
            | (go_at_call 41; refine (LB _ (by (repeat' first | (with_reducible first | exact Below.refl _ _ | assumption | refine Later.belowOf _ ?_ ?_ | refine Below.alloc ?_ ?_ _ | refine Below.setCell ?_ ?_ _ | refine Below.drewN' _ ?_ | refine Below.drew ?_ | exact Ge.le) | go_size))).mono ?_; rintro _ _ ⟨n2, rfl, rfl⟩))
          have bw2 : Below w.heap.size w n2.val := by (repeat' first | (with_reducible first | exact Below.refl _ _ | assumption | refine Later.belowOf _ ?_ ?_ | refine Below.alloc ?_ ?_ _ | refine Below.setCell ?_ ?_ _ | refine Below.drewN' _ ?_ | refine Below.drew ?_ | exact Ge.le) | go_size)
          have B3 := BC n2.val bw2
          have HW2 := Lib.hid bw2
          clear BC MC LB bw2
          go_upto_region 5 with (go_at_call 38; (with_reducible refine B3.mono ?_); rintro _ w3 ⟨v3, E3, rfl, hb3, hq1, hq2, hz3, hq3⟩)
          replace hz3 := hz3 (by first | trivial | rfl)
          obtain ⟨n3, rfl⟩ : ∃ n3 : Later n2.val, w3 = n3.val := ⟨⟨w3, hb3⟩, rfl⟩
          have bw3 : Below w.heap.size w n3.val := HW2.out.trans (n3.below.mono HW2.out.size)
          have E4 := EC n3.val bw3
          have SM := fun (W : World) (hW : Below n3.val.heap.size n3.val W) (h : IvsAt n3.val v3 x nN) => same4_c (h.below hW) (HA.out.2.2.below (bw3.trans (hW.mono bw3.size)))
          have HW3 := Lib.hid bw3
          clear hq1 hq2 hq3 hb3 bw3 EC B3
          simp only [hH] at hz3
          generalize evalE V nO ops nN outs x nN = E at *
          clear hH
          by_cases hE : E = 0
          · subst hE
            obtain ⟨rfl, hi⟩ := hz3.1 (by simp)
            go_wp2_with (first
              | (go_at_call 33; refine E4.mono ?_; rintro _ w4 ⟨va, rfl, ha1, ha2, hb4⟩; clear ha1 ha2; have SM2 := SM w4 hb4 hi)
              | (go_at_call 35; refine SM2.mono ?_; rintro _ _ ⟨n5, rfl, rfl⟩))
            go_ret
            have b4 : Below w.heap.size w w4 := HW3.out.trans (hb4.mono HW3.out.size)
            exact ⟨rfl, b4.trans (n5.below.mono b4.size)⟩
          · have hE3 := hz3.2 (by simpa using hE)
            subst hE3
            have hd : (E == 0) = false := by simpa using hE
            go_wp2_with (go_at_call 33; refine E4.mono ?_; rintro _ w4 ⟨va, rfl, ha1, ha2, hb4⟩; clear ha1 ha2)
            go_ret
            exact ⟨by simp [hd], HW3.out.trans (hb4.mono HW3.out.size)⟩
      · go_enter Tryz.func7, Tryz.ntmps7
        go_wp2_with (first
          | (go_at_call 40; (with_reducible refine MC.mono ?_); rintro _ _ ⟨n1, rfl, rfl⟩)
          | (go_at_call 41; refine (LB _ (by (repeat' first | (with_reducible first | exact Below.refl _ _ | assumption | refine Later.belowOf _ ?_ ?_ | refine Below.alloc ?_ ?_ _ | refine Below.setCell ?_ ?_ _ | refine Below.drewN' _ ?_ | refine Below.drew ?_ | exact Ge.le) | go_size))).mono ?_; rintro _ _ ⟨n2, rfl, rfl⟩))
        go_ret
        exact ⟨rfl, by (repeat' first | (with_reducible first | exact Below.refl _ _ | assumption | refine Later.belowOf _ ?_ ?_ | refine Below.alloc ?_ ?_ _ | refine Below.setCell ?_ ?_ _ | refine Below.drewN' _ ?_ | refine Below.drew ?_ | exact Ge.le) | go_size)⟩
  · clear MC LB
    go_enter Tryz.func7, Tryz.ntmps7
    go_wp2
    go_ret
    exact ⟨rfl, by (repeat' first | (with_reducible first | exact Below.refl _ _ | assumption | refine Later.belowOf _ ?_ ?_ | refine Below.alloc ?_ ?_ _ | refine Below.setCell ?_ ?_ _ | refine Below.drewN' _ ?_ | refine Below.drew ?_ | exact Ge.le) | go_size)⟩

theorem picardFinds_go (V : Int) (vO vN : Value) (ops : Nat → OpT) (nO : Nat) (outs : Nat → Int) (nN : Nat) (A : Option Addr) (n c : Nat) (xs : Nat → Nat × Nat) (time : Nat) {w0 : World} (hO : OpsAt w0 vO ops nO) (hN : OutsAt w0 vN outs nN) (hx : IvsAt w0 (.slice A n c) xs n) (ht : time < 18446744073709551616) (w : World) (e : w = w0 := by rfl) :
    Calls Tryz.prog 7 #[.agg #[.int .i64 V, vO, vN], .slice A n c, (.float .f64 time)] w fun e w' => e = .returned (.bool true) ∧ Below w.heap.size w w' := by
  subst e
  exact picardFinds_walk V vO vN ops nO outs nN _ xs n time ht w hO hN hx

set_option maxRecDepth 100000 in
theorem picardFinds_lifted (os : Os) (started : os.Started) (H : Type) (enc : TypeId × Value → H) :
    ReturnsInHanded {} Tryz.checked os 7 .any (Rows.picardFindsSpec.pre6 enc Tryz.prog Tryz.f7 Rows.picardFindsRow.domain false) (Rows.picardFindsSpec.post enc Tryz.prog Tryz.f7 false true false false) := by
  refine returnsInHanded_of_change (C := Tryz.checked) Tryz.own started (by kernel_rfl) Tryz.func7
    (ChangeSpec.witness6 (enc := enc) (C := Tryz.checked) false ⟨#[], #[(.agg #[.int .i64 0, .slice none 0 0, .slice none 0 0]), (.slice none 0 0), (.float .f64 0)], []⟩ 8 (by kernel_rfl) (by kernel_rfl) (by kernel_rfl) (by kernel_rfl)) ?_
  intro W base args ds gs before hval0 hW hcnd _
  have hval : ∀ (j : Nat) t v, Tryz.f7.params[j]? = some t → args[j]? = some v → Value.okWide Tryz.prog W .any base t v := hval0
  have hW' := hW
  obtain ⟨p, q, hA0, hV, rfl, hfz, hnd⟩ := hW
  have hA : DataW.TrodAll enc Tryz.prog W 0 (fun _ => true) true Tryz.f7.params.toList args.toList ds p := hA0
  rw [Tryz.params7] at hA hval
  obtain ⟨v0, v1, v2, d0, d1, d2, p0, p1, p2, rfl, rfl, rfl, h0, h1, h2⟩ := trodAll_three hA
  obtain ⟨rfl, rfl⟩ := trodVars_none hV
  obtain ⟨x0_0, x0_1, x0_2, x0_3, x0_4, x0_5, x0_6, rfl, k0_0, k0_1⟩ := arg_tape (hval 0 45 v0 rfl rfl) h0
  obtain ⟨x1_0, x1_1, x1_2, x1_3, rfl, k1_0⟩ := arg_ivs (hval 1 46 v1 rfl rfl) h1
  obtain ⟨x2_0, rfl, k2_0⟩ := arg_float (hval 2 22 v2 rfl rfl) h2
  refine (picardFinds_go x0_0 x0_1 x0_2 x0_3 x0_4 x0_5 x0_6 x1_0 x1_1 x1_2 x1_3 x2_0 k0_0 k0_1 k1_0 k2_0 W).mono fun e W' ⟨he, hb⟩ => ?_
  subst he
  exact ⟨_, rfl, law_post rfl hW' (by kernel_rfl) (by kernel_rfl) rfl hb⟩

theorem picardFinds_holds : Rows.PicardFindsSaid :=
  OpenClaim.holds_of_wide 7 Tryz.f7 rfl rfl rfl rfl rfl rfl rfl ⟨rfl, rfl, rfl, rfl, rfl⟩ rfl rfl rfl rfl rfl (by kernel_rfl) Tryz.func7 (by kernel_rfl)
    (of_decide_eq_true (by kernel_rfl)) (by unfold Func.isWrapper; rw [if_neg (of_decide_eq_false (by kernel_rfl))]; exact ⟨rfl, rfl⟩)
    (fun os started H enc _ => picardFinds_lifted os started H enc)
end Go.Proofs.YtpkgpkabmechkaaGreat
