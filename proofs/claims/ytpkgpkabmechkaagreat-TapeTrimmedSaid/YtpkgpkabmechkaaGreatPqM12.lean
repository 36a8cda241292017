/- Contracts: two tapes that read alike are alike. -/
import Derived.Test.YtpkgpkabmechkaaGreatPqM8x
namespace Go.Proofs.YtpkgpkabmechkaaGreat
set_option linter.unusedSimpArgs false
set_option linter.unusedVariables false
open Go.RowKit
open Fl

def LkInv (W : World) (n : Nat) (i : Value) (wr : World) : Prop := ∃ k : Nat, i = .int .i64 k ∧ k ≤ n ∧ Below W.heap.size W wr

set_option maxHeartbeats 8000000 in
set_option maxRecDepth 100000 in
theorem like_c {V : Int} {vO vN vO' vN' : Value} {ops : Nat → OpT} {outs : Nat → Int} {nO nN : Nat} {w : World} (hO : OpsAt w vO ops nO) (hN : OutsAt w vN outs nN) (hO' : OpsAt w vO' ops nO) (hN' : OutsAt w vN' outs nN) (h1 : nO ≤ 4000) (h2 : nN ≤ 4000) :
    Calls Tryz.prog 51 #[.agg #[.int .i64 V, vO, vN], .agg #[.int .i64 V, vO', vN']] w fun e w' => e = .returned (.bool true) ∧ Below w.heap.size w w' := by
  obtain ⟨AO, cO, rfl, hO1⟩ := hO
  obtain ⟨AN, cN, rfl, hN1⟩ := hN
  obtain ⟨AO', cO', rfl, hO2⟩ := hO'
  obtain ⟨AN', cN', rfl, hN2⟩ := hN'
  have HO1 := Lib.hid hO1
  have HO2 := Lib.hid hO2
  have HN1 := Lib.hid hN1
  have HN2 := Lib.hid hN2
  clear hO1 hO2 hN1 hN2
  have h3 : (nO : Int) ≤ 4000 := by omega
  have h4 : (nN : Int) ≤ 4000 := by omega
  obtain ⟨W0, hW0⟩ : ∃ W0, (w.alloc (Obj.cells #[.int .i64 V, .slice AO nO cO, .slice AN nN cN] 45)).alloc (Obj.cells #[.int .i64 V, .slice AO' nO cO', .slice AN' nN cN'] 45) = W0 := ⟨_, rfl⟩
  have b0 : Below w.heap.size w W0 := by rw [← hW0]; exact ((Below.refl _ _).alloc (Nat.le_refl _) _).alloc (by simp) _
  have g0 : W0.cell? ⟨w.heap.size, 0, none⟩ = some (.int .i64 V) := by rw [← hW0]; simp [go_sem]
  have g1 : W0.cell? ⟨w.heap.size, 1, none⟩ = some (.slice AO nO cO) := by rw [← hW0]; simp [go_sem]
  have g2 : W0.cell? ⟨w.heap.size, 2, none⟩ = some (.slice AN nN cN) := by rw [← hW0]; simp [go_sem]
  have k0 : W0.cell? ⟨w.heap.size + 1, 0, none⟩ = some (.int .i64 V) := by rw [← hW0]; simp [go_sem]
  have k1 : W0.cell? ⟨w.heap.size + 1, 1, none⟩ = some (.slice AO' nO cO') := by rw [← hW0]; simp [go_sem]
  have k2 : W0.cell? ⟨w.heap.size + 1, 2, none⟩ = some (.slice AN' nN cN') := by rw [← hW0]; simp [go_sem]
  have HG := Lib.hid (show _ ∧ _ from ⟨g2, k2⟩)
  have hs0 : w.heap.size + 2 ≤ W0.heap.size := by rw [← hW0]; simp
  go_enter Tryz.func51, Tryz.ntmps51
  go_upto_region 1 with (fail)
  clear hW0
  go_wp2
  go_loopw [35] (fun i wr => LkInv W0 nO i wr) (fun i _ => nO - (intOf i).toNat)
  case atStart => exact ⟨0, rfl, Nat.zero_le _, Below.refl _ _⟩
  case round =>
    obtain ⟨k, rfl, hk, hbel⟩ := hrel
    have hsz := hbel.size
    have g1 := cellBelow hbel g1
    have g2 := cellBelow hbel g2
    have k1 := cellBelow hbel k1
    have k2 := cellBelow hbel k2
    haveI ge1 : Ge wr (w.heap.size + 1) := ⟨by omega⟩
    haveI ge2 : Ge wr (w.heap.size + 1 + 1) := ⟨by omega⟩
    by_cases hkn : k < nO
    · obtain ⟨b, o, eA, l1, l2, c0, c1, c2, c3, c4, c5⟩ := HO1.out k hkn
      obtain ⟨b', o', eA', _, _, d0, d1, d2, d3, d4, d5⟩ := HO2.out k hkn
      subst eA eA'
      have bw := b0.trans (hbel.mono b0.size)
      have lb : b < w.heap.size := World.block_lt_of_cell? _ _ c0
      have lb' : b' < w.heap.size := World.block_lt_of_cell? _ _ d0
      have c0 := cellBelow bw c0
      have c1 := cellBelow bw c1
      have c2 := cellBelow bw c2
      have c3 := cellBelow bw c3
      have c4 := cellBelow bw c4
      have c5 := cellBelow bw c5
      have d0 := cellBelow bw d0
      have d1 := cellBelow bw d1
      have d2 := cellBelow bw d2
      have d3 := cellBelow bw d3
      have d4 := cellBelow bw d4
      have d5 := cellBelow bw d5
      haveI ge3 : Ge wr (b' + 1) := ⟨by have := bw.size; omega⟩
      have S := same2_refl (ops k).lo (ops k).hi
      generalize (ops k).K = xK at *
      generalize (ops k).A = xA at *
      generalize (ops k).B = xB at *
      generalize (ops k).N = xN at *
      generalize (ops k).lo = xlo at *
      generalize (ops k).hi = xhi at *
      clear bw l1 l2
      go_wp2_with (go_at_call 21; refine (S.go _).mono ?_; rintro _ _ ⟨n, rfl, rfl⟩)
      go_roundw
      case rel => exact ⟨k + 1, by go_num, hkn, Below.trans hbel (Below.mono (by (repeat' first | (with_reducible first | exact Below.refl _ _ | assumption | refine Later.belowOf _ ?_ ?_ | refine Below.alloc ?_ ?_ _ | refine Below.setCell ?_ ?_ _ | refine Below.drewN' _ ?_ | refine Below.drew ?_ | exact Ge.le) | go_size)) hbel.size)⟩
      case measure => simp [intOf]; omega
    · obtain rfl : k = nO := by omega
      have HB := Lib.hid hbel
      go_wp2
      go_loopw [83] (fun i wr => LkInv W0 nN i wr) (fun i _ => nN - (intOf i).toNat)
      case atStart => exact ⟨0, rfl, Nat.zero_le _, HB.out⟩
      case round =>
        obtain ⟨k, rfl, hk, hbel⟩ := hrel
        have hsz := hbel.size
        have g2 := cellBelow hbel HG.out.1
        have k2 := cellBelow hbel HG.out.2
        haveI ge1 : Ge wr (w.heap.size + 1) := ⟨by omega⟩
        haveI ge2 : Ge wr (w.heap.size + 1 + 1) := ⟨by omega⟩
        by_cases hkn : k < nN
        · obtain ⟨b, o, eA, c0⟩ := HN1.out k hkn
          obtain ⟨b', o', eA', d0⟩ := HN2.out k hkn
          subst eA eA'
          have bw := b0.trans (hbel.mono b0.size)
          have c0 := cellBelow bw c0
          have d0 := cellBelow bw d0
          haveI ge3 : Ge wr (b + 1) := ⟨World.block_lt_of_cell? _ _ c0⟩
          haveI ge4 : Ge wr (b' + 1) := ⟨World.block_lt_of_cell? _ _ d0⟩
          clear bw
          generalize outs k = x at *
          go_wp2_with (fail)
          refine wp_region_later (by kernel_rfl) (by kernel_rfl) ?_
          repeat (go_big_quiet_step (fail))
          (refine wpQuiet_nil ?_; rintro _ ⟨nq, rfl⟩)
          go_wp2
          go_roundw
          case rel => exact ⟨k + 1, by go_num, hkn, by first | exact hbel | exact Below.trans hbel (Below.mono (by (repeat' first | (with_reducible first | exact Below.refl _ _ | assumption | refine Later.belowOf _ ?_ ?_ | refine Below.alloc ?_ ?_ _ | refine Below.setCell ?_ ?_ _ | refine Below.drewN' _ ?_ | refine Below.drew ?_ | exact Ge.le) | go_size)) hbel.size)⟩
          case measure => simp [intOf]; omega
        · obtain rfl : k = nN := by omega
          go_wp2
          go_ret
          exact ⟨rfl, b0.trans (hbel.mono b0.size)⟩
end Go.Proofs.YtpkgpkabmechkaaGreat
