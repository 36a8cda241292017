/- Contracts: quotients of 128 bits by 64. -/
import Derived.Test.YtkmgfbhnioojhaaGreatPmW11
import Derived.Test.YtkmgfbhnioojhaaGreatPmFlC
import Derived.Deep.CutBlock
namespace Go.Proofs.YtkmgfbhnioojhaaGreat
set_option linter.unusedSimpArgs false
set_option linter.unusedVariables false
open Go.RowKit
open Fl

theorem gives_lz64 (x : Int) (h0 : 0 ≤ x) (hx : x ≤ 18446744073709551615) : Gives 257 #[.int .u64 x] (.int .i64 (64 - blen x.toNat)) := by
  intro w
  rw [← blen_eq (by omega)]
  exact (Tryz.bits_LeadingZeros64 x w h0 hx).mono fun _ _ ⟨h, hw⟩ => ⟨h, hw ▸ Below.refl _ _⟩

theorem blen_top {y : Int} (hy : 9223372036854775808 ≤ y) (hy1 : y ≤ 18446744073709551615) : (blen y.toNat : Int) = 64 := by
  have h1 := blen_le (n := y.toNat) (k := 64) (by omega)
  have h2 := blen_lt y.toNat
  have : ¬ blen y.toNat ≤ 63 := by
    intro h
    have := Nat.pow_le_pow_right (show 0 < 2 by decide) h
    omega
  omega

theorem and_32 {x : Int} (h : 0 ≤ x) (h2 : x ≤ 18446744073709551615) : bits BinOp.and IntKind.u64 x 4294967295 = x % 4294967296 := by
  have := u64_and x 4294967295 h (by omega) (by omega) (by omega)
  rw [this, show (4294967295 : Int).toNat = 2 ^ 32 - 1 from rfl, Nat.and_two_pow_sub_one_eq_mod]
  omega

theorem or_zero {x : Int} (h : 0 ≤ x) (h2 : x ≤ 18446744073709551615) : bits BinOp.or IntKind.u64 x 0 = x := by
  have := u64_or x 0 h (by omega) (by omega) (by omega)
  rw [this, show (0 : Int).toNat = 0 from rfl, Nat.or_zero]
  omega

theorem rem_wrap {u d q y rem : Int} (h : u * 4294967296 + d = q * y + rem) (h0 : 0 ≤ rem) (h1 : rem ≤ 18446744073709551615) : 
    IntKind.u64.wrap (IntKind.u64.wrap (IntKind.u64.wrap (u * 4294967296) + d) - IntKind.u64.wrap (q * y)) = rem := by
  simp only [wrap64u]
  generalize q * y = a at *
  omega

set_option maxHeartbeats 8000000 in
set_option maxRecDepth 100000 in
theorem div64_any (hi lo y : Int) (h0 : 1 ≤ hi) (h1 : hi < y) (hl0 : 0 ≤ lo) (hl1 : lo ≤ 18446744073709551615) (hy : 9223372036854775808 ≤ y) (hy1 : y ≤ 18446744073709551615) :
    ∃ q r : Int, Gives 258 #[.int .u64 hi, .int .u64 lo, .int .u64 y] (.tuple #[.int .u64 q, .int .u64 r]) ∧ hi * 18446744073709551616 + lo = q * y + r ∧ 0 ≤ r ∧ r < y ∧ 0 ≤ q ∧ q ≤ 18446744073709551615 := by
  have z1 := gives_lz64 y (by omega) hy1
  rw [blen_top hy hy1] at z1
  have f1 := and_32 (x := y) (by omega) hy1
  have f2 := and_32 (x := lo) hl0 hl1
  have f3 := or_zero (x := hi) (by omega) (by omega)
  have f4 : lo / 18446744073709551616 = 0 := by omega
  obtain ⟨y1, g1⟩ : ∃ y1, y / 4294967296 = y1 := ⟨_, rfl⟩
  obtain ⟨y0, g0⟩ : ∃ y0, y % 4294967296 = y0 := ⟨_, rfl⟩
  obtain ⟨l1, k1⟩ : ∃ l1, lo / 4294967296 = l1 := ⟨_, rfl⟩
  obtain ⟨l0, k0⟩ : ∃ l0, lo % 4294967296 = l0 := ⟨_, rfl⟩
  rw [g0] at f1
  rw [k0] at f2
  have by1 : 2147483648 ≤ y1 := by omega
  have by1' : y1 ≤ 4294967295 := by omega
  have by0 : 0 ≤ y0 := by omega
  have by0' : y0 ≤ 4294967295 := by omega
  have bl1 : 0 ≤ l1 := by omega
  have bl1' : l1 ≤ 4294967295 := by omega
  have bl0 : 0 ≤ l0 := by omega
  have bl0' : l0 ≤ 4294967295 := by omega
  have ey : y = y1 * 4294967296 + y0 := by omega
  have el : lo = l1 * 4294967296 + l0 := by omega
  obtain ⟨q0, p0, r0, m0, m1, q, rem, D1, D2, D3, D4, D5, D6, D7, D8, D9, D10, D11, D12, D13, D14, D15, D16, D17, D18, D19, D20, D21⟩ := digit ey (show 0 ≤ hi by omega) h1 by1 by1' by0 by0' bl1 bl1'
  obtain ⟨q0', p0', r0', m0', m1', q', rem', E1, E2, E3, E4, E5, E6, E7, E8, E9, E10, E11, E12, E13, E14, E15, E16, E17, E18, E19, E20, E21⟩ := digit ey D13 D14 by1 by1' by0 by0' bl0 bl0'
  have w1 := rem_wrap D12 D13 (by omega)
  have w2 := rem_wrap E12 E13 (by omega)
  refine ⟨q * 4294967296 + q', rem', ?_, ?_, E13, E14, by omega, by omega⟩
  rotate_left
  · rw [el, show hi * 18446744073709551616 + (l1 * 4294967296 + l0) = (hi * 4294967296 + l1) * 4294967296 + l0 by omega, D12, Int.add_mul]
    have e3 : (q * 4294967296 + q') * y = q * y * 4294967296 + q' * y := by
      rw [Int.add_mul, Int.mul_assoc, Int.mul_comm 4294967296 y, ← Int.mul_assoc]
    omega
  intro w
  have H21 := Lib.hid D21
  have H21' := Lib.hid E21
  have H12 := Lib.hid E12
  have hE1 := Lib.hid E1
  have hE2 := Lib.hid E2
  have hE3 := Lib.hid E3
  have hE4 := Lib.hid E4
  have hE5 := Lib.hid E5
  have hw1 := Lib.hid w1
  have hw2 := Lib.hid w2
  clear D21 E21 D12 E12 ey el E1 E2 E3 E4 E5 w1 w2 g0 k0
  go_enter Tryz.func258, Tryz.ntmps258
  go_upto_block 0 with (go_at_call 257; refine (z1.go _).mono ?_; rintro _ _ ⟨k, rfl, rfl⟩)
  go_cut [15] (fun v wc => v = .int .u64 q ∧ wc = k.val)
  case first =>
    go_wp2_with (fail)
    rcases H21.out with ⟨c1, c2, rfl⟩ | ⟨c1, c2, rfl⟩ | ⟨c1, c2, c3, c4, rfl⟩ | ⟨c1, c2, c3, c4, rfl⟩
    · clear H21
      have n1 := D18 (by omega)
      clear D18 D19 D20 D5
      refine wp_loop_rounds 2 ?_
      rw [rounds_succ]
      go_wp2
      go_meet
      case rel => exact ⟨rfl, rfl⟩
    · clear H21
      rcases c1 with c1 | ⟨c1, c5, c6⟩
      · clear D18 D19 D20 D5
        refine wp_loop_rounds 2 ?_
        rw [rounds_succ]
        go_wp2
        go_meet
        case rel => exact ⟨rfl, rfl⟩
      · have n1 := D18 (by omega)
        clear D18 D19 D20 D5
        refine wp_loop_rounds 2 ?_
        rw [rounds_succ]
        go_wp2
        go_meet
        case rel => exact ⟨rfl, rfl⟩
    · clear H21
      rcases c1 with c1 | ⟨c1, c5, c6⟩
      · have n2 := D19 (by omega)
        have n3 := D20 (by omega)
        clear D18 D19 D20
        refine wp_loop_rounds 2 ?_
        rw [rounds_succ]
        go_wp2
        rw [rounds_succ]
        go_wp2
        go_meet
        case rel => exact ⟨rfl, rfl⟩
      · have n1 := D18 (by omega)
        have n2 := D19 (by omega)
        have n3 := D20 (by omega)
        clear D18 D19 D20
        refine wp_loop_rounds 2 ?_
        rw [rounds_succ]
        go_wp2
        rw [rounds_succ]
        go_wp2
        go_meet
        case rel => exact ⟨rfl, rfl⟩
    · clear H21
      rcases c1 with c1 | ⟨c1, c5, c6⟩
      · rcases c3 with c3 | ⟨c3, c7, c8⟩
        · clear D18 D19 D20
          refine wp_loop_rounds 2 ?_
          rw [rounds_succ]
          go_wp2
          rw [rounds_succ]
          go_wp2
          go_meet
          case rel => exact ⟨rfl, rfl⟩
        · have n2 := D19 (by omega)
          have n3 := D20 (by omega)
          clear D18 D19 D20
          refine wp_loop_rounds 2 ?_
          rw [rounds_succ]
          go_wp2
          rw [rounds_succ]
          go_wp2
          go_meet
          case rel => exact ⟨rfl, rfl⟩
      · rcases c3 with c3 | ⟨c3, c7, c8⟩
        · exfalso; omega
        · have n1 := D18 (by omega)
          have n2 := D19 (by omega)
          have n3 := D20 (by omega)
          clear D18 D19 D20
          refine wp_loop_rounds 2 ?_
          rw [rounds_succ]
          go_wp2
          rw [rounds_succ]
          go_wp2
          go_meet
          case rel => exact ⟨rfl, rfl⟩
  case rest =>
    obtain ⟨rfl, rfl⟩ := hcut
    clear D1 D2 D3 D4 D5 D18 D19 D20 H21
    have e0 := hw1.out
    have e1 := hE1.out
    have e2 := hE2.out
    have e3 := hE3.out
    go_upto_block 2 with (fail)
    clear e0 e1 e2 e3
    go_cut [18] (fun v wc => v = .int .u64 q' ∧ wc = k.val)
    case first =>
      go_wp2_with (fail)
      rcases H21'.out with ⟨c1, c2, rfl⟩ | ⟨c1, c2, rfl⟩ | ⟨c1, c2, c3, c4, rfl⟩ | ⟨c1, c2, c3, c4, rfl⟩
      · clear H21'
        have n1 := E18 (by omega)
        have k4 := hE4.out
        clear E18 E19 E20
        refine wp_loop_rounds 2 ?_
        rw [rounds_succ]
        go_wp2
        go_meet
        case rel => exact ⟨rfl, rfl⟩
      · clear H21'
        rcases c1 with c1 | ⟨c1, c5, c6⟩
        · have k4 := hE4.out
          clear E18 E19 E20
          refine wp_loop_rounds 2 ?_
          rw [rounds_succ]
          go_wp2
          go_meet
          case rel => exact ⟨rfl, rfl⟩
        · have n1 := E18 (by omega)
          have k4 := hE4.out
          clear E18 E19 E20
          refine wp_loop_rounds 2 ?_
          rw [rounds_succ]
          go_wp2
          go_meet
          case rel => exact ⟨rfl, rfl⟩
      · clear H21'
        rcases c1 with c1 | ⟨c1, c5, c6⟩
        · have n2 := E19 (by omega)
          have n3 := E20 (by omega)
          have k4 := hE4.out
          have k5 := hE5.out
          clear E18 E19 E20
          refine wp_loop_rounds 2 ?_
          rw [rounds_succ]
          go_wp2
          rw [rounds_succ]
          go_wp2
          go_meet
          case rel => exact ⟨rfl, rfl⟩
        · have n1 := E18 (by omega)
          have n2 := E19 (by omega)
          have n3 := E20 (by omega)
          have k4 := hE4.out
          have k5 := hE5.out
          clear E18 E19 E20
          refine wp_loop_rounds 2 ?_
          rw [rounds_succ]
          go_wp2
          rw [rounds_succ]
          go_wp2
          go_meet
          case rel => exact ⟨rfl, rfl⟩
      · clear H21'
        rcases c1 with c1 | ⟨c1, c5, c6⟩
        · rcases c3 with c3 | ⟨c3, c7, c8⟩
          · have k4 := hE4.out
            have k5 := hE5.out
            clear E18 E19 E20
            refine wp_loop_rounds 2 ?_
            rw [rounds_succ]
            go_wp2
            rw [rounds_succ]
            go_wp2
            go_meet
            case rel => exact ⟨rfl, rfl⟩
          · have n2 := E19 (by omega)
            have n3 := E20 (by omega)
            have k4 := hE4.out
            have k5 := hE5.out
            clear E18 E19 E20
            refine wp_loop_rounds 2 ?_
            rw [rounds_succ]
            go_wp2
            rw [rounds_succ]
            go_wp2
            go_meet
            case rel => exact ⟨rfl, rfl⟩
        · rcases c3 with c3 | ⟨c3, c7, c8⟩
          · exfalso; omega
          · have n1 := E18 (by omega)
            have n2 := E19 (by omega)
            have n3 := E20 (by omega)
            have k4 := hE4.out
            have k5 := hE5.out
            clear E18 E19 E20
            refine wp_loop_rounds 2 ?_
            rw [rounds_succ]
            go_wp2
            rw [rounds_succ]
            go_wp2
            go_meet
            case rel => exact ⟨rfl, rfl⟩
    case rest =>
      obtain ⟨rfl, rfl⟩ := hcut
      clear E18 E19 E20
      have e0 := hw2.out
      go_wp2
      go_returns
      exact ⟨rfl, by (repeat' first | (with_reducible first | exact Below.refl _ _ | assumption | refine Later.belowOf _ ?_ ?_ | refine Below.alloc ?_ ?_ _ | refine Below.setCell ?_ ?_ _ | refine Below.drewN' _ ?_ | refine Below.drew ?_ | exact Ge.le) | go_size)⟩
end Go.Proofs.YtkmgfbhnioojhaaGreat
