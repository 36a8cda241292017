/- Contracts: the reference's operations: rounded parts; what is finite. -/
import Derived.Test.YtkmgfbhnioojhaaGreatPmW30
import Derived.Test.YtkmgfbhnioojhaaGreatPmW15
import Derived.Test.YtkmgfbhnioojhaaGreatPmFlC
namespace Go.Proofs.YtkmgfbhnioojhaaGreat
set_option linter.unusedSimpArgs false
set_option linter.unusedVariables false
open Go.RowKit
open Fl

@[go_sem] theorem build_ex (sa sb : Bool) (A B : Option Addr) (ak ac bk bc : Nat) (ea eb : Int) (w : World) : (Instr.build 211 #[(0, (.agg #[.bool sa, (.slice A ak ac), .int .i64 ea])), (1, (.agg #[.bool sb, (.slice B bk bc), .int .i64 eb]))]).run Tryz.prog w = .ok (.agg #[.bool sa, (.slice A ak ac), .int .i64 ea, .bool sb, (.slice B bk bc), .int .i64 eb, .bool false]) w := run_build w 211 _ _ (by kernel_rfl)
@[go_sem] theorem build_ex_root (sa : Bool) (A : Option Addr) (ak ac : Nat) (ea : Int) (w : World) : (Instr.build 211 #[(0, (.agg #[.bool sa, (.slice A ak ac), .int .i64 ea])), (2, .bool true)]).run Tryz.prog w = .ok (.agg #[.bool sa, (.slice A ak ac), .int .i64 ea, .bool false, (.slice none 0 0), .int .i64 0, .bool true]) w := run_build w 211 _ _ (by kernel_rfl)

/-- A number's amount, by 1. -/
theorem whole_amount (K : Int) (s : Bool) (m : Nat) (e : Int) : qS (nv (1075 + K) s m e) (nv K false 1 0) = nv (1075 + K) s m e := by
  unfold qS
  rw [if_neg]
  unfold nv
  simp only [Bool.false_eq_true, if_false]
  omega

set_option maxHeartbeats 4000000 in
set_option maxRecDepth 100000 in
theorem bwhole_any (s : Bool) (m : Nat) (e L dir : Int) (A : Option Addr) (ak ac : Nat) (w : World) (ha : BigS w (.slice A ak ac) m) (lm : m < bp 2000) (e0 : -20000 ≤ e) (e1 : e ≤ 20000) (hL : 0 ≤ L) (hL2 : 0 ≤ e + (1075 + L)) :
    Calls Tryz.prog 189 #[(.agg #[.bool s, (.slice A ak ac), .int .i64 e]), .int .i64 dir] w (FloatRes (rnd (nv (1075 + L) s m e) (2 * pw L.toNat) dir) w) := by
  have b1 : 1 < bp 100 := by
    have : bp 1 ≤ bp 100 := bp_le (by decide)
    rw [bp_succ, bp_zero] at this
    omega
  have orc := fun (w1 : World) (hb : Below w.heap.size w w1) (B : Option Addr) (bk bc : Nat) (hB : BigS w1 (.slice B bk bc) 1) =>
    rounded_any _ _ dir _ _ _ _ _ _ _ _ _ _ _ w1 (oracleQ s false m 1 e 0 L A B ak ac bk bc w1 (ha.at hb) hB lm b1 (by decide) e0 e1 (by decide) (by decide) hL (by omega) hL2)
  have hD : 2 * (nv L false 1 0).natAbs = 2 * pw L.toNat := by
    unfold nv
    simp
  rw [whole_amount, hD] at orc
  have HA := Lib.hid ha
  have OR := Lib.hid (fun (w1 : World) (hb : Below w.heap.size w w1) (B : Option Addr) (bk bc : Nat) (hB : BigS w1 (.slice B bk bc) 1) => FloatRes.go (orc w1 hb B bk bc hB))
  have I1 := Lib.hid (fun w => NumRes.go (int1_any w))
  clear orc ha lm
  generalize rnd (nv (1075 + L) s m e) (2 * pw L.toNat) dir = x at *
  go_enter Tryz.func189, Tryz.ntmps189
  go_wp2_with (fail)
  go_region_held3 (fun w' => w'.cell? ⟨w.heap.size, 0, none⟩ = some (.bool s) ∧ w'.cell? ⟨w.heap.size, 1, none⟩ = some (.slice A ak ac) ∧ w'.cell? ⟨w.heap.size, 2, none⟩ = some (.int .i64 e))
    (first | (go_simp; done) | go_keep)
    ((first | (go_at_call 66; refine (I1.out _).mono ?_; rintro _ _ ⟨A2, k2, c2, q2, hq3, rfl, rfl⟩; have hq3' := hq3.out) | (go_at_call 255; refine (OR.out _ (by (repeat' first | (with_reducible first | exact Below.refl _ _ | assumption | refine Later.belowOf _ ?_ ?_ | refine Below.alloc ?_ ?_ _ | refine Below.setCell ?_ ?_ _ | refine Below.drewN' _ ?_ | refine Below.drew ?_ | exact Ge.le) | go_size)) _ _ _ (Big.stays (by (repeat (first | (with_reducible assumption) | (with_reducible refine Big.drew ?_) | (with_reducible refine Big.drewN ?_ _) | (with_reducible refine Big.alloc ?_ _) | (with_reducible refine Big.later ?_ _) | (with_reducible refine Big.setCell ?_ _ (by go_simp))))))).mono ?_; rintro _ _ ⟨q4, rfl, rfl⟩)))
  all_goals
    rename_i hHeld
    clear hHeld
    go_wp2
    go_ret
    exact ⟨rfl, by (repeat' first | (with_reducible first | exact Below.refl _ _ | assumption | refine Later.belowOf _ ?_ ?_ | refine Below.alloc ?_ ?_ _ | refine Below.setCell ?_ ?_ _ | refine Below.drewN' _ ?_ | refine Below.drew ?_ | exact Ge.le) | go_size)⟩

end Go.Proofs.YtkmgfbhnioojhaaGreat
