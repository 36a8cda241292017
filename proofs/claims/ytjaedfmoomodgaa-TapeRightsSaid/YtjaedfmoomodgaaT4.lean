/- Contracts: whether a tape may be, as the program says. -/
import Derived.Test.YtjaedfmoomodgaaT3
namespace Go.Proofs.Ytjaedfmoomodgaa
set_option linter.unusedSimpArgs false
set_option linter.unusedVariables false
open Go.RowKit
open Fl

/-- A tape that may be. -/
def opR (o : OpT) (i vars : Int) : Prop := OpR o.K o.A o.B o.N o.lo o.hi i vars
def TapeR (V : Int) (nO : Nat) (ops : Nat → OpT) (nN : Nat) (outs : Nat → Int) : Prop :=
  0 ≤ V ∧ V ≤ 64 ∧ nO ≤ 4000 ∧ nN ≤ 400 ∧ (∀ i, i < nO → opR (ops i) i V) ∧ (∀ j, j < nN → badO nO (outs j) = false)

def TopInv (W : World) (ops : Nat → OpT) (n : Nat) (V : Int) (i : Value) (w : World) : Prop :=
  ∃ k : Nat, i = .int .i64 k ∧ k ≤ n ∧ (∀ j, j < k → opR (ops j) j V) ∧ Below W.heap.size W w

theorem Later.after {W wr : World} {o : Obj} (h : Below W.heap.size W wr) (n : Later (wr.alloc o)) : Below W.heap.size W n.val :=
  n.belowOf (h.alloc h.size _) (Nat.le_trans h.size (by simp))

open Classical in
set_option maxHeartbeats 4000000 in
theorem tright_any (V : Int) (vO vN : Value) (ops : Nat → OpT) (outs : Nat → Int) (nO nN : Nat) (w : World) (hO : OpsAt w vO ops nO) (hN : OutsAt w vN outs nN) :
    Calls Try.prog 5 #[.agg #[.int .i64 V, vO, vN]] w fun e w' => e = .returned (.int .i64 (if TapeR V nO ops nN outs then 0 else 50)) ∧ Below w.heap.size w w' := by
  have hO0 := hO
  have hN0 := hN
  obtain ⟨A, c, rfl, hO⟩ := hO
  obtain ⟨A2, c2, rfl, hN⟩ := hN
  have hmf : ∀ (fn : Fn) (first cap : Array Value) (w : World), (Instr.makeFunc fn first cap).run Try.prog w = .ok (.func fn first cap) w := fun _ _ _ _ => rfl
  have cV : V < 0 ∨ (0 ≤ V ∧ 64 < V) ∨ (0 ≤ V ∧ V ≤ 64 ∧ 4000 < nO) ∨ (0 ≤ V ∧ V ≤ 64 ∧ nO ≤ 4000 ∧ 400 < nN) ∨ (0 ≤ V ∧ V ≤ 64 ∧ nO ≤ 4000 ∧ nN ≤ 400) := by omega
  rcases cV with h1 | ⟨h1, h2⟩ | ⟨h1, h2, h3⟩ | ⟨h1, h2, h3, h4⟩ | ⟨h1, h2, h3, h4⟩
  case inr.inr.inr.inr =>
    have HO := Lib.hid hO
    have HN := Lib.hid hN
    have HN0 := Lib.hid hN0
    clear hO hN hO0 hN0
    obtain ⟨R, hR⟩ : ∃ R : Int, R = if TapeR V nO ops nN outs then 0 else 50 := ⟨_, rfl⟩
    rw [← hR]
    have HR := Lib.hid hR
    clear hR
    go_enter Try.func5, Try.ntmps5
    go_wp2
    go_loopw [28] (fun i wr => TopInv (w.alloc (Obj.cells #[.int .i64 V, .slice A nO c, .slice A2 nN c2] 25)) ops nO V i wr) (fun i _ => nO - (intOf i).toNat)
    case atStart => exact ⟨0, rfl, Nat.zero_le _, fun j hj => by omega, Below.refl _ _⟩
    case round =>
      obtain ⟨k, rfl, hk, hE, hbel⟩ := hrel
      have HE := Lib.hid hE
      clear hE
      have b0 : Below w.heap.size w (w.alloc (Obj.cells #[.int .i64 V, .slice A nO c, .slice A2 nN c2] 25)) := (Below.refl _ _).alloc (Nat.le_refl _) _
      have b1 := b0.trans (hbel.mono b0.size)
      have g0 : wr.cell? ⟨w.heap.size, 0, none⟩ = some (.int .i64 V) := cellBelow hbel (by simp [go_sem])
      have g1 : wr.cell? ⟨w.heap.size, 1, none⟩ = some (.slice A nO c) := cellBelow hbel (by simp [go_sem])
      have g2 : wr.cell? ⟨w.heap.size, 2, none⟩ = some (.slice A2 nN c2) := cellBelow hbel (by simp [go_sem])
      have hk2 : (k : Int) ≤ 4000 := by omega
      haveI hge : Ge wr (w.heap.size + 1) := ⟨by have := hbel.size; simpa using this⟩
      by_cases q1 : k < nO
      · obtain ⟨b, o, eA, l1, l2, d0, d1, d2, d3, d4, d5⟩ := HO.out k q1
        subst eA
        have d0 := cellBelow b1 d0
        have d1 := cellBelow b1 d1
        have d2 := cellBelow b1 d2
        have d3 := cellBelow b1 d3
        have d4 := cellBelow b1 d4
        have d5 := cellBelow b1 d5
        have r := opright_any (ops k).K (ops k).A (ops k).B (ops k).N (ops k).lo (ops k).hi k V
        have er : OpR (ops k).K (ops k).A (ops k).B (ops k).N (ops k).lo (ops k).hi k V = opR (ops k) k V := rfl
        rw [er] at r
        clear er l1 l2
        generalize (ops k).K = xK at *
        generalize (ops k).A = xA at *
        generalize (ops k).B = xB at *
        generalize (ops k).N = xN at *
        generalize (ops k).lo = xlo at *
        generalize (ops k).hi = xhi at *
        by_cases q2 : opR (ops k) k V
        · rw [decide_eq_true q2] at r
          have Q2 := Lib.hid q2
          clear q2
          go_wp2_with (go_at_call 10; refine (r.go _).mono ?_; rintro _ _ ⟨n, rfl, rfl⟩)
          go_roundw
          case rel => exact ⟨k + 1, by go_num, q1, fun j hj => by rcases Nat.lt_succ_iff_lt_or_eq.1 hj with h | h; exact HE.out j h; rw [h]; exact Q2.out, Later.after hbel n⟩
          case measure => simp [intOf]; omega
        · rw [decide_eq_false q2] at r
          have E := Lib.hid (show (50 : Int) = R from by rw [HR.out, if_neg (fun hh => q2 (hh.2.2.2.2.1 k q1))])
          clear q2
          go_wp2_with (go_at_call 10; refine (r.go _).mono ?_; rintro _ _ ⟨n, rfl, rfl⟩)
          go_ret
          exact ⟨ret_int E.out, b0.trans ((Later.after hbel n).mono b0.size)⟩
      · have ct := contains_any (.slice A2 nN c2) outs nN w.heap.size A nO c wr (by omega) (HN0.out.below b1) g1
        by_cases q2 : ∃ j, j < nN ∧ badO nO (outs j) = true
        · rw [decide_eq_true q2] at ct
          have E := Lib.hid (show (50 : Int) = R from by rw [HR.out, if_neg (fun hh => by obtain ⟨j, hj, hb⟩ := q2; rw [hh.2.2.2.2.2 j hj] at hb; cases hb)])
          clear q2
          go_wp2_with (go_at_call 11; refine ct.mono ?_; rintro _ w1 ⟨rfl, hb1⟩)
          go_ret
          exact ⟨ret_int E.out, b1.trans (hb1.mono b1.size)⟩
        · rw [decide_eq_false q2] at ct
          have E := Lib.hid (show (0 : Int) = R from by rw [HR.out, if_pos ⟨h1, h2, h3, h4, fun i hi => HE.out i (by omega), fun j hj => by cases hb : badO nO (outs j); rfl; exact absurd ⟨j, hj, hb⟩ q2⟩])
          clear q2
          go_wp2_with (go_at_call 11; refine ct.mono ?_; rintro _ w1 ⟨rfl, hb1⟩)
          go_ret
          exact ⟨ret_int E.out, b1.trans (hb1.mono b1.size)⟩
  all_goals
    rw [if_neg (fun hh => by have a1 := hh.1; have a2 := hh.2.1; have a3 := hh.2.2.1; have a4 := hh.2.2.2.1; omega)]
    clear hO hN hO0 hN0
    go_enter Try.func5, Try.ntmps5
    go_wp2
    go_ret
    exact ⟨rfl, by (repeat' (first | (with_reducible exact Below.refl _ _) | (with_reducible assumption) | (with_reducible refine Later.belowOf _ ?_ ?_) | (with_reducible refine Below.alloc ?_ ?_ _) | (with_reducible refine Below.setCell ?_ ?_ _) | (with_reducible refine Below.drewN' _ ?_) | (with_reducible refine Below.drew ?_) | (with_reducible exact Ge.le) | go_size))⟩
end Go.Proofs.Ytjaedfmoomodgaa
