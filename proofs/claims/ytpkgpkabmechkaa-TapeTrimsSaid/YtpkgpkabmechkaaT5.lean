/- Contracts: whether a tape may be, as the reference says. -/
import Derived.Test.YtpkgpkabmechkaaT2
namespace Go.Proofs.Ytpkgpkabmechkaa
set_option linter.unusedSimpArgs false
set_option linter.unusedVariables false
open Go.RowKit
open Fl

def OutInv (W : World) (outs : Nat → Int) (n nO : Nat) (i : Value) (w : World) : Prop :=
  ∃ k : Nat, i = .int .i64 k ∧ k ≤ n ∧ (∀ j, j < k → badO nO (outs j) = false) ∧ Below W.heap.size W w

open Classical in
set_option maxHeartbeats 8000000 in
set_option maxRecDepth 100000 in
theorem rright_any (V : Int) (vO vN : Value) (ops : Nat → OpT) (outs : Nat → Int) (nO nN : Nat) (w : World) (hO : OpsAt w vO ops nO) (hN : OutsAt w vN outs nN) :
    Calls Try.prog 5 #[.agg #[.int .i64 V, vO, vN]] w fun e w' => e = .returned (.bool (decide (TapeR V nO ops nN outs))) ∧ Below w.heap.size w w' := by
  obtain ⟨A, c, rfl, hO⟩ := hO
  obtain ⟨A2, c2, rfl, hN⟩ := hN
  have cV : V < 0 ∨ (0 ≤ V ∧ 64 < V) ∨ (0 ≤ V ∧ V ≤ 64 ∧ 4000 < nO) ∨ (0 ≤ V ∧ V ≤ 64 ∧ nO ≤ 4000 ∧ 400 < nN) ∨ (0 ≤ V ∧ V ≤ 64 ∧ nO ≤ 4000 ∧ nN ≤ 400) := by omega
  rcases cV with h1 | ⟨h1, h2⟩ | ⟨h1, h2, h3⟩ | ⟨h1, h2, h3, h4⟩ | ⟨h1, h2, h3, h4⟩
  case inr.inr.inr.inr =>
    have HO := Lib.hid hO
    have HN := Lib.hid hN
    clear hO hN
    obtain ⟨R, hR⟩ : ∃ R : Bool, R = decide (TapeR V nO ops nN outs) := ⟨_, rfl⟩
    rw [← hR]
    have HR := Lib.hid hR
    clear hR
    go_enter Try.func5, Try.ntmps5
    go_wp2
    go_loopw [31] (fun i wr => TopInv (w.alloc (Obj.cells #[.int .i64 V, .slice A nO c, .slice A2 nN c2] 25)) ops nO V i wr) (fun i _ => nO - (intOf i).toNat)
    case atStart => exact ⟨0, rfl, Nat.zero_le _, fun j hj => by omega, Below.refl _ _⟩
    case round =>
      obtain ⟨k, rfl, hk, hE, hbel⟩ := hrel
      have HE := Lib.hid hE
      clear hE
      have b0 : Below w.heap.size w (w.alloc (Obj.cells #[.int .i64 V, .slice A nO c, .slice A2 nN c2] 25)) := (Below.refl _ _).alloc (Nat.le_refl _) _
      have b1 := b0.trans (hbel.mono b0.size)
      have g0 : wr.cell? ⟨w.heap.size, 0, none⟩ = some (.int .i64 V) := cellBelow hbel (by simp [go_sem])
      have g1 : wr.cell? ⟨w.heap.size, 1, none⟩ = some (.slice A nO c) := cellBelow hbel (by simp [go_sem])
      have g2 : wr.cell? ⟨w.heap.size, 2, none⟩ = some (.slice A2 nN c2) := cellBelow hbel (by simp [go_sem])
      have hk2 : (k : Int) ≤ 4000 := by omega
      haveI hge : Ge wr (w.heap.size + 1) := ⟨by have := hbel.size; simpa using this⟩
      by_cases q1 : k < nO
      · obtain ⟨b, o, eA, l1, l2, d0, d1, d2, d3, d4, d5⟩ := HO.out k q1
        subst eA
        have d0 := cellBelow b1 d0
        have d1 := cellBelow b1 d1
        have d2 := cellBelow b1 d2
        have d3 := cellBelow b1 d3
        have d4 := cellBelow b1 d4
        have d5 := cellBelow b1 d5
        have er : OpR (ops k).K (ops k).A (ops k).B (ops k).N (ops k).lo (ops k).hi k V = opR (ops k) k V := rfl
        have hn := args_any (ops k).K
        have nn := none_ref_any (ops k).lo (ops k).hi l1 l2
        clear l1 l2
        generalize (ops k).K = xK at *
        generalize (ops k).A = xA at *
        generalize (ops k).B = xB at *
        generalize (ops k).N = xN at *
        generalize (ops k).lo = xlo at *
        generalize (ops k).hi = xhi at *
        by_cases q2 : opR (ops k) k V
        · have Q2 := Lib.hid q2
          rw [← er] at q2
          clear er
          rcases op_kinds xK with h | h | h | h | h | h
          · subst h
            have q2 := (OpR_1 ..).1 q2
            rw [show needI 1 = 0 by decide] at hn
            rw [q2] at nn
            clear q2
            go_wp2_with (first | (go_at_call 12; refine (hn.go _).mono ?_; rintro _ _ ⟨na, rfl, rfl⟩) | (go_at_call 13; refine (nn.go _).mono ?_; rintro _ _ ⟨n, rfl, rfl⟩))
            go_roundw
            case rel => exact ⟨k + 1, by go_num, q1, fun j hj => by rcases Nat.lt_succ_iff_lt_or_eq.1 hj with h | h; exact HE.out j h; rw [h]; exact Q2.out, n.belowOf (Later.after hbel na) (Later.after hbel na).size⟩
            case measure => simp [intOf]; omega
          · subst h
            obtain ⟨c1, c2⟩ := (OpR_2 ..).1 q2
            rw [show needI 2 = 0 by decide] at hn
            clear q2 nn
            go_wp2_with (first | (go_at_call 12; refine (hn.go _).mono ?_; rintro _ _ ⟨n, rfl, rfl⟩) | (go_at_call 13; refine (nn.go _).mono ?_; rintro _ _ ⟨n, rfl, rfl⟩))
            go_roundw
            case rel => exact ⟨k + 1, by go_num, q1, fun j hj => by rcases Nat.lt_succ_iff_lt_or_eq.1 hj with h | h; exact HE.out j h; rw [h]; exact Q2.out, Later.after hbel n⟩
            case measure => simp [intOf]; omega
          · subst h
            obtain ⟨c1, c2, c3, c4⟩ := (OpR_8 ..).1 q2
            rw [show needI 8 = 1 by decide] at hn
            clear q2 nn
            go_wp2_with (first | (go_at_call 12; refine (hn.go _).mono ?_; rintro _ _ ⟨n, rfl, rfl⟩) | (go_at_call 13; refine (nn.go _).mono ?_; rintro _ _ ⟨n, rfl, rfl⟩))
            go_roundw
            case rel => exact ⟨k + 1, by go_num, q1, fun j hj => by rcases Nat.lt_succ_iff_lt_or_eq.1 hj with h | h; exact HE.out j h; rw [h]; exact Q2.out, Later.after hbel n⟩
            case measure => simp [intOf]; omega
          · obtain ⟨c1, c2, c3, c4⟩ := (OpR_two h ..).1 q2
            have e1 : (xK == 1) = false := by simp; omega
            have e2 : (xK == 2) = false := by simp; omega
            have e8 : (xK == 8) = false := by simp; omega
            rw [show needI xK = 2 by unfold needI; rw [if_neg (by omega), if_pos h]] at hn
            have H := Lib.hid h
            clear q2 nn h
            go_wp2_with (first | (go_at_call 12; refine (hn.go _).mono ?_; rintro _ _ ⟨n, rfl, rfl⟩) | (go_at_call 13; refine (nn.go _).mono ?_; rintro _ _ ⟨n, rfl, rfl⟩))
            go_roundw
            case rel => exact ⟨k + 1, by go_num, q1, fun j hj => by rcases Nat.lt_succ_iff_lt_or_eq.1 hj with h | h; exact HE.out j h; rw [h]; exact Q2.out, Later.after hbel n⟩
            case measure => simp [intOf]; omega
          · obtain ⟨c1, c2⟩ := (OpR_one h ..).1 q2
            have e1 : (xK == 1) = false := by simp; omega
            have e2 : (xK == 2) = false := by simp; omega
            have e8 : (xK == 8) = false := by simp; omega
            rw [show needI xK = 1 by unfold needI; rw [if_neg (by omega), if_neg (by omega), if_pos (by omega)]] at hn
            have H := Lib.hid h
            clear q2 nn h
            go_wp2_with (first | (go_at_call 12; refine (hn.go _).mono ?_; rintro _ _ ⟨n, rfl, rfl⟩) | (go_at_call 13; refine (nn.go _).mono ?_; rintro _ _ ⟨n, rfl, rfl⟩))
            go_roundw
            case rel => exact ⟨k + 1, by go_num, q1, fun j hj => by rcases Nat.lt_succ_iff_lt_or_eq.1 hj with h | h; exact HE.out j h; rw [h]; exact Q2.out, Later.after hbel n⟩
            case measure => simp [intOf]; omega
          · exact absurd ((OpR_no h ..).1 q2) id
        · have E := Lib.hid (show false = R from by rw [HR.out, decide_eq_false (fun hh => q2 (hh.2.2.2.2.1 k q1))])
          rw [← er] at q2
          clear er
          rcases op_kinds xK with h | h | h | h | h | h
          · subst h
            have q2 : noneB xlo xhi = true := by cases hx : noneB xlo xhi; exact absurd ((OpR_1 ..).2 hx) q2; rfl
            rw [show needI 1 = 0 by decide] at hn
            rw [q2] at nn
            clear q2
            go_wp2_with (first | (go_at_call 12; refine (hn.go _).mono ?_; rintro _ _ ⟨na, rfl, rfl⟩) | (go_at_call 13; refine (nn.go _).mono ?_; rintro _ _ ⟨n, rfl, rfl⟩))
            go_ret
            exact ⟨ret_bool E.out, b0.trans ((n.belowOf (Later.after hbel na) (Later.after hbel na).size).mono b0.size)⟩
          · subst h
            have cc : xN < 0 ∨ (0 ≤ xN ∧ V ≤ xN) := by have nq : ¬ (0 ≤ xN ∧ xN < V) := fun hh => q2 ((OpR_2 ..).2 hh); omega
            rw [show needI 2 = 0 by decide] at hn
            clear q2 nn
            rcases cc with c1 | ⟨c1, c2⟩
            all_goals
              go_wp2_with (first | (go_at_call 12; refine (hn.go _).mono ?_; rintro _ _ ⟨n, rfl, rfl⟩) | (go_at_call 13; refine (nn.go _).mono ?_; rintro _ _ ⟨n, rfl, rfl⟩))
              go_ret
              exact ⟨ret_bool E.out, b0.trans ((Later.after hbel n).mono b0.size)⟩
          · subst h
            have cc : xA < 0 ∨ (0 ≤ xA ∧ (k : Int) ≤ xA) ∨ (0 ≤ xA ∧ xA < k ∧ xN < -64) ∨ (0 ≤ xA ∧ xA < k ∧ -64 ≤ xN ∧ 64 < xN) := by have nq : ¬ (0 ≤ xA ∧ xA < (k : Int) ∧ -64 ≤ xN ∧ xN ≤ 64) := fun hh => q2 ((OpR_8 ..).2 hh); omega
            rw [show needI 8 = 1 by decide] at hn
            clear q2 nn
            rcases cc with c1 | ⟨c1, c2⟩ | ⟨c1, c2, c3⟩ | ⟨c1, c2, c3, c4⟩
            all_goals
              go_wp2_with (first | (go_at_call 12; refine (hn.go _).mono ?_; rintro _ _ ⟨n, rfl, rfl⟩) | (go_at_call 13; refine (nn.go _).mono ?_; rintro _ _ ⟨n, rfl, rfl⟩))
              go_ret
              exact ⟨ret_bool E.out, b0.trans ((Later.after hbel n).mono b0.size)⟩
          · have cc : xA < 0 ∨ (0 ≤ xA ∧ (k : Int) ≤ xA) ∨ (0 ≤ xA ∧ xA < k ∧ xB < 0) ∨ (0 ≤ xA ∧ xA < k ∧ 0 ≤ xB ∧ (k : Int) ≤ xB) := by have nq : ¬ (0 ≤ xA ∧ xA < (k : Int) ∧ 0 ≤ xB ∧ xB < (k : Int)) := fun hh => q2 ((OpR_two h ..).2 hh); omega
            have e1 : (xK == 1) = false := by simp; omega
            have e2 : (xK == 2) = false := by simp; omega
            have e8 : (xK == 8) = false := by simp; omega
            rw [show needI xK = 2 by unfold needI; rw [if_neg (by omega), if_pos h]] at hn
            have H := Lib.hid h
            clear q2 nn h
            rcases cc with c1 | ⟨c1, c2⟩ | ⟨c1, c2, c3⟩ | ⟨c1, c2, c3, c4⟩
            all_goals
              go_wp2_with (first | (go_at_call 12; refine (hn.go _).mono ?_; rintro _ _ ⟨n, rfl, rfl⟩) | (go_at_call 13; refine (nn.go _).mono ?_; rintro _ _ ⟨n, rfl, rfl⟩))
              go_ret
              exact ⟨ret_bool E.out, b0.trans ((Later.after hbel n).mono b0.size)⟩
          · have cc : xA < 0 ∨ (0 ≤ xA ∧ (k : Int) ≤ xA) := by have nq : ¬ (0 ≤ xA ∧ xA < (k : Int)) := fun hh => q2 ((OpR_one h ..).2 hh); omega
            have e1 : (xK == 1) = false := by simp; omega
            have e2 : (xK == 2) = false := by simp; omega
            have e8 : (xK == 8) = false := by simp; omega
            rw [show needI xK = 1 by unfold needI; rw [if_neg (by omega), if_neg (by omega), if_pos (by omega)]] at hn
            have H := Lib.hid h
            clear q2 nn h
            rcases cc with c1 | ⟨c1, c2⟩
            all_goals
              go_wp2_with (first | (go_at_call 12; refine (hn.go _).mono ?_; rintro _ _ ⟨n, rfl, rfl⟩) | (go_at_call 13; refine (nn.go _).mono ?_; rintro _ _ ⟨n, rfl, rfl⟩))
              go_ret
              exact ⟨ret_bool E.out, b0.trans ((Later.after hbel n).mono b0.size)⟩
          · skip
            have e1 : (xK == 1) = false := by simp; omega
            have e2 : (xK == 2) = false := by simp; omega
            have e8 : (xK == 8) = false := by simp; omega
            rw [show needI xK = -1 by unfold needI; rw [if_neg (by omega), if_neg (by omega), if_neg (by omega)]] at hn
            have H := Lib.hid h
            clear q2 nn h
            go_wp2_with (first | (go_at_call 12; refine (hn.go _).mono ?_; rintro _ _ ⟨n, rfl, rfl⟩) | (go_at_call 13; refine (nn.go _).mono ?_; rintro _ _ ⟨n, rfl, rfl⟩))
            go_ret
            exact ⟨ret_bool E.out, b0.trans ((Later.after hbel n).mono b0.size)⟩
      · have HK := Lib.hid (show k = nO by omega)
        go_wp2
        go_loopw [115] (fun i w2 => OutInv wr outs nN nO i w2) (fun i _ => nN - (intOf i).toNat)
        case atStart => exact ⟨0, rfl, Nat.zero_le _, fun j hj => by omega, Below.refl _ _⟩
        case round =>
          obtain ⟨j, rfl, hj, hF, hbel2⟩ := hrel
          have HF := Lib.hid hF
          clear hF
          have hj2 : (j : Int) ≤ 400 := by omega
          have b2 := b1.trans (hbel2.mono b1.size)
          have f1 := cellBelow hbel2 g1
          by_cases q2 : j < nN
          · obtain ⟨b', o', eA2, dd⟩ := HN.out j q2
            subst eA2
            have dd := cellBelow b2 dd
            rcases fot (badO nO (outs j)) with hb | hb
            · have Q := Lib.hid hb
              have q3 : ¬ (outs j < 0) ∧ ¬ ((nO : Int) ≤ outs j) := by
                unfold badO at hb
                rw [Bool.or_eq_false_iff, decide_eq_false_iff_not, decide_eq_false_iff_not] at hb
                exact hb
              obtain ⟨q3, q4⟩ := q3
              clear hb
              generalize hx : outs j = x at *
              have HX := Lib.hid hx
              clear hx
              go_wp2
              go_roundw
              case rel => exact ⟨j + 1, by go_num, q2, fun i hi => by rcases Nat.lt_succ_iff_lt_or_eq.1 hi with h | h; exact HF.out i h; rw [h, HX.out]; exact Q.out, hbel2⟩
              case measure => simp [intOf]; omega
            · have E := Lib.hid (show false = R from by rw [HR.out, decide_eq_false (fun hh => by rw [hh.2.2.2.2.2 j q2] at hb; cases hb)])
              have q3 : outs j < 0 ∨ (0 ≤ outs j ∧ (nO : Int) ≤ outs j) := by
                unfold badO at hb
                rw [Bool.or_eq_true, decide_eq_true_eq, decide_eq_true_eq] at hb
                omega
              clear hb
              generalize outs j = x at *
              rcases q3 with q3 | ⟨q3, q4⟩
              all_goals
                go_wp2
                go_ret
                exact ⟨ret_bool E.out, b2⟩
          · have E := Lib.hid (show true = R from by rw [HR.out, decide_eq_true ⟨h1, h2, h3, h4, fun i hi => HE.out i (by have := HK.out; omega), fun i hi => HF.out i (by omega)⟩])
            go_wp2
            go_ret
            exact ⟨ret_bool E.out, b2⟩
  all_goals
    rw [decide_eq_false (fun hh => by have a1 := hh.1; have a2 := hh.2.1; have a3 := hh.2.2.1; have a4 := hh.2.2.2.1; omega)]
    clear hO hN
    go_enter Try.func5, Try.ntmps5
    go_wp2
    go_ret
    exact ⟨rfl, by (repeat' first | (with_reducible first | exact Below.refl _ _ | assumption | refine Later.belowOf _ ?_ ?_ | refine Below.alloc ?_ ?_ _ | refine Below.setCell ?_ ?_ _ | refine Below.drewN' _ ?_ | refine Below.drew ?_ | exact Ge.le) | go_size)⟩
end Go.Proofs.Ytpkgpkabmechkaa
