/- Contracts: whether a tape may be, as the reference says. -/
import Derived.Test.YtpkgpkabmechkaaGreatPgT2
import Derived.Test.YtpkgpkabmechkaaGreatPgEnd
import Derived.Deep.Slices
namespace Go.Proofs.YtpkgpkabmechkaaGreat
set_option linter.unusedSimpArgs false
set_option linter.unusedVariables false
open Go.RowKit
open Fl

def OutInv (W : World) (outs : Nat → Int) (n nO : Nat) (i : Value) (w : World) : Prop :=
  ∃ k : Nat, i = .int .i64 k ∧ k ≤ n ∧ (∀ j, j < k → badO nO (outs j) = false) ∧ Below W.heap.size W w

open Classical in
set_option maxHeartbeats 8000000 in
set_option maxRecDepth 100000 in
theorem rright_any (V : Int) (vO vN : Value) (ops : Nat → OpT) (outs : Nat → Int) (nO nN : Nat) (w : World) (hO : OpsAt w vO ops nO) (hN : OutsAt w vN outs nN) :
    Calls Tryz.prog 39 #[.agg #[.int .i64 V, vO, vN]] w fun e w' => e = .returned (.bool (decide (TapeR V nO ops nN outs))) ∧ Below w.heap.size w w' := by
  obtain ⟨A, c, rfl, hO⟩ := hO
  obtain ⟨A2, c2, rfl, hN⟩ := hN
  have cV : V < 0 ∨ (0 ≤ V ∧ 64 < V) ∨ (0 ≤ V ∧ V ≤ 64 ∧ 4000 < nO) ∨ (0 ≤ V ∧ V ≤ 64 ∧ nO ≤ 4000 ∧ 400 < nN) ∨ (0 ≤ V ∧ V ≤ 64 ∧ nO ≤ 4000 ∧ nN ≤ 400) := by omega
  rcases cV with h1 | ⟨h1, h2⟩ | ⟨h1, h2, h3⟩ | ⟨h1, h2, h3, h4⟩ | ⟨h1, h2, h3, h4⟩
  case inr.inr.inr.inr =>
    have HO := Lib.hid hO
    have HN := Lib.hid hN
    clear hO hN
    obtain ⟨R, hR⟩ : ∃ R : Bool, R = decide (TapeR V nO ops nN outs) := ⟨_, rfl⟩
    rw [← hR]
    have HR := Lib.hid hR
    clear hR
    go_enter Tryz.func39, Tryz.ntmps39
    go_wp2
    go_loopw [31] (fun i wr => TopInv (w.alloc (Obj.cells #[.int .i64 V, .slice A nO c, .slice A2 nN c2] 45)) ops nO V i wr) (fun i _ => nO - (intOf i).toNat)
    case atStart => exact ⟨0, rfl, Nat.zero_le _, fun j hj => by omega, Below.refl _ _⟩
    case round =>
      obtain ⟨k, rfl, hk, hE, hbel⟩ := hrel
      have HE := Lib.hid hE
      clear hE
      have b0 : Below w.heap.size w (w.alloc (Obj.cells #[.int .i64 V, .slice A nO c, .slice A2 nN c2] 45)) := (Below.refl _ _).alloc (Nat.le_refl _) _
      have b1 := b0.trans (hbel.mono b0.size)
      have g0 : wr.cell? ⟨w.heap.size, 0, none⟩ = some (.int .i64 V) := cellBelow hbel (by simp [go_sem])
      have g1 : wr.cell? ⟨w.heap.size, 1, none⟩ = some (.slice A nO c) := cellBelow hbel (by simp [go_sem])
      have g2 : wr.cell? ⟨w.heap.size, 2, none⟩ = some (.slice A2 nN c2) := cellBelow hbel (by simp [go_sem])
      have hk2 : (k : Int) ≤ 4000 := by omega
      haveI hge : Ge wr (w.heap.size + 1) := ⟨by have := hbel.size; simpa using this⟩
      by_cases q1 : k < nO
      · obtain ⟨b, o, eA, l1, l2, d0, d1, d2, d3, d4, d5⟩ := HO.out k q1
        subst eA
        have d0 := cellBelow b1 d0
        have d1 := cellBelow b1 d1
        have d2 := cellBelow b1 d2
        have d3 := cellBelow b1 d3
        have d4 := cellBelow b1 d4
        have d5 := cellBelow b1 d5
        have er : OpR (ops k).K (ops k).A (ops k).B (ops k).N (ops k).lo (ops k).hi k V = opR (ops k) k V := rfl
        have hn := args_any (ops k).K
        have nn := none_ref_any (ops k).lo (ops k).hi l1 l2
        clear l1 l2
        generalize (ops k).K = xK at *
        generalize (ops k).A = xA at *
        generalize (ops k).B = xB at *
        generalize (ops k).N = xN at *
        generalize (ops k).lo = xlo at *
        generalize (ops k).hi = xhi at *
        by_cases q2 : opR (ops k) k V
        · have Q2 := Lib.hid q2
          rw [← er] at q2
          clear er
          rcases op_kinds xK with h | h | h | h | h | h
          · subst h
            have q2 := (OpR_1 ..).1 q2
            rw [show needI 1 = 0 by decide] at hn
            rw [q2] at nn
            clear q2
            go_wp2_with (first | (go_at_call 103; refine (hn.go _).mono ?_; rintro _ _ ⟨na, rfl, rfl⟩) | (go_at_call 68; refine (nn.go _).mono ?_; rintro _ _ ⟨n, rfl, rfl⟩))
            go_roundw
            case rel => exact ⟨k + 1, by go_num, q1, fun j hj => by rcases Nat.lt_succ_iff_lt_or_eq.1 hj with h | h; exact HE.out j h; rw [h]; exact Q2.out, n.belowOf (Later.after hbel na) (Later.after hbel na).size⟩
            case measure => simp [intOf]; omega
          · subst h
            obtain ⟨c1, c2⟩ := (OpR_2 ..).1 q2
            rw [show needI 2 = 0 by decide] at hn
            clear q2 nn
            go_wp2_with (first | (go_at_call 103; refine (hn.go _).mono ?_; rintro _ _ ⟨n, rfl, rfl⟩) | (go_at_call 68; refine (nn.go _).mono ?_; rintro _ _ ⟨n, rfl, rfl⟩))
            go_roundw
            case rel => exact ⟨k + 1, by go_num, q1, fun j hj => by rcases Nat.lt_succ_iff_lt_or_eq.1 hj with h | h; exact HE.out j h; rw [h]; exact Q2.out, Later.after hbel n⟩
            case measure => simp [intOf]; omega
          · subst h
            obtain ⟨c1, c2, c3, c4⟩ := (OpR_8 ..).1 q2
            rw [show needI 8 = 1 by decide] at hn
            clear q2 nn
            go_wp2_with (first | (go_at_call 103; refine (hn.go _).mono ?_; rintro _ _ ⟨n, rfl, rfl⟩) | (go_at_call 68; refine (nn.go _).mono ?_; rintro _ _ ⟨n, rfl, rfl⟩))
            go_roundw
            case rel => exact ⟨k + 1, by go_num, q1, fun j hj => by rcases Nat.lt_succ_iff_lt_or_eq.1 hj with h | h; exact HE.out j h; rw [h]; exact Q2.out, Later.after hbel n⟩
            case measure => simp [intOf]; omega
          · obtain ⟨c1, c2, c3, c4⟩ := (OpR_two h ..).1 q2
            have e1 : (xK == 1) = false := by simp; omega
            have e2 : (xK == 2) = false := by simp; omega
            have e8 : (xK == 8) = false := by simp; omega
            rw [show needI xK = 2 by unfold needI; rw [if_neg (by omega), if_pos h]] at hn
            have H := Lib.hid h
            clear q2 nn h
            go_wp2_with (first | (go_at_call 103; refine (hn.go _).mono ?_; rintro _ _ ⟨n, rfl, rfl⟩) | (go_at_call 68; refine (nn.go _).mono ?_; rintro _ _ ⟨n, rfl, rfl⟩))
            go_roundw
            case rel => exact ⟨k + 1, by go_num, q1, fun j hj => by rcases Nat.lt_succ_iff_lt_or_eq.1 hj with h | h; exact HE.out j h; rw [h]; exact Q2.out, Later.after hbel n⟩
            case measure => simp [intOf]; omega
          · obtain ⟨c1, c2⟩ := (OpR_one h ..).1 q2
            have e1 : (xK == 1) = false := by simp; omega
            have e2 : (xK == 2) = false := by simp; omega
            have e8 : (xK == 8) = false := by simp; omega
            rw [show needI xK = 1 by unfold needI; rw [if_neg (by omega), if_neg (by omega), if_pos (by omega)]] at hn
            have H := Lib.hid h
            clear q2 nn h
            go_wp2_with (first | (go_at_call 103; refine (hn.go _).mono ?_; rintro _ _ ⟨n, rfl, rfl⟩) | (go_at_call 68; refine (nn.go _).mono ?_; rintro _ _ ⟨n, rfl, rfl⟩))
            go_roundw
            case rel => exact ⟨k + 1, by go_num, q1, fun j hj => by rcases Nat.lt_succ_iff_lt_or_eq.1 hj with h | h; exact HE.out j h; rw [h]; exact Q2.out, Later.after hbel n⟩
            case measure => simp [intOf]; omega
          · exact absurd ((OpR_no h ..).1 q2) id
        · have E := Lib.hid (show false = R from by rw [HR.out, decide_eq_false (fun hh => q2 (hh.2.2.2.2.1 k q1))])
          rw [← er] at q2
          clear er
          rcases op_kinds xK with h | h | h | h | h | h
          · subst h
            have q2 : noneB xlo xhi = true := by cases hx : noneB xlo xhi; exact absurd ((OpR_1 ..).2 hx) q2; rfl
            rw [show needI 1 = 0 by decide] at hn
            rw [q2] at nn
            clear q2
            go_wp2_with (first | (go_at_call 103; refine (hn.go _).mono ?_; rintro _ _ ⟨na, rfl, rfl⟩) | (go_at_call 68; refine (nn.go _).mono ?_; rintro _ _ ⟨n, rfl, rfl⟩))
            go_ret
            exact ⟨ret_bool E.out, b0.trans ((n.belowOf (Later.after hbel na) (Later.after hbel na).size).mono b0.size)⟩
          · subst h
            have cc : xN < 0 ∨ (0 ≤ xN ∧ V ≤ xN) := by have nq : ¬ (0 ≤ xN ∧ xN < V) := fun hh => q2 ((OpR_2 ..).2 hh); omega
            rw [show needI 2 = 0 by decide] at hn
            clear q2 nn
            rcases cc with c1 | ⟨c1, c2⟩
            all_goals
              go_wp2_with (first | (go_at_call 103; refine (hn.go _).mono ?_; rintro _ _ ⟨n, rfl, rfl⟩) | (go_at_call 68; refine (nn.go _).mono ?_; rintro _ _ ⟨n, rfl, rfl⟩))
              go_ret
              exact ⟨ret_bool E.out, b0.trans ((Later.after hbel n).mono b0.size)⟩
          · subst h
            have cc : xA < 0 ∨ (0 ≤ xA ∧ (k : Int) ≤ xA) ∨ (0 ≤ xA ∧ xA < k ∧ xN < -64) ∨ (0 ≤ xA ∧ xA < k ∧ -64 ≤ xN ∧ 64 < xN) := by have nq : ¬ (0 ≤ xA ∧ xA < (k : Int) ∧ -64 ≤ xN ∧ xN ≤ 64) := fun hh => q2 ((OpR_8 ..).2 hh); omega
            rw [show needI 8 = 1 by decide] at hn
            clear q2 nn
            rcases cc with c1 | ⟨c1, c2⟩ | ⟨c1, c2, c3⟩ | ⟨c1, c2, c3, c4⟩
            all_goals
              go_wp2_with (first | (go_at_call 103; refine (hn.go _).mono ?_; rintro _ _ ⟨n, rfl, rfl⟩) | (go_at_call 68; refine (nn.go _).mono ?_; rintro _ _ ⟨n, rfl, rfl⟩))
              go_ret
              exact ⟨ret_bool E.out, b0.trans ((Later.after hbel n).mono b0.size)⟩
          · have cc : xA < 0 ∨ (0 ≤ xA ∧ (k : Int) ≤ xA) ∨ (0 ≤ xA ∧ xA < k ∧ xB < 0) ∨ (0 ≤ xA ∧ xA < k ∧ 0 ≤ xB ∧ (k : Int) ≤ xB) := by have nq : ¬ (0 ≤ xA ∧ xA < (k : Int) ∧ 0 ≤ xB ∧ xB < (k : Int)) := fun hh => q2 ((OpR_two h ..).2 hh); omega
            have e1 : (xK == 1) = false := by simp; omega
            have e2 : (xK == 2) = false := by simp; omega
            have e8 : (xK == 8) = false := by simp; omega
            rw [show needI xK = 2 by unfold needI; rw [if_neg (by omega), if_pos h]] at hn
            have H := Lib.hid h
            clear q2 nn h
            rcases cc with c1 | ⟨c1, c2⟩ | ⟨c1, c2, c3⟩ | ⟨c1, c2, c3, c4⟩
            all_goals
              go_wp2_with (first | (go_at_call 103; refine (hn.go _).mono ?_; rintro _ _ ⟨n, rfl, rfl⟩) | (go_at_call 68; refine (nn.go _).mono ?_; rintro _ _ ⟨n, rfl, rfl⟩))
              go_ret
              exact ⟨ret_bool E.out, b0.trans ((Later.after hbel n).mono b0.size)⟩
          · have cc : xA < 0 ∨ (0 ≤ xA ∧ (k : Int) ≤ xA) := by have nq : ¬ (0 ≤ xA ∧ xA < (k : Int)) := fun hh => q2 ((OpR_one h ..).2 hh); omega
            have e1 : (xK == 1) = false := by simp; omega
            have e2 : (xK == 2) = false := by simp; omega
            have e8 : (xK == 8) = false := by simp; omega
            rw [show needI xK = 1 by unfold needI; rw [if_neg (by omega), if_neg (by omega), if_pos (by omega)]] at hn
            have H := Lib.hid h
            clear q2 nn h
            rcases cc with c1 | ⟨c1, c2⟩
            all_goals
              go_wp2_with (first | (go_at_call 103; refine (hn.go _).mono ?_; rintro _ _ ⟨n, rfl, rfl⟩) | (go_at_call 68; refine (nn.go _).mono ?_; rintro _ _ ⟨n, rfl, rfl⟩))
              go_ret
              exact ⟨ret_bool E.out, b0.trans ((Later.after hbel n).mono b0.size)⟩
          · skip
            have e1 : (xK == 1) = false := by simp; omega
            have e2 : (xK == 2) = false := by simp; omega
            have e8 : (xK == 8) = false := by simp; omega
            rw [show needI xK = -1 by unfold needI; rw [if_neg (by omega), if_neg (by omega), if_neg (by omega)]] at hn
            have H := Lib.hid h
            clear q2 nn h
            go_wp2_with (first | (go_at_call 103; refine (hn.go _).mono ?_; rintro _ _ ⟨n, rfl, rfl⟩) | (go_at_call 68; refine (nn.go _).mono ?_; rintro _ _ ⟨n, rfl, rfl⟩))
            go_ret
            exact ⟨ret_bool E.out, b0.trans ((Later.after hbel n).mono b0.size)⟩
      · have HK := Lib.hid (show k = nO by omega)
        go_wp2
        go_loopw [115] (fun i w2 => OutInv wr outs nN nO i w2) (fun i _ => nN - (intOf i).toNat)
        case atStart => exact ⟨0, rfl, Nat.zero_le _, fun j hj => by omega, Below.refl _ _⟩
        case round =>
          obtain ⟨j, rfl, hj, hF, hbel2⟩ := hrel
          have HF := Lib.hid hF
          clear hF
          have hj2 : (j : Int) ≤ 400 := by omega
          have b2 := b1.trans (hbel2.mono b1.size)
          have f1 := cellBelow hbel2 g1
          by_cases q2 : j < nN
          · obtain ⟨b', o', eA2, dd⟩ := HN.out j q2
            subst eA2
            have dd := cellBelow b2 dd
            rcases fot (badO nO (outs j)) with hb | hb
            · have Q := Lib.hid hb
              have q3 : ¬ (outs j < 0) ∧ ¬ ((nO : Int) ≤ outs j) := by
                unfold badO at hb
                rw [Bool.or_eq_false_iff, decide_eq_false_iff_not, decide_eq_false_iff_not] at hb
                exact hb
              obtain ⟨q3, q4⟩ := q3
              clear hb
              generalize hx : outs j = x at *
              have HX := Lib.hid hx
              clear hx
              go_wp2
              go_roundw
              case rel => exact ⟨j + 1, by go_num, q2, fun i hi => by rcases Nat.lt_succ_iff_lt_or_eq.1 hi with h | h; exact HF.out i h; rw [h, HX.out]; exact Q.out, hbel2⟩
              case measure => simp [intOf]; omega
            · have E := Lib.hid (show false = R from by rw [HR.out, decide_eq_false (fun hh => by rw [hh.2.2.2.2.2 j q2] at hb; cases hb)])
              have q3 : outs j < 0 ∨ (0 ≤ outs j ∧ (nO : Int) ≤ outs j) := by
                unfold badO at hb
                rw [Bool.or_eq_true, decide_eq_true_eq, decide_eq_true_eq] at hb
                omega
              clear hb
              generalize outs j = x at *
              rcases q3 with q3 | ⟨q3, q4⟩
              all_goals
                go_wp2
                go_ret
                exact ⟨ret_bool E.out, b2⟩
          · have E := Lib.hid (show true = R from by rw [HR.out, decide_eq_true ⟨h1, h2, h3, h4, fun i hi => HE.out i (by have := HK.out; omega), fun i hi => HF.out i (by omega)⟩])
            go_wp2
            go_ret
            exact ⟨ret_bool E.out, b2⟩
  all_goals
    rw [decide_eq_false (fun hh => by have a1 := hh.1; have a2 := hh.2.1; have a3 := hh.2.2.1; have a4 := hh.2.2.2.1; omega)]
    clear hO hN
    go_enter Tryz.func39, Tryz.ntmps39
    go_wp2
    go_ret
    exact ⟨rfl, by (repeat' first | (with_reducible first | exact Below.refl _ _ | assumption | refine Later.belowOf _ ?_ ?_ | refine Below.alloc ?_ ?_ _ | refine Below.setCell ?_ ?_ _ | refine Below.drewN' _ ?_ | refine Below.drew ?_ | exact Ge.le) | go_size)⟩
end Go.Proofs.YtpkgpkabmechkaaGreat

/- A tape as an argument: its cells. -/
namespace Go.Proofs.YtpkgpkabmechkaaGreat
set_option linter.unusedSimpArgs false
set_option linter.unusedVariables false
open Go.ChangeShapes Go.WideShapes Go.ChangeAt Go.RowKit Go.Joins Go.Deep

section
variable {H : Type} {enc : TypeId × Value → H} {P : Program} {w W : World} {base : Nat} {sp : Nat → Bool} {held : Bool} {fuel : Nat} {cs : List Value} {x : DataW H × List MemPlace}

theorem trod_int6 {t : TypeId} {k : IntKind} (ht : P.underlying t = some (.int k)) (h : DataW.trod enc P w base sp held fuel t cs = some x) : ∃ n, cs = [.int k n] := by
  cases fuel with
  | zero => simp [DataW.trod] at h
  | succ n =>
    unfold DataW.trod at h
    rw [ht] at h
    split at h <;> simp_all

instance : Inhabited OpT := ⟨⟨0, 0, 0, 0, 0, 0⟩⟩
theorem list2 {l : List Value} (h : l.length = 2) : ∃ a b, l = [a, b] := by
  match l, h with
  | [a, b], _ => exact ⟨a, b, rfl⟩
theorem list6 {l : List Value} (h : l.length = 6) : ∃ a b c d e f, l = [a, b, c, d, e, f] := by
  match l, h with
  | [a, b, c, d, e, f], _ => exact ⟨a, b, c, d, e, f, rfl⟩

theorem Tryz.cells66 : Tryz.prog.cellsOf 66 = 6 := by kernel_rfl
theorem Tryz.cells45 : Tryz.prog.cellsOf 45 = 3 := by kernel_rfl
theorem Tryz.cells3 : Tryz.prog.cellsOf 3 = 1 := by kernel_rfl
theorem Tryz.cells22 : Tryz.prog.cellsOf 22 = 1 := by kernel_rfl

theorem trod_op (h : DataW.trod enc Tryz.prog w base sp held fuel 66 cs = some x) :
    ∃ o : OpT, cs = [.int .i64 o.K, .int .i64 o.A, .int .i64 o.B, .int .i64 o.N, .float .f64 o.lo, .float .f64 o.hi] ∧ o.lo < 18446744073709551616 ∧ o.hi < 18446744073709551616 := by
  obtain ⟨xs, n, _, rfl, hl, hlen, hf⟩ := DataW.trod_struct Tryz.underlying66 h
  rw [Tryz.cells66] at hl
  obtain ⟨c0, c1, c2, c3, c4, c5, rfl⟩ := list6 hl
  match xs, hlen with
  | [y0, y1, y2, y3, y4], _ =>
    have h0 := hf 0 _ rfl
    have h1 := hf 1 _ rfl
    have h2 := hf 2 _ rfl
    have h3 := hf 3 _ rfl
    have h4 := hf 4 _ rfl
    simp [Tryz.cells3, Tryz.cells24] at h0 h1 h2 h3 h4
    obtain ⟨k0, e0⟩ := trod_int6 Tryz.underlying3 h0
    obtain ⟨k1, e1⟩ := trod_int6 Tryz.underlying3 h1
    obtain ⟨k2, e2⟩ := trod_int6 Tryz.underlying3 h2
    obtain ⟨k3, e3⟩ := trod_int6 Tryz.underlying3 h3
    obtain ⟨z0, z1, m, _, _, g0, g1⟩ := trod_struct2 Tryz.underlying24 h4
    simp [Tryz.cells22] at g0 g1
    obtain ⟨lo, e4, l4⟩ := trod_float Tryz.underlying22 g0
    obtain ⟨hi, e5, l5⟩ := trod_float Tryz.underlying22 g1
    simp only [List.cons.injEq, and_true] at e0 e1 e2 e3 e4 e5
    subst e0 e1 e2 e3 e4 e5
    exact ⟨⟨k0, k1, k2, k3, lo, hi⟩, rfl, l4, l5⟩

theorem trod_outs {v : Value} (h : DataW.trod enc Tryz.prog w base (fun _ => true) held fuel 43 [v] = some x) : ∃ outs n, OutsAt w v outs n := by
  rcases open_slice1 Tryz.underlying43 Tryz.cells3 h with ⟨e, _⟩ | ⟨a, len, cap, m, n, V, D, Pl, e, _, hl, _, hm, _, hc⟩
  · simp only [List.cons.injEq, and_true] at e
    subst e
    exact ⟨fun _ => 0, 0, none, 0, rfl, fun i hi => by omega⟩
  · simp only [List.cons.injEq, and_true] at e
    subst e
    simp only [if_true] at hm
    have each : ∀ i, i < len → ∃ z, V i = .int .i64 z := fun i hi => by
      obtain ⟨z, hz⟩ := trod_int6 Tryz.underlying3 (hc i (by omega)).2
      simp only [List.cons.injEq, and_true] at hz
      exact ⟨z, hz⟩
    obtain ⟨Z, hZ⟩ := choose_lt each
    refine ⟨Z, len, some a, cap, rfl, fun i hi => ?_⟩
    have h0 := World.cell?_spot (hc 0 (by omega)).1
    obtain ⟨b, o, s⟩ := a
    have hs : s = none := by simpa [Addr.add] using h0
    subst hs
    refine ⟨b, o, rfl, ?_⟩
    have := (hc i (by omega)).1
    rw [add_plain, hZ i hi] at this
    exact this

theorem trod_ops {v : Value} (h : DataW.trod enc Tryz.prog w base (fun _ => true) held fuel 42 [v] = some x) : ∃ ops n, OpsAt w v ops n := by
  rcases open_slice Tryz.underlying42 h with ⟨e, _⟩ | ⟨a, len, cap, m, n, D, Pl, e, _, hl, _, hm, _, hc⟩
  · simp only [List.cons.injEq, and_true] at e
    subst e
    exact ⟨fun _ => ⟨0, 0, 0, 0, 0, 0⟩, 0, none, 0, rfl, fun i hi => by omega⟩
  · simp only [List.cons.injEq, and_true] at e
    subst e
    simp only [if_true] at hm
    rw [Tryz.cells66] at hc
    have each : ∀ i, i < len → ∃ z : OpT, w.cells? base (a.add (i * 6)) 6 = some [.int .i64 z.K, .int .i64 z.A, .int .i64 z.B, .int .i64 z.N, .float .f64 z.lo, .float .f64 z.hi] ∧ z.lo < 18446744073709551616 ∧ z.hi < 18446744073709551616 := fun i hi => by
      obtain ⟨cs', h1, h2⟩ := hc i (by omega)
      obtain ⟨z, rfl, l1, l2⟩ := trod_op h2
      exact ⟨z, h1, l1, l2⟩
    obtain ⟨Z, hZ⟩ := choose_lt each
    refine ⟨Z, len, some a, cap, rfl, fun i hi => ?_⟩
    obtain ⟨_, _, q0⟩ := World.cells?_some (hZ 0 (by omega)).1
    have h0 := World.cell?_spot (q0 0 (by omega))
    obtain ⟨b, o, s⟩ := a
    have hs : s = none := by simpa [Addr.add] using h0
    subst hs
    obtain ⟨hz, l1, l2⟩ := hZ i hi
    obtain ⟨_, _, q⟩ := World.cells?_some hz
    refine ⟨b, o, rfl, l1, l2, ?_, ?_, ?_, ?_, ?_, ?_⟩
    · have := q 0 (by omega); rw [add_plain, add_plain] at this; exact this
    · have := q 1 (by omega); rw [add_plain, add_plain] at this; exact this
    · have := q 2 (by omega); rw [add_plain, add_plain] at this; exact this
    · have := q 3 (by omega); rw [add_plain, add_plain] at this; exact this
    · have := q 4 (by omega); rw [add_plain, add_plain] at this; exact this
    · have := q 5 (by omega); rw [add_plain, add_plain] at this; exact this

set_option maxRecDepth 100000 in
theorem arg_tape {v : Value} {d : DataW H} {ps : List MemPlace} (hval : Value.okWide Tryz.prog W .any base 45 v) (h : DataW.Trod enc Tryz.prog W 0 (fun _ => true) held 45 v d ps) :
    ∃ V vO vN ops nO outs nN, v = .agg #[.int .i64 V, vO, vN] ∧ OpsAt W vO ops nO ∧ OutsAt W vN outs nN := by
  obtain ⟨c0, c1, c2, y0, y1, y2, m, rfl, _, _, h0, h1, h2⟩ := open_agg3 Tryz.underlying45 (by kernel_rfl) Tryz.cells45 hval h
  obtain ⟨V, eV⟩ := trod_int6 Tryz.underlying3 h0
  simp only [List.cons.injEq, and_true] at eV
  subst eV
  obtain ⟨ops, nO, hO⟩ := trod_ops h1
  obtain ⟨outs, nN, hN⟩ := trod_outs h2
  exact ⟨V, c1, c2, ops, nO, outs, nN, rfl, hO, hN⟩
end
end Go.Proofs.YtpkgpkabmechkaaGreat
