/- IvalGrows: the walk (under way). -/
import Derived.Test.YtjdccbigaahkeaaW57
namespace Go.Proofs.Ytjdccbigaahkeaa
set_option linter.unusedSimpArgs false
set_option linter.unusedVariables false
open Go.RowKit
open Fl

theorem cellBelow {w w' : World} {b o : Nat} {v : Value} (hb : Below w.heap.size w w') (h : w.cell? ⟨b, o, none⟩ = some v) : w'.cell? ⟨b, o, none⟩ = some v :=
  (hb.cell (World.block_lt_of_cell? w _ h)).trans h

def GrowInv (W : World) (i : Value) (w : World) : Prop := ∃ k : Nat, i = .int .i64 k ∧ k ≤ 9 ∧ Below W.heap.size W w

set_option maxHeartbeats 8000000 in
set_option maxRecDepth 100000 in
theorem grows_core (a b c d e f g h p0 q0 r0 s0 p1 q1 r1 s1 p2 q2 r2 s2 p3 q3 r3 s3 p4 q4 r4 s4 p5 q5 r5 s5 p6 q6 r6 s6 p7 q7 r7 s7 p8 q8 r8 s8 w1 w2 w3 w4 w5 w6 : Nat) (n : Int) (H : Gives 64 #[(.agg #[.float .f64 a, .float .f64 b]), (.agg #[.float .f64 e, .float .f64 f])] (.agg #[.float .f64 g, .float .f64 h]))
    (R1 : Gives 21 #[(.agg #[.float .f64 a, .float .f64 b])] (.bool true)) (R2 : Gives 21 #[(.agg #[.float .f64 c, .float .f64 d])] (.bool true)) (R3 : Gives 21 #[(.agg #[.float .f64 e, .float .f64 f])] (.bool true)) (R4 : Gives 83 #[(.agg #[.float .f64 a, .float .f64 b])] (.bool false))
    (A1 : Gives 70 #[(.agg #[.float .f64 a, .float .f64 b]), (.agg #[.float .f64 c, .float .f64 d])] (.agg #[.float .f64 p0, .float .f64 q0])) (A2 : Gives 70 #[(.agg #[.float .f64 g, .float .f64 h]), (.agg #[.float .f64 c, .float .f64 d])] (.agg #[.float .f64 r0, .float .f64 s0]))
    (B1 : Gives 72 #[(.agg #[.float .f64 c, .float .f64 d]), (.agg #[.float .f64 a, .float .f64 b])] (.agg #[.float .f64 p1, .float .f64 q1])) (B2 : Gives 72 #[(.agg #[.float .f64 c, .float .f64 d]), (.agg #[.float .f64 g, .float .f64 h])] (.agg #[.float .f64 r1, .float .f64 s1]))
    (C1 : Gives 76 #[(.agg #[.float .f64 a, .float .f64 b]), (.agg #[.float .f64 c, .float .f64 d])] (.agg #[.float .f64 p2, .float .f64 q2])) (C2 : Gives 76 #[(.agg #[.float .f64 g, .float .f64 h]), (.agg #[.float .f64 c, .float .f64 d])] (.agg #[.float .f64 r2, .float .f64 s2]))
    (D1 : Gives 74 #[(.agg #[.float .f64 a, .float .f64 b]), (.agg #[.float .f64 c, .float .f64 d])] (.agg #[.float .f64 p3, .float .f64 q3])) (D2 : Gives 74 #[(.agg #[.float .f64 g, .float .f64 h]), (.agg #[.float .f64 c, .float .f64 d])] (.agg #[.float .f64 r3, .float .f64 s3]))
    (E1 : Gives 74 #[(.agg #[.float .f64 c, .float .f64 d]), (.agg #[.float .f64 a, .float .f64 b])] (.agg #[.float .f64 p4, .float .f64 q4])) (E2 : Gives 74 #[(.agg #[.float .f64 c, .float .f64 d]), (.agg #[.float .f64 g, .float .f64 h])] (.agg #[.float .f64 r4, .float .f64 s4]))
    (F1 : Gives 78 #[(.agg #[.float .f64 a, .float .f64 b])] (.agg #[.float .f64 p5, .float .f64 q5])) (F2 : Gives 78 #[(.agg #[.float .f64 g, .float .f64 h])] (.agg #[.float .f64 r5, .float .f64 s5]))
    (G1 : Gives 86 #[(.agg #[.float .f64 a, .float .f64 b])] (.agg #[.float .f64 p6, .float .f64 q6])) (G2 : Gives 86 #[(.agg #[.float .f64 g, .float .f64 h])] (.agg #[.float .f64 r6, .float .f64 s6]))
    (P1 : Gives 87 #[(.agg #[.float .f64 a, .float .f64 b]), .int .i64 n] (.agg #[.float .f64 p7, .float .f64 q7])) (P2 : Gives 87 #[(.agg #[.float .f64 g, .float .f64 h]), .int .i64 n] (.agg #[.float .f64 r7, .float .f64 s7]))
    (M1 : Gives 66 #[(.agg #[.float .f64 a, .float .f64 b]), (.agg #[.float .f64 c, .float .f64 d])] (.agg #[.float .f64 p8, .float .f64 q8])) (M2 : Gives 66 #[(.agg #[.float .f64 g, .float .f64 h]), (.agg #[.float .f64 c, .float .f64 d])] (.agg #[.float .f64 r8, .float .f64 s8]))
    (I0 : Gives 37 #[(.agg #[.float .f64 p0, .float .f64 q0]), (.agg #[.float .f64 r0, .float .f64 s0])] (.bool true)) (X0 : Gives 21 #[(.agg #[.float .f64 p0, .float .f64 q0])] (.bool true)) (Y0 : Gives 21 #[(.agg #[.float .f64 r0, .float .f64 s0])] (.bool true))
    (I1 : Gives 37 #[(.agg #[.float .f64 p1, .float .f64 q1]), (.agg #[.float .f64 r1, .float .f64 s1])] (.bool true)) (X1 : Gives 21 #[(.agg #[.float .f64 p1, .float .f64 q1])] (.bool true)) (Y1 : Gives 21 #[(.agg #[.float .f64 r1, .float .f64 s1])] (.bool true))
    (I2 : Gives 37 #[(.agg #[.float .f64 p2, .float .f64 q2]), (.agg #[.float .f64 r2, .float .f64 s2])] (.bool true)) (X2 : Gives 21 #[(.agg #[.float .f64 p2, .float .f64 q2])] (.bool true)) (Y2 : Gives 21 #[(.agg #[.float .f64 r2, .float .f64 s2])] (.bool true))
    (I3 : Gives 37 #[(.agg #[.float .f64 p3, .float .f64 q3]), (.agg #[.float .f64 r3, .float .f64 s3])] (.bool true)) (X3 : Gives 21 #[(.agg #[.float .f64 p3, .float .f64 q3])] (.bool true)) (Y3 : Gives 21 #[(.agg #[.float .f64 r3, .float .f64 s3])] (.bool true))
    (I4 : Gives 37 #[(.agg #[.float .f64 p4, .float .f64 q4]), (.agg #[.float .f64 r4, .float .f64 s4])] (.bool true)) (X4 : Gives 21 #[(.agg #[.float .f64 p4, .float .f64 q4])] (.bool true)) (Y4 : Gives 21 #[(.agg #[.float .f64 r4, .float .f64 s4])] (.bool true))
    (I5 : Gives 37 #[(.agg #[.float .f64 p5, .float .f64 q5]), (.agg #[.float .f64 r5, .float .f64 s5])] (.bool true)) (X5 : Gives 21 #[(.agg #[.float .f64 p5, .float .f64 q5])] (.bool true)) (Y5 : Gives 21 #[(.agg #[.float .f64 r5, .float .f64 s5])] (.bool true))
    (I6 : Gives 37 #[(.agg #[.float .f64 p6, .float .f64 q6]), (.agg #[.float .f64 r6, .float .f64 s6])] (.bool true)) (X6 : Gives 21 #[(.agg #[.float .f64 p6, .float .f64 q6])] (.bool true)) (Y6 : Gives 21 #[(.agg #[.float .f64 r6, .float .f64 s6])] (.bool true))
    (I7 : Gives 37 #[(.agg #[.float .f64 p7, .float .f64 q7]), (.agg #[.float .f64 r7, .float .f64 s7])] (.bool true)) (X7 : Gives 21 #[(.agg #[.float .f64 p7, .float .f64 q7])] (.bool true)) (Y7 : Gives 21 #[(.agg #[.float .f64 r7, .float .f64 s7])] (.bool true))
    (I8 : Gives 37 #[(.agg #[.float .f64 p8, .float .f64 q8]), (.agg #[.float .f64 r8, .float .f64 s8])] (.bool true)) (X8 : Gives 21 #[(.agg #[.float .f64 p8, .float .f64 q8])] (.bool true)) (Y8 : Gives 21 #[(.agg #[.float .f64 r8, .float .f64 s8])] (.bool true))
    (Z0 : Gives 37 #[(.agg #[.float .f64 a, .float .f64 b]), (.agg #[.float .f64 g, .float .f64 h])] (.bool true)) (Z1 : Gives 58 #[(.agg #[.float .f64 a, .float .f64 b])] (.float .f64 w1)) (Z2 : Gives 58 #[(.agg #[.float .f64 g, .float .f64 h])] (.float .f64 w2)) (Z3 : Gives 60 #[(.agg #[.float .f64 a, .float .f64 b])] (.float .f64 w3)) (Z4 : Gives 60 #[(.agg #[.float .f64 g, .float .f64 h])] (.float .f64 w4)) (Z5 : Gives 62 #[(.agg #[.float .f64 a, .float .f64 b])] (.float .f64 w5)) (Z6 : Gives 62 #[(.agg #[.float .f64 g, .float .f64 h])] (.float .f64 w6)) (K1 : fle w1 w2 = true) (K2 : fle w3 w4 = true) (K3 : fle w6 w5 = true) : Gives 19 #[(.agg #[.float .f64 a, .float .f64 b]), (.agg #[.float .f64 c, .float .f64 d]), (.agg #[.float .f64 e, .float .f64 f]), .int .i64 n] (.bool true) := by
  intro w
  go_enter Try.func19, Try.ntmps19
  go_wp2_with (go_at_call 64; (with_reducible refine (H.go _).mono ?_); rintro _ _ ⟨nH, rfl, rfl⟩)
  go_upto_region 4 with (first | (go_at_call 21; first | ((with_reducible refine (R1.go _).mono ?_); rintro _ _ ⟨nn, rfl, rfl⟩) | ((with_reducible refine (R2.go _).mono ?_); rintro _ _ ⟨nn, rfl, rfl⟩) | ((with_reducible refine (R3.go _).mono ?_); rintro _ _ ⟨nn, rfl, rfl⟩)) | (go_at_call 83; (with_reducible refine (R4.go _).mono ?_); rintro _ _ ⟨nn, rfl, rfl⟩))
  have HI := Lib.hid (show _ ∧ _ ∧ _ ∧ _ ∧ _ ∧ _ ∧ _ ∧ _ ∧ _ from ⟨I0, I1, I2, I3, I4, I5, I6, I7, I8⟩)
  have HX := Lib.hid (show _ ∧ _ ∧ _ ∧ _ ∧ _ ∧ _ ∧ _ ∧ _ ∧ _ from ⟨X0, X1, X2, X3, X4, X5, X6, X7, X8⟩)
  have HY := Lib.hid (show _ ∧ _ ∧ _ ∧ _ ∧ _ ∧ _ ∧ _ ∧ _ ∧ _ from ⟨Y0, Y1, Y2, Y3, Y4, Y5, Y6, Y7, Y8⟩)
  have HZ := Lib.hid (show _ ∧ _ ∧ _ ∧ _ ∧ _ ∧ _ ∧ _ ∧ _ ∧ _ ∧ _ from ⟨Z0, Z1, Z2, Z3, Z4, Z5, Z6, K1, K2, K3⟩)
  clear I0 X0 Y0 I1 X1 Y1 I2 X2 Y2 I3 X3 Y3 I4 X4 Y4 I5 X5 Y5 I6 X6 Y6 I7 X7 Y7 I8 X8 Y8 Z0 Z1 Z2 Z3 Z4 Z5 Z6 K1 K2 K3
  go_cut [91, 92, 93] (fun v1 v2 v3 wc => ∃ n : Later (nH.val.alloc (Obj.cells #[(.float .f64 g), (.float .f64 h)] 24)), v1 = .slice (some ⟨n.val.heap.size, 0, none⟩) 9 9 ∧ v2 = .int .i64 9 ∧ v3 = .int .i64 0 ∧ wc = (n.val.alloc (Obj.cells #[(.float .f64 p0), (.float .f64 q0), (.float .f64 r0), (.float .f64 s0), (.float .f64 p1), (.float .f64 q1), (.float .f64 r1), (.float .f64 s1), (.float .f64 p2), (.float .f64 q2), (.float .f64 r2), (.float .f64 s2), (.float .f64 p3), (.float .f64 q3), (.float .f64 r3), (.float .f64 s3), (.float .f64 p4), (.float .f64 q4), (.float .f64 r4), (.float .f64 s4), (.float .f64 p5), (.float .f64 q5), (.float .f64 r5), (.float .f64 s5), (.float .f64 p6), (.float .f64 q6), (.float .f64 r6), (.float .f64 s6), (.float .f64 p7), (.float .f64 q7), (.float .f64 r7), (.float .f64 s7), (.float .f64 p8), (.float .f64 q8), (.float .f64 r8), (.float .f64 s8)] 55)))
  case first =>
    clear HI HX HY HZ
    go_region_held3 (fun w' => w'.cell? ⟨w.heap.size, 0, none⟩ = some (.float .f64 a) ∧ w'.cell? ⟨w.heap.size, 1, none⟩ = some (.float .f64 b) ∧ w'.cell? ⟨w.heap.size + 1, 0, none⟩ = some (.float .f64 c) ∧ w'.cell? ⟨w.heap.size + 1, 1, none⟩ = some (.float .f64 d) ∧ w'.cell? ⟨nH.val.heap.size, 0, none⟩ = some (.float .f64 g) ∧ w'.cell? ⟨nH.val.heap.size, 1, none⟩ = some (.float .f64 h))
      (first | (go_simp; done) | go_keep)
      ((first | (go_at_call 70; first | ((with_reducible refine (A1.go _).mono ?_); rintro _ _ ⟨nn, rfl, rfl⟩) | ((with_reducible refine (A2.go _).mono ?_); rintro _ _ ⟨nn, rfl, rfl⟩)) | (go_at_call 72; first | ((with_reducible refine (B1.go _).mono ?_); rintro _ _ ⟨nn, rfl, rfl⟩) | ((with_reducible refine (B2.go _).mono ?_); rintro _ _ ⟨nn, rfl, rfl⟩)) | (go_at_call 76; first | ((with_reducible refine (C1.go _).mono ?_); rintro _ _ ⟨nn, rfl, rfl⟩) | ((with_reducible refine (C2.go _).mono ?_); rintro _ _ ⟨nn, rfl, rfl⟩)) | (go_at_call 74; first | ((with_reducible refine (D1.go _).mono ?_); rintro _ _ ⟨nn, rfl, rfl⟩) | ((with_reducible refine (D2.go _).mono ?_); rintro _ _ ⟨nn, rfl, rfl⟩) | ((with_reducible refine (E1.go _).mono ?_); rintro _ _ ⟨nn, rfl, rfl⟩) | ((with_reducible refine (E2.go _).mono ?_); rintro _ _ ⟨nn, rfl, rfl⟩)) | (go_at_call 78; first | ((with_reducible refine (F1.go _).mono ?_); rintro _ _ ⟨nn, rfl, rfl⟩) | ((with_reducible refine (F2.go _).mono ?_); rintro _ _ ⟨nn, rfl, rfl⟩)) | (go_at_call 86; first | ((with_reducible refine (G1.go _).mono ?_); rintro _ _ ⟨nn, rfl, rfl⟩) | ((with_reducible refine (G2.go _).mono ?_); rintro _ _ ⟨nn, rfl, rfl⟩)) | (go_at_call 87; first | ((with_reducible refine (P1.go _).mono ?_); rintro _ _ ⟨nn, rfl, rfl⟩) | ((with_reducible refine (P2.go _).mono ?_); rintro _ _ ⟨nn, rfl, rfl⟩)) | (go_at_call 66; first | ((with_reducible refine (M1.go _).mono ?_); rintro _ _ ⟨nn, rfl, rfl⟩) | ((with_reducible refine (M2.go _).mono ?_); rintro _ _ ⟨nn, rfl, rfl⟩))))
    rename_i hHeld
    clear hHeld
    go_wp2
    go_meet
    case rel => exact ⟨⟨nn.val, by (repeat' (first | (with_reducible exact Below.refl _ _) | (with_reducible assumption) | (with_reducible refine Later.belowOf _ ?_ ?_) | (with_reducible refine Below.alloc ?_ ?_ _) | (with_reducible refine Below.setCell ?_ ?_ _) | (with_reducible refine Below.drewN' _ ?_) | (with_reducible refine Below.drew ?_) | (with_reducible exact Ge.le) | go_size))⟩, rfl, rfl, rfl, rfl⟩
  obtain ⟨n, rfl, rfl, rfl, rfl⟩ := hcut
  clear A1 A2 B1 B2 C1 C2 D1 D2 E1 E2 F1 F2 G1 G2 P1 P2 M1 M2 H R1 R2 R3 R4
  go_wp2_with (fail)
  go_loopw [93] (fun i wr => GrowInv (n.val.alloc (Obj.cells #[(.float .f64 p0), (.float .f64 q0), (.float .f64 r0), (.float .f64 s0), (.float .f64 p1), (.float .f64 q1), (.float .f64 r1), (.float .f64 s1), (.float .f64 p2), (.float .f64 q2), (.float .f64 r2), (.float .f64 s2), (.float .f64 p3), (.float .f64 q3), (.float .f64 r3), (.float .f64 s3), (.float .f64 p4), (.float .f64 q4), (.float .f64 r4), (.float .f64 s4), (.float .f64 p5), (.float .f64 q5), (.float .f64 r5), (.float .f64 s5), (.float .f64 p6), (.float .f64 q6), (.float .f64 r6), (.float .f64 s6), (.float .f64 p7), (.float .f64 q7), (.float .f64 r7), (.float .f64 s7), (.float .f64 p8), (.float .f64 q8), (.float .f64 r8), (.float .f64 s8)] 55)) i wr) (fun i _ => 9 - (intOf i).toNat)
  case atStart => exact ⟨0, rfl, by decide, Below.refl _ _⟩
  case round =>
    obtain ⟨k, rfl, hk, hbel⟩ := hrel
    haveI hg2 : Ge wr (n.val.alloc (Obj.cells #[(.float .f64 p0), (.float .f64 q0), (.float .f64 r0), (.float .f64 s0), (.float .f64 p1), (.float .f64 q1), (.float .f64 r1), (.float .f64 s1), (.float .f64 p2), (.float .f64 q2), (.float .f64 r2), (.float .f64 s2), (.float .f64 p3), (.float .f64 q3), (.float .f64 r3), (.float .f64 s3), (.float .f64 p4), (.float .f64 q4), (.float .f64 r4), (.float .f64 s4), (.float .f64 p5), (.float .f64 q5), (.float .f64 r5), (.float .f64 s5), (.float .f64 p6), (.float .f64 q6), (.float .f64 r6), (.float .f64 s6), (.float .f64 p7), (.float .f64 q7), (.float .f64 r7), (.float .f64 s7), (.float .f64 p8), (.float .f64 q8), (.float .f64 r8), (.float .f64 s8)] 55)).heap.size := ⟨hbel.size⟩
    haveI hg1 : Ge wr (n.val.heap.size + 1) := ⟨by have := hbel.size; simpa using this⟩
    have hkk : k = 0 ∨ k = 1 ∨ k = 2 ∨ k = 3 ∨ k = 4 ∨ k = 5 ∨ k = 6 ∨ k = 7 ∨ k = 8 ∨ k = 9 := by omega
    clear hk
    rcases hkk with rfl | rfl | rfl | rfl | rfl | rfl | rfl | rfl | rfl | rfl
    · have I := HI.out.1
      have X := HX.out.1
      have Y := HY.out.1
      have c0 : wr.cell? ⟨n.val.heap.size, 0, none⟩ = some (.float .f64 p0) := cellBelow hbel (by simp [go_sem])
      have c1 : wr.cell? ⟨n.val.heap.size, 1, none⟩ = some (.float .f64 q0) := cellBelow hbel (by simp [go_sem])
      have c2 : wr.cell? ⟨n.val.heap.size, 2, none⟩ = some (.float .f64 r0) := cellBelow hbel (by simp [go_sem])
      have c3 : wr.cell? ⟨n.val.heap.size, 3, none⟩ = some (.float .f64 s0) := cellBelow hbel (by simp [go_sem])
      go_wp2_with (first | (go_at_call 37; (with_reducible refine (I.go _).mono ?_); rintro _ _ ⟨nn, rfl, rfl⟩) | (go_at_call 21; first | ((with_reducible refine (X.go _).mono ?_); rintro _ _ ⟨nn, rfl, rfl⟩) | ((with_reducible refine (Y.go _).mono ?_); rintro _ _ ⟨nn, rfl, rfl⟩)))
      go_roundw
      case rel => exact ⟨1, by go_num, by decide, by (repeat' (first | (with_reducible exact Below.refl _ _) | (with_reducible assumption) | (with_reducible refine Later.belowOf _ ?_ ?_) | (with_reducible refine Below.alloc ?_ ?_ _) | (with_reducible refine Below.setCell ?_ ?_ _) | (with_reducible refine Below.drewN' _ ?_) | (with_reducible refine Below.drew ?_) | (with_reducible exact Ge.le) | go_size))⟩
      case measure => simp [intOf]
    · have I := HI.out.2.1
      have X := HX.out.2.1
      have Y := HY.out.2.1
      have c0 : wr.cell? ⟨n.val.heap.size, 4, none⟩ = some (.float .f64 p1) := cellBelow hbel (by simp [go_sem])
      have c1 : wr.cell? ⟨n.val.heap.size, 5, none⟩ = some (.float .f64 q1) := cellBelow hbel (by simp [go_sem])
      have c2 : wr.cell? ⟨n.val.heap.size, 6, none⟩ = some (.float .f64 r1) := cellBelow hbel (by simp [go_sem])
      have c3 : wr.cell? ⟨n.val.heap.size, 7, none⟩ = some (.float .f64 s1) := cellBelow hbel (by simp [go_sem])
      go_wp2_with (first | (go_at_call 37; (with_reducible refine (I.go _).mono ?_); rintro _ _ ⟨nn, rfl, rfl⟩) | (go_at_call 21; first | ((with_reducible refine (X.go _).mono ?_); rintro _ _ ⟨nn, rfl, rfl⟩) | ((with_reducible refine (Y.go _).mono ?_); rintro _ _ ⟨nn, rfl, rfl⟩)))
      go_roundw
      case rel => exact ⟨2, by go_num, by decide, by (repeat' (first | (with_reducible exact Below.refl _ _) | (with_reducible assumption) | (with_reducible refine Later.belowOf _ ?_ ?_) | (with_reducible refine Below.alloc ?_ ?_ _) | (with_reducible refine Below.setCell ?_ ?_ _) | (with_reducible refine Below.drewN' _ ?_) | (with_reducible refine Below.drew ?_) | (with_reducible exact Ge.le) | go_size))⟩
      case measure => simp [intOf]
    · have I := HI.out.2.2.1
      have X := HX.out.2.2.1
      have Y := HY.out.2.2.1
      have c0 : wr.cell? ⟨n.val.heap.size, 8, none⟩ = some (.float .f64 p2) := cellBelow hbel (by simp [go_sem])
      have c1 : wr.cell? ⟨n.val.heap.size, 9, none⟩ = some (.float .f64 q2) := cellBelow hbel (by simp [go_sem])
      have c2 : wr.cell? ⟨n.val.heap.size, 10, none⟩ = some (.float .f64 r2) := cellBelow hbel (by simp [go_sem])
      have c3 : wr.cell? ⟨n.val.heap.size, 11, none⟩ = some (.float .f64 s2) := cellBelow hbel (by simp [go_sem])
      go_wp2_with (first | (go_at_call 37; (with_reducible refine (I.go _).mono ?_); rintro _ _ ⟨nn, rfl, rfl⟩) | (go_at_call 21; first | ((with_reducible refine (X.go _).mono ?_); rintro _ _ ⟨nn, rfl, rfl⟩) | ((with_reducible refine (Y.go _).mono ?_); rintro _ _ ⟨nn, rfl, rfl⟩)))
      go_roundw
      case rel => exact ⟨3, by go_num, by decide, by (repeat' (first | (with_reducible exact Below.refl _ _) | (with_reducible assumption) | (with_reducible refine Later.belowOf _ ?_ ?_) | (with_reducible refine Below.alloc ?_ ?_ _) | (with_reducible refine Below.setCell ?_ ?_ _) | (with_reducible refine Below.drewN' _ ?_) | (with_reducible refine Below.drew ?_) | (with_reducible exact Ge.le) | go_size))⟩
      case measure => simp [intOf]
    · have I := HI.out.2.2.2.1
      have X := HX.out.2.2.2.1
      have Y := HY.out.2.2.2.1
      have c0 : wr.cell? ⟨n.val.heap.size, 12, none⟩ = some (.float .f64 p3) := cellBelow hbel (by simp [go_sem])
      have c1 : wr.cell? ⟨n.val.heap.size, 13, none⟩ = some (.float .f64 q3) := cellBelow hbel (by simp [go_sem])
      have c2 : wr.cell? ⟨n.val.heap.size, 14, none⟩ = some (.float .f64 r3) := cellBelow hbel (by simp [go_sem])
      have c3 : wr.cell? ⟨n.val.heap.size, 15, none⟩ = some (.float .f64 s3) := cellBelow hbel (by simp [go_sem])
      go_wp2_with (first | (go_at_call 37; (with_reducible refine (I.go _).mono ?_); rintro _ _ ⟨nn, rfl, rfl⟩) | (go_at_call 21; first | ((with_reducible refine (X.go _).mono ?_); rintro _ _ ⟨nn, rfl, rfl⟩) | ((with_reducible refine (Y.go _).mono ?_); rintro _ _ ⟨nn, rfl, rfl⟩)))
      go_roundw
      case rel => exact ⟨4, by go_num, by decide, by (repeat' (first | (with_reducible exact Below.refl _ _) | (with_reducible assumption) | (with_reducible refine Later.belowOf _ ?_ ?_) | (with_reducible refine Below.alloc ?_ ?_ _) | (with_reducible refine Below.setCell ?_ ?_ _) | (with_reducible refine Below.drewN' _ ?_) | (with_reducible refine Below.drew ?_) | (with_reducible exact Ge.le) | go_size))⟩
      case measure => simp [intOf]
    · have I := HI.out.2.2.2.2.1
      have X := HX.out.2.2.2.2.1
      have Y := HY.out.2.2.2.2.1
      have c0 : wr.cell? ⟨n.val.heap.size, 16, none⟩ = some (.float .f64 p4) := cellBelow hbel (by simp [go_sem])
      have c1 : wr.cell? ⟨n.val.heap.size, 17, none⟩ = some (.float .f64 q4) := cellBelow hbel (by simp [go_sem])
      have c2 : wr.cell? ⟨n.val.heap.size, 18, none⟩ = some (.float .f64 r4) := cellBelow hbel (by simp [go_sem])
      have c3 : wr.cell? ⟨n.val.heap.size, 19, none⟩ = some (.float .f64 s4) := cellBelow hbel (by simp [go_sem])
      go_wp2_with (first | (go_at_call 37; (with_reducible refine (I.go _).mono ?_); rintro _ _ ⟨nn, rfl, rfl⟩) | (go_at_call 21; first | ((with_reducible refine (X.go _).mono ?_); rintro _ _ ⟨nn, rfl, rfl⟩) | ((with_reducible refine (Y.go _).mono ?_); rintro _ _ ⟨nn, rfl, rfl⟩)))
      go_roundw
      case rel => exact ⟨5, by go_num, by decide, by (repeat' (first | (with_reducible exact Below.refl _ _) | (with_reducible assumption) | (with_reducible refine Later.belowOf _ ?_ ?_) | (with_reducible refine Below.alloc ?_ ?_ _) | (with_reducible refine Below.setCell ?_ ?_ _) | (with_reducible refine Below.drewN' _ ?_) | (with_reducible refine Below.drew ?_) | (with_reducible exact Ge.le) | go_size))⟩
      case measure => simp [intOf]
    · have I := HI.out.2.2.2.2.2.1
      have X := HX.out.2.2.2.2.2.1
      have Y := HY.out.2.2.2.2.2.1
      have c0 : wr.cell? ⟨n.val.heap.size, 20, none⟩ = some (.float .f64 p5) := cellBelow hbel (by simp [go_sem])
      have c1 : wr.cell? ⟨n.val.heap.size, 21, none⟩ = some (.float .f64 q5) := cellBelow hbel (by simp [go_sem])
      have c2 : wr.cell? ⟨n.val.heap.size, 22, none⟩ = some (.float .f64 r5) := cellBelow hbel (by simp [go_sem])
      have c3 : wr.cell? ⟨n.val.heap.size, 23, none⟩ = some (.float .f64 s5) := cellBelow hbel (by simp [go_sem])
      go_wp2_with (first | (go_at_call 37; (with_reducible refine (I.go _).mono ?_); rintro _ _ ⟨nn, rfl, rfl⟩) | (go_at_call 21; first | ((with_reducible refine (X.go _).mono ?_); rintro _ _ ⟨nn, rfl, rfl⟩) | ((with_reducible refine (Y.go _).mono ?_); rintro _ _ ⟨nn, rfl, rfl⟩)))
      go_roundw
      case rel => exact ⟨6, by go_num, by decide, by (repeat' (first | (with_reducible exact Below.refl _ _) | (with_reducible assumption) | (with_reducible refine Later.belowOf _ ?_ ?_) | (with_reducible refine Below.alloc ?_ ?_ _) | (with_reducible refine Below.setCell ?_ ?_ _) | (with_reducible refine Below.drewN' _ ?_) | (with_reducible refine Below.drew ?_) | (with_reducible exact Ge.le) | go_size))⟩
      case measure => simp [intOf]
    · have I := HI.out.2.2.2.2.2.2.1
      have X := HX.out.2.2.2.2.2.2.1
      have Y := HY.out.2.2.2.2.2.2.1
      have c0 : wr.cell? ⟨n.val.heap.size, 24, none⟩ = some (.float .f64 p6) := cellBelow hbel (by simp [go_sem])
      have c1 : wr.cell? ⟨n.val.heap.size, 25, none⟩ = some (.float .f64 q6) := cellBelow hbel (by simp [go_sem])
      have c2 : wr.cell? ⟨n.val.heap.size, 26, none⟩ = some (.float .f64 r6) := cellBelow hbel (by simp [go_sem])
      have c3 : wr.cell? ⟨n.val.heap.size, 27, none⟩ = some (.float .f64 s6) := cellBelow hbel (by simp [go_sem])
      go_wp2_with (first | (go_at_call 37; (with_reducible refine (I.go _).mono ?_); rintro _ _ ⟨nn, rfl, rfl⟩) | (go_at_call 21; first | ((with_reducible refine (X.go _).mono ?_); rintro _ _ ⟨nn, rfl, rfl⟩) | ((with_reducible refine (Y.go _).mono ?_); rintro _ _ ⟨nn, rfl, rfl⟩)))
      go_roundw
      case rel => exact ⟨7, by go_num, by decide, by (repeat' (first | (with_reducible exact Below.refl _ _) | (with_reducible assumption) | (with_reducible refine Later.belowOf _ ?_ ?_) | (with_reducible refine Below.alloc ?_ ?_ _) | (with_reducible refine Below.setCell ?_ ?_ _) | (with_reducible refine Below.drewN' _ ?_) | (with_reducible refine Below.drew ?_) | (with_reducible exact Ge.le) | go_size))⟩
      case measure => simp [intOf]
    · have I := HI.out.2.2.2.2.2.2.2.1
      have X := HX.out.2.2.2.2.2.2.2.1
      have Y := HY.out.2.2.2.2.2.2.2.1
      have c0 : wr.cell? ⟨n.val.heap.size, 28, none⟩ = some (.float .f64 p7) := cellBelow hbel (by simp [go_sem])
      have c1 : wr.cell? ⟨n.val.heap.size, 29, none⟩ = some (.float .f64 q7) := cellBelow hbel (by simp [go_sem])
      have c2 : wr.cell? ⟨n.val.heap.size, 30, none⟩ = some (.float .f64 r7) := cellBelow hbel (by simp [go_sem])
      have c3 : wr.cell? ⟨n.val.heap.size, 31, none⟩ = some (.float .f64 s7) := cellBelow hbel (by simp [go_sem])
      go_wp2_with (first | (go_at_call 37; (with_reducible refine (I.go _).mono ?_); rintro _ _ ⟨nn, rfl, rfl⟩) | (go_at_call 21; first | ((with_reducible refine (X.go _).mono ?_); rintro _ _ ⟨nn, rfl, rfl⟩) | ((with_reducible refine (Y.go _).mono ?_); rintro _ _ ⟨nn, rfl, rfl⟩)))
      go_roundw
      case rel => exact ⟨8, by go_num, by decide, by (repeat' (first | (with_reducible exact Below.refl _ _) | (with_reducible assumption) | (with_reducible refine Later.belowOf _ ?_ ?_) | (with_reducible refine Below.alloc ?_ ?_ _) | (with_reducible refine Below.setCell ?_ ?_ _) | (with_reducible refine Below.drewN' _ ?_) | (with_reducible refine Below.drew ?_) | (with_reducible exact Ge.le) | go_size))⟩
      case measure => simp [intOf]
    · have I := HI.out.2.2.2.2.2.2.2.2
      have X := HX.out.2.2.2.2.2.2.2.2
      have Y := HY.out.2.2.2.2.2.2.2.2
      have c0 : wr.cell? ⟨n.val.heap.size, 32, none⟩ = some (.float .f64 p8) := cellBelow hbel (by simp [go_sem])
      have c1 : wr.cell? ⟨n.val.heap.size, 33, none⟩ = some (.float .f64 q8) := cellBelow hbel (by simp [go_sem])
      have c2 : wr.cell? ⟨n.val.heap.size, 34, none⟩ = some (.float .f64 r8) := cellBelow hbel (by simp [go_sem])
      have c3 : wr.cell? ⟨n.val.heap.size, 35, none⟩ = some (.float .f64 s8) := cellBelow hbel (by simp [go_sem])
      go_wp2_with (first | (go_at_call 37; (with_reducible refine (I.go _).mono ?_); rintro _ _ ⟨nn, rfl, rfl⟩) | (go_at_call 21; first | ((with_reducible refine (X.go _).mono ?_); rintro _ _ ⟨nn, rfl, rfl⟩) | ((with_reducible refine (Y.go _).mono ?_); rintro _ _ ⟨nn, rfl, rfl⟩)))
      go_roundw
      case rel => exact ⟨9, by go_num, by decide, by (repeat' (first | (with_reducible exact Below.refl _ _) | (with_reducible assumption) | (with_reducible refine Later.belowOf _ ?_ ?_) | (with_reducible refine Below.alloc ?_ ?_ _) | (with_reducible refine Below.setCell ?_ ?_ _) | (with_reducible refine Below.drewN' _ ?_) | (with_reducible refine Below.drew ?_) | (with_reducible exact Ge.le) | go_size))⟩
      case measure => simp [intOf]
    · obtain ⟨Z0, Z1, Z2, Z3, Z4, Z5, Z6, K1, K2, K3⟩ := HZ.out
      have x0 : wr.cell? ⟨w.heap.size, 0, none⟩ = some (.float .f64 a) := cellBelow hbel (by simp [go_sem])
      have x1 : wr.cell? ⟨w.heap.size, 1, none⟩ = some (.float .f64 b) := cellBelow hbel (by simp [go_sem])
      have x2 : wr.cell? ⟨nH.val.heap.size, 0, none⟩ = some (.float .f64 g) := cellBelow hbel (by simp [go_sem])
      have x3 : wr.cell? ⟨nH.val.heap.size, 1, none⟩ = some (.float .f64 h) := cellBelow hbel (by simp [go_sem])
      have hW : Below w.heap.size w (n.val.alloc (Obj.cells #[(.float .f64 p0), (.float .f64 q0), (.float .f64 r0), (.float .f64 s0), (.float .f64 p1), (.float .f64 q1), (.float .f64 r1), (.float .f64 s1), (.float .f64 p2), (.float .f64 q2), (.float .f64 r2), (.float .f64 s2), (.float .f64 p3), (.float .f64 q3), (.float .f64 r3), (.float .f64 s3), (.float .f64 p4), (.float .f64 q4), (.float .f64 r4), (.float .f64 s4), (.float .f64 p5), (.float .f64 q5), (.float .f64 r5), (.float .f64 s5), (.float .f64 p6), (.float .f64 q6), (.float .f64 r6), (.float .f64 s6), (.float .f64 p7), (.float .f64 q7), (.float .f64 r7), (.float .f64 s7), (.float .f64 p8), (.float .f64 q8), (.float .f64 r8), (.float .f64 s8)] 55)) := by (repeat' (first | (with_reducible exact Below.refl _ _) | (with_reducible assumption) | (with_reducible refine Later.belowOf _ ?_ ?_) | (with_reducible refine Below.alloc ?_ ?_ _) | (with_reducible refine Below.setCell ?_ ?_ _) | (with_reducible refine Below.drewN' _ ?_) | (with_reducible refine Below.drew ?_) | (with_reducible exact Ge.le) | go_size))
      have hw0 : Below w.heap.size w wr := hW.trans (hbel.mono hW.size)
      haveI gC : Ge wr w.heap.size := ⟨hw0.size⟩
      haveI gA : Ge wr (w.heap.size + 1) := ⟨World.block_lt_of_cell? wr _ x0⟩
      haveI gB : Ge wr (nH.val.heap.size + 1) := ⟨World.block_lt_of_cell? wr _ x2⟩
      go_wp2_with (fail)
      refine wp_region_later (by kernel_rfl) (by kernel_rfl) ?_
      repeat (go_big_quiet_step (first | (go_at_call 37; (with_reducible exact Z0.later _)) | (go_at_call 58; first | (with_reducible exact Z1.later _) | (with_reducible exact Z2.later _)) | (go_at_call 60; first | (with_reducible exact Z3.later _) | (with_reducible exact Z4.later _)) | (go_at_call 62; first | (with_reducible exact Z5.later _) | (with_reducible exact Z6.later _))))
      (refine wpQuiet_nil ?_; rintro _ ⟨nq, rfl⟩)
      go_wp2
      go_ret
      exact ⟨rfl, by (repeat' (first | (with_reducible exact Below.refl _ _) | (with_reducible assumption) | (with_reducible refine Later.belowOf _ ?_ ?_) | (with_reducible refine Below.alloc ?_ ?_ _) | (with_reducible refine Below.setCell ?_ ?_ _) | (with_reducible refine Below.drewN' _ ?_) | (with_reducible refine Below.drew ?_) | (with_reducible exact Ge.le) | go_size))⟩
end Go.Proofs.Ytjdccbigaahkeaa
