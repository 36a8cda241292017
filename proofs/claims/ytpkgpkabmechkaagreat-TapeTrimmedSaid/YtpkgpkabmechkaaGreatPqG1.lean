/- Contracts: tape.slope, kind by kind (printed by wip/genslope.py). -/
import Derived.Test.YtpkgpkabmechkaaGreatPqV9x
namespace Go.Proofs.YtpkgpkabmechkaaGreat
set_option linter.unusedSimpArgs false
set_option linter.unusedVariables false
open Go.RowKit
open Fl


theorem BoxO.alloc0 {w : World} {b : Nat} {K A B N : Int} {lo hi : Nat} (h : BoxO w b K A B N lo hi) (o : Obj) : BoxO (w.alloc o) b K A B N lo hi := h.below ((Below.refl _ _).alloc (Nat.le_refl _) _)

def Val1 (w : World) (x : Nat × Nat) (e : Ending) (w' : World) : Prop := ∃ n : Later w, e = .returned (.agg #[.float .f64 x.1, .float .f64 x.2]) ∧ w' = n.val
theorem val1_mk {w w' : World} {p q : Nat} {e : Ending} (he : e = .returned (.agg #[.float .f64 p, .float .f64 q])) (hb : Below w.heap.size w w') : Val1 w (p, q) e w' := ⟨⟨w', hb⟩, he, rfl⟩

/-- The world of a slope behind its head: the operation's block, the value's, the result's, the operands' and their slopes'. -/
structure VS (w W : World) (K A B N : Int) (lo hi : Nat) (v a b da db : Nat × Nat) : Prop where
  o : BoxO W w.heap.size K A B N lo hi
  v : Box W (w.heap.size + 1) v
  r : Box W (w.heap.size + 2) (0, 0)
  a : Box W (w.heap.size + 3) a
  b : Box W (w.heap.size + 4) b
  da : Box W (w.heap.size + 5) da
  db : Box W (w.heap.size + 6) db
  bel : Below w.heap.size w W
theorem vs_start (w : World) (K A B N : Int) (lo hi v1 v2 : Nat) : VS w (((((((w.alloc (Obj.cells #[.int .i64 K, .int .i64 A, .int .i64 B, .int .i64 N, (.float .f64 lo), (.float .f64 hi)] 66)).alloc (Obj.cells #[(.float .f64 v1), (.float .f64 v2)] 24)).alloc (Obj.cells #[(.float .f64 0), (.float .f64 0)] 24)).alloc (Obj.cells #[(.float .f64 0), (.float .f64 0)] 24)).alloc (Obj.cells #[(.float .f64 0), (.float .f64 0)] 24)).alloc (Obj.cells #[(.float .f64 0), (.float .f64 0)] 24)).alloc (Obj.cells #[(.float .f64 0), (.float .f64 0)] 24)) K A B N lo hi (v1, v2) (0, 0) (0, 0) (0, 0) (0, 0) := by
  have hop := BoxO.new w K A B N lo hi
  have e1 : (w.alloc (Obj.cells #[.int .i64 K, .int .i64 A, .int .i64 B, .int .i64 N, (.float .f64 lo), (.float .f64 hi)] 66)).heap.size = w.heap.size + 1 := by simp
  have b1 : Below w.heap.size w (w.alloc (Obj.cells #[.int .i64 K, .int .i64 A, .int .i64 B, .int .i64 N, (.float .f64 lo), (.float .f64 hi)] 66)) := by (repeat' first | (with_reducible first | exact Below.refl _ _ | assumption | refine Later.belowOf _ ?_ ?_ | refine Below.alloc ?_ ?_ _ | refine Below.setCell ?_ ?_ _ | refine Below.drewN' _ ?_ | refine Below.drew ?_ | exact Ge.le) | go_size)
  generalize w.alloc (Obj.cells #[.int .i64 K, .int .i64 A, .int .i64 B, .int .i64 N, (.float .f64 lo), (.float .f64 hi)] 66) = W1 at *
  have hv := Box.new W1 v1 v2
  have e2 : (W1.alloc (Obj.cells #[(.float .f64 v1), (.float .f64 v2)] 24)).heap.size = w.heap.size + 2 := by simp; omega
  have b2 : Below w.heap.size w (W1.alloc (Obj.cells #[(.float .f64 v1), (.float .f64 v2)] 24)) := b1.alloc (by omega) _
  replace hop := hop.below (w' := W1.alloc (Obj.cells #[(.float .f64 v1), (.float .f64 v2)] 24)) (by (repeat' first | (with_reducible first | exact Below.refl _ _ | assumption | refine Later.belowOf _ ?_ ?_ | refine Below.alloc ?_ ?_ _ | refine Below.setCell ?_ ?_ _ | refine Below.drewN' _ ?_ | refine Below.drew ?_ | exact Ge.le) | go_size))
  rw [e1] at hv
  generalize W1.alloc (Obj.cells #[(.float .f64 v1), (.float .f64 v2)] 24) = W2 at *
  have hr := Box.new W2 0 0
  have e3 : (W2.alloc (Obj.cells #[(.float .f64 0), (.float .f64 0)] 24)).heap.size = w.heap.size + 3 := by simp; omega
  have b3 : Below w.heap.size w (W2.alloc (Obj.cells #[(.float .f64 0), (.float .f64 0)] 24)) := b2.alloc (by omega) _
  replace hop := hop.alloc0 (Obj.cells #[(.float .f64 0), (.float .f64 0)] 24)
  replace hv := hv.alloc (Obj.cells #[(.float .f64 0), (.float .f64 0)] 24)
  rw [e2] at hr
  generalize W2.alloc (Obj.cells #[(.float .f64 0), (.float .f64 0)] 24) = W3 at *
  have ha := Box.new W3 0 0
  have e4 : (W3.alloc (Obj.cells #[(.float .f64 0), (.float .f64 0)] 24)).heap.size = w.heap.size + 4 := by simp; omega
  have b4 : Below w.heap.size w (W3.alloc (Obj.cells #[(.float .f64 0), (.float .f64 0)] 24)) := b3.alloc (by omega) _
  replace hop := hop.alloc0 (Obj.cells #[(.float .f64 0), (.float .f64 0)] 24)
  replace hv := hv.alloc (Obj.cells #[(.float .f64 0), (.float .f64 0)] 24)
  replace hr := hr.alloc (Obj.cells #[(.float .f64 0), (.float .f64 0)] 24)
  rw [e3] at ha
  generalize W3.alloc (Obj.cells #[(.float .f64 0), (.float .f64 0)] 24) = W4 at *
  have hb := Box.new W4 0 0
  have e5 : (W4.alloc (Obj.cells #[(.float .f64 0), (.float .f64 0)] 24)).heap.size = w.heap.size + 5 := by simp; omega
  have b5 : Below w.heap.size w (W4.alloc (Obj.cells #[(.float .f64 0), (.float .f64 0)] 24)) := b4.alloc (by omega) _
  replace hop := hop.alloc0 (Obj.cells #[(.float .f64 0), (.float .f64 0)] 24)
  replace hv := hv.alloc (Obj.cells #[(.float .f64 0), (.float .f64 0)] 24)
  replace hr := hr.alloc (Obj.cells #[(.float .f64 0), (.float .f64 0)] 24)
  replace ha := ha.alloc (Obj.cells #[(.float .f64 0), (.float .f64 0)] 24)
  rw [e4] at hb
  generalize W4.alloc (Obj.cells #[(.float .f64 0), (.float .f64 0)] 24) = W5 at *
  have hda := Box.new W5 0 0
  have e6 : (W5.alloc (Obj.cells #[(.float .f64 0), (.float .f64 0)] 24)).heap.size = w.heap.size + 6 := by simp; omega
  have b6 : Below w.heap.size w (W5.alloc (Obj.cells #[(.float .f64 0), (.float .f64 0)] 24)) := b5.alloc (by omega) _
  replace hop := hop.alloc0 (Obj.cells #[(.float .f64 0), (.float .f64 0)] 24)
  replace hv := hv.alloc (Obj.cells #[(.float .f64 0), (.float .f64 0)] 24)
  replace hr := hr.alloc (Obj.cells #[(.float .f64 0), (.float .f64 0)] 24)
  replace ha := ha.alloc (Obj.cells #[(.float .f64 0), (.float .f64 0)] 24)
  replace hb := hb.alloc (Obj.cells #[(.float .f64 0), (.float .f64 0)] 24)
  rw [e5] at hda
  generalize W5.alloc (Obj.cells #[(.float .f64 0), (.float .f64 0)] 24) = W6 at *
  have hdb := Box.new W6 0 0
  rw [e6] at hdb
  exact ⟨hop.alloc0 _, hv.alloc _, hr.alloc _, ha.alloc _, hb.alloc _, hda.alloc _, hdb, b6.alloc (by omega) _⟩
namespace VS
variable {w W : World} {K A B N : Int} {lo hi : Nat} {v a b da db : Nat × Nat}
theorem later (h : VS w W K A B N lo hi v a b da db) (n : Later W) : VS w n.val K A B N lo hi v a b da db :=
  ⟨h.o.later n, h.v.later n, h.r.later n, h.a.later n, h.b.later n, h.da.later n, h.db.later n, h.bel.trans (n.below.mono h.bel.size)⟩
theorem setA (h : VS w W K A B N lo hi v a b da db) (p q : Nat) : VS w ((W.setCell ⟨w.heap.size + 3, 0, none⟩ (.float .f64 p)).setCell ⟨w.heap.size + 3, 1, none⟩ (.float .f64 q)) K A B N lo hi v (p, q) b da db :=
  ⟨(h.o.set_other _ (by show w.heap.size + 3 ≠ _; omega)).set_other _ (by show w.heap.size + 3 ≠ _; omega), (h.v.set_other _ (by show w.heap.size + 3 ≠ _; omega)).set_other _ (by show w.heap.size + 3 ≠ _; omega), (h.r.set_other _ (by show w.heap.size + 3 ≠ _; omega)).set_other _ (by show w.heap.size + 3 ≠ _; omega), h.a.set _ _, (h.b.set_other _ (by show w.heap.size + 3 ≠ _; omega)).set_other _ (by show w.heap.size + 3 ≠ _; omega), (h.da.set_other _ (by show w.heap.size + 3 ≠ _; omega)).set_other _ (by show w.heap.size + 3 ≠ _; omega), (h.db.set_other _ (by show w.heap.size + 3 ≠ _; omega)).set_other _ (by show w.heap.size + 3 ≠ _; omega), (h.bel.setCell (by show w.heap.size ≤ w.heap.size + 3; omega) _).setCell (by show w.heap.size ≤ w.heap.size + 3; omega) _⟩
theorem setB (h : VS w W K A B N lo hi v a b da db) (p q : Nat) : VS w ((W.setCell ⟨w.heap.size + 4, 0, none⟩ (.float .f64 p)).setCell ⟨w.heap.size + 4, 1, none⟩ (.float .f64 q)) K A B N lo hi v a (p, q) da db :=
  ⟨(h.o.set_other _ (by show w.heap.size + 4 ≠ _; omega)).set_other _ (by show w.heap.size + 4 ≠ _; omega), (h.v.set_other _ (by show w.heap.size + 4 ≠ _; omega)).set_other _ (by show w.heap.size + 4 ≠ _; omega), (h.r.set_other _ (by show w.heap.size + 4 ≠ _; omega)).set_other _ (by show w.heap.size + 4 ≠ _; omega), (h.a.set_other _ (by show w.heap.size + 4 ≠ _; omega)).set_other _ (by show w.heap.size + 4 ≠ _; omega), h.b.set _ _, (h.da.set_other _ (by show w.heap.size + 4 ≠ _; omega)).set_other _ (by show w.heap.size + 4 ≠ _; omega), (h.db.set_other _ (by show w.heap.size + 4 ≠ _; omega)).set_other _ (by show w.heap.size + 4 ≠ _; omega), (h.bel.setCell (by show w.heap.size ≤ w.heap.size + 4; omega) _).setCell (by show w.heap.size ≤ w.heap.size + 4; omega) _⟩
theorem setDA (h : VS w W K A B N lo hi v a b da db) (p q : Nat) : VS w ((W.setCell ⟨w.heap.size + 5, 0, none⟩ (.float .f64 p)).setCell ⟨w.heap.size + 5, 1, none⟩ (.float .f64 q)) K A B N lo hi v a b (p, q) db :=
  ⟨(h.o.set_other _ (by show w.heap.size + 5 ≠ _; omega)).set_other _ (by show w.heap.size + 5 ≠ _; omega), (h.v.set_other _ (by show w.heap.size + 5 ≠ _; omega)).set_other _ (by show w.heap.size + 5 ≠ _; omega), (h.r.set_other _ (by show w.heap.size + 5 ≠ _; omega)).set_other _ (by show w.heap.size + 5 ≠ _; omega), (h.a.set_other _ (by show w.heap.size + 5 ≠ _; omega)).set_other _ (by show w.heap.size + 5 ≠ _; omega), (h.b.set_other _ (by show w.heap.size + 5 ≠ _; omega)).set_other _ (by show w.heap.size + 5 ≠ _; omega), h.da.set _ _, (h.db.set_other _ (by show w.heap.size + 5 ≠ _; omega)).set_other _ (by show w.heap.size + 5 ≠ _; omega), (h.bel.setCell (by show w.heap.size ≤ w.heap.size + 5; omega) _).setCell (by show w.heap.size ≤ w.heap.size + 5; omega) _⟩
theorem setDB (h : VS w W K A B N lo hi v a b da db) (p q : Nat) : VS w ((W.setCell ⟨w.heap.size + 6, 0, none⟩ (.float .f64 p)).setCell ⟨w.heap.size + 6, 1, none⟩ (.float .f64 q)) K A B N lo hi v a b da (p, q) :=
  ⟨(h.o.set_other _ (by show w.heap.size + 6 ≠ _; omega)).set_other _ (by show w.heap.size + 6 ≠ _; omega), (h.v.set_other _ (by show w.heap.size + 6 ≠ _; omega)).set_other _ (by show w.heap.size + 6 ≠ _; omega), (h.r.set_other _ (by show w.heap.size + 6 ≠ _; omega)).set_other _ (by show w.heap.size + 6 ≠ _; omega), (h.a.set_other _ (by show w.heap.size + 6 ≠ _; omega)).set_other _ (by show w.heap.size + 6 ≠ _; omega), (h.b.set_other _ (by show w.heap.size + 6 ≠ _; omega)).set_other _ (by show w.heap.size + 6 ≠ _; omega), (h.da.set_other _ (by show w.heap.size + 6 ≠ _; omega)).set_other _ (by show w.heap.size + 6 ≠ _; omega), h.db.set _ _, (h.bel.setCell (by show w.heap.size ≤ w.heap.size + 6; omega) _).setCell (by show w.heap.size ≤ w.heap.size + 6; omega) _⟩
theorem drew (h : VS w W K A B N lo hi v a b da db) : VS w W.drew K A B N lo hi v a b da db :=
  ⟨⟨h.o.blk⟩, ⟨h.v.blk⟩, ⟨h.r.blk⟩, ⟨h.a.blk⟩, ⟨h.b.blk⟩, ⟨h.da.blk⟩, ⟨h.db.blk⟩, h.bel.drew⟩
end VS

/-- An operation's slope by a variable. -/
def slopeY (K N j : Int) (v a b da db : Nat × Nat) : Nat × Nat :=
  if K = 2 then (if N = j then wholeP 1 else wholeP 0)
  else if K = 3 then addP da db
  else if K = 4 then subP da db
  else if K = 5 then addP (mulP da b) (mulP a db)
  else if K = 6 then divP (subP da (mulP v db)) b
  else if K = 7 then negP da
  else if K = 8 then (if N = 0 then wholeP 0 else mulP (mulP (wholeP N) (powsP a (N - 1))) da)
  else if K = 9 then divP da (mulP (wholeP 2) v)
  else if K = 10 then mulP v da
  else if K = 11 then divP da a
  else if K = 12 then mulP (roundP a 1) da
  else if K = 13 then negP (mulP (roundP a 0) da)
  else if K = 14 then divP da (addP (wholeP 1) (sqrP a))
  else wholeP 0

set_option maxHeartbeats 400000 in
theorem tpoint_c (n : Int) : Gives 171 #[.int .i64 n] (.agg #[.float .f64 ((wholeP n).1), .float .f64 ((wholeP n).2)]) := by
  intro w
  have P := ptC (ofI_lt n)
  unfold wholeP
  change Gives _ _ (.agg #[.float .f64 ((ptP (floatOfInt .f64 n)).1), .float .f64 ((ptP (floatOfInt .f64 n)).2)]) at P
  generalize ptP (floatOfInt .f64 n) = r at *
  go_enter Tryz.func171, Tryz.ntmps171
  go_wp2_with (go_at_call 139; (with_reducible refine (P.go _).mono ?_); rintro _ _ ⟨nn, rfl, rfl⟩)
  go_returns
  exact ⟨rfl, by (repeat' first | (with_reducible first | exact Below.refl _ _ | assumption | refine Later.belowOf _ ?_ ?_ | refine Below.alloc ?_ ?_ _ | refine Below.setCell ?_ ?_ _ | refine Below.drewN' _ ?_ | refine Below.drew ?_ | exact Ge.le) | go_size)⟩

set_option maxHeartbeats 4000000 in
set_option maxRecDepth 100000 in
theorem tslope_none (w : World) (K N : Int) (hK : K = 1 ∨ K = 2) (A B : Int) (v1 v2 lo hi j m : Nat) (vv vd : Value) (lv : Lt (v1, v2)) (hN1 : K = 8 → -64 ≤ N) (hN2 : K = 8 → N ≤ 64) :
    Calls Tryz.prog 92 #[(.agg #[.int .i64 K, .int .i64 A, .int .i64 B, .int .i64 N, .float .f64 lo, .float .f64 hi]), .int .i64 j, (.agg #[.float .f64 v1, .float .f64 v2]), vv, vd] w (Val1 w (slopeY K N j (v1, v2) (0, 0) (0, 0) (0, 0) (0, 0))) := by
  have hn := needs_any K
  rw [show needI K = 0 by (have h := hK; unfold needI; rcases h with rfl | rfl <;> rfl)] at hn
  have HK := Lib.hid (show _ ∧ _ ∧ _ from ⟨hK, hN1, hN2⟩)
  clear hK hN1 hN2
  go_enter Tryz.func92, Tryz.ntmps92
  go_upto_region 8 with (go_at_call 113; (with_reducible refine (hn.go _).mono ?_); rintro _ _ ⟨n, rfl, rfl⟩)
  have h0 := (vs_start w K (A) (B) N lo hi v1 v2).later n
  refine cut_world (fun W hW => ?_)
  have h := h0
  rw [hW] at h
  clear hW h0
  haveI g0 : Ge W (w.heap.size + 1) := ⟨h.o.lt⟩
  haveI g1 : Ge W (w.heap.size + 1 + 1) := ⟨h.v.lt⟩
  haveI g2 : Ge W (w.heap.size + 2 + 1) := ⟨h.r.lt⟩
  haveI g3 : Ge W (w.heap.size + 3 + 1) := ⟨h.a.lt⟩
  haveI g4 : Ge W (w.heap.size + 4 + 1) := ⟨h.b.lt⟩
  haveI g5 : Ge W (w.heap.size + 5 + 1) := ⟨h.da.lt⟩
  haveI g6 : Ge W (w.heap.size + 6 + 1) := ⟨h.db.lt⟩
  haveI g7 : Ge W w.heap.size := ⟨h.bel.size⟩
  have k0 := h.o.c0
  have k1 := h.o.c1
  have k2 := h.o.c2
  have k3 := h.o.c3
  clear hn
  have xv0 := h.v.c0
  have xv1 := h.v.c1
  have xa0 := h.a.c0
  have xa1 := h.a.c1
  have xb0 := h.b.c0
  have xb1 := h.b.c1
  have xda0 := h.da.c0
  have xda1 := h.da.c1
  have xdb0 := h.db.c0
  have xdb1 := h.db.c1
  have fr0 := h.r.f0
  have fr1 := h.r.f1
  have xr0 := h.r.c0
  have xr1 := h.r.c1
  have hb := h.bel
  obtain ⟨hK, hN1, hN2⟩ := HK.out
  clear HK
  rcases hK with rfl | rfl
  · have Q := tpoint_c 0
    have e0 : slopeY 1 N j (v1, v2) (0, 0) (0, 0) (0, 0) (0, 0) = wholeP 0 := rfl
    generalize slopeY 1 N j (v1, v2) (0, 0) (0, 0) (0, 0) (0, 0) = r at *
    rw [← e0] at Q
    clear e0
    obtain ⟨r1, r2⟩ := r
    simp only at *
    clear lv
    go_wp2_with (first | (go_at_call 171; (with_reducible refine (Q.go _).mono ?_); rintro _ _ ⟨nn, rfl, rfl⟩))
    have bz := h.r.below (w' := nn.val) (by (repeat' first | (with_reducible first | exact Below.refl _ _ | assumption | refine Later.belowOf _ ?_ ?_ | refine Below.alloc ?_ ?_ _ | refine Below.setCell ?_ ?_ _ | refine Below.drewN' _ ?_ | refine Below.drew ?_ | exact Ge.le) | go_size))
    exact bodyPost_ret (v := (.agg #[.float .f64 r1, .float .f64 r2])) (by simp [results, Tryz.results92, go_sem, bz.set0, bz.set1]) rfl (val1_mk rfl (by (repeat' first | (with_reducible first | exact Below.refl _ _ | assumption | refine Later.belowOf _ ?_ ?_ | refine Below.alloc ?_ ?_ _ | refine Below.setCell ?_ ?_ _ | refine Below.drewN' _ ?_ | refine Below.drew ?_ | exact Ge.le) | go_size)))
  · by_cases hne : N = (j : Int)
    · subst hne
      have Q := tpoint_c 1
      have e0 : slopeY 2 j j (v1, v2) (0, 0) (0, 0) (0, 0) (0, 0) = wholeP 1 := (by unfold slopeY; simp)
      generalize slopeY 2 j j (v1, v2) (0, 0) (0, 0) (0, 0) (0, 0) = r at *
      rw [← e0] at Q
      clear e0
      obtain ⟨r1, r2⟩ := r
      simp only at *
      clear lv
      go_wp2_with (first | (go_at_call 171; (with_reducible refine (Q.go _).mono ?_); rintro _ _ ⟨nn, rfl, rfl⟩))
      have bz := h.r.below (w' := nn.val) (by (repeat' first | (with_reducible first | exact Below.refl _ _ | assumption | refine Later.belowOf _ ?_ ?_ | refine Below.alloc ?_ ?_ _ | refine Below.setCell ?_ ?_ _ | refine Below.drewN' _ ?_ | refine Below.drew ?_ | exact Ge.le) | go_size))
      exact bodyPost_ret (v := (.agg #[.float .f64 r1, .float .f64 r2])) (by simp [results, Tryz.results92, go_sem, bz.set0, bz.set1]) rfl (val1_mk rfl (by (repeat' first | (with_reducible first | exact Below.refl _ _ | assumption | refine Later.belowOf _ ?_ ?_ | refine Below.alloc ?_ ?_ _ | refine Below.setCell ?_ ?_ _ | refine Below.drewN' _ ?_ | refine Below.drew ?_ | exact Ge.le) | go_size)))
    · have hd : (N == (j : Int)) = false := by simpa using hne
      have Q := tpoint_c 0
      have e0 : slopeY 2 N j (v1, v2) (0, 0) (0, 0) (0, 0) (0, 0) = wholeP 0 := by unfold slopeY; simp [hne]
      generalize slopeY 2 N j (v1, v2) (0, 0) (0, 0) (0, 0) (0, 0) = r at *
      rw [← e0] at Q
      clear e0
      obtain ⟨r1, r2⟩ := r
      simp only at *
      clear lv
      go_wp2_with (first | (go_at_call 171; (with_reducible refine (Q.go _).mono ?_); rintro _ _ ⟨nn, rfl, rfl⟩))
      have bz := h.r.below (w' := nn.val) (by (repeat' first | (with_reducible first | exact Below.refl _ _ | assumption | refine Later.belowOf _ ?_ ?_ | refine Below.alloc ?_ ?_ _ | refine Below.setCell ?_ ?_ _ | refine Below.drewN' _ ?_ | refine Below.drew ?_ | exact Ge.le) | go_size))
      exact bodyPost_ret (v := (.agg #[.float .f64 r1, .float .f64 r2])) (by simp [results, Tryz.results92, go_sem, bz.set0, bz.set1]) rfl (val1_mk rfl (by (repeat' first | (with_reducible first | exact Below.refl _ _ | assumption | refine Later.belowOf _ ?_ ?_ | refine Below.alloc ?_ ?_ _ | refine Below.setCell ?_ ?_ _ | refine Below.drewN' _ ?_ | refine Below.drew ?_ | exact Ge.le) | go_size)))

set_option maxHeartbeats 4000000 in
set_option maxRecDepth 100000 in
theorem tslope_two (w : World) (K N : Int) (hK : K = 3 ∨ K = 4 ∨ K = 5 ∨ K = 6) (v1 v2 lo hi j m : Nat) (bv ov cv nv bd od cd nd a1 a2 da1 da2 ia bra ora cra b1 b2 db1 db2 ib brb orb crb : Nat) (hj : j < m) (ha : ia < nv) (ca0 : w.cell? ⟨bv, ov + ia * 2, none⟩ = some (.float .f64 a1)) (ca1 : w.cell? ⟨bv, ov + ia * 2 + 1, none⟩ = some (.float .f64 a2)) (ea : ia < nd) (da : w.cell? ⟨bd, od + ia, none⟩ = some (.slice (some ⟨bra, ora, none⟩) m cra)) (ca2 : w.cell? ⟨bra, ora + j * 2, none⟩ = some (.float .f64 da1)) (ca3 : w.cell? ⟨bra, ora + j * 2 + 1, none⟩ = some (.float .f64 da2)) (la : Lt (a1, a2)) (lda : Lt (da1, da2)) (hb : ib < nv) (cb0 : w.cell? ⟨bv, ov + ib * 2, none⟩ = some (.float .f64 b1)) (cb1 : w.cell? ⟨bv, ov + ib * 2 + 1, none⟩ = some (.float .f64 b2)) (eb : ib < nd) (db : w.cell? ⟨bd, od + ib, none⟩ = some (.slice (some ⟨brb, orb, none⟩) m crb)) (cb2 : w.cell? ⟨brb, orb + j * 2, none⟩ = some (.float .f64 db1)) (cb3 : w.cell? ⟨brb, orb + j * 2 + 1, none⟩ = some (.float .f64 db2)) (lb : Lt (b1, b2)) (ldb : Lt (db1, db2)) (lv : Lt (v1, v2)) (hN1 : K = 8 → -64 ≤ N) (hN2 : K = 8 → N ≤ 64) :
    Calls Tryz.prog 92 #[(.agg #[.int .i64 K, .int .i64 ia, .int .i64 ib, .int .i64 N, .float .f64 lo, .float .f64 hi]), .int .i64 j, (.agg #[.float .f64 v1, .float .f64 v2]), .slice (some ⟨bv, ov, none⟩) nv cv, .slice (some ⟨bd, od, none⟩) nd cd] w (Val1 w (slopeY K N j (v1, v2) (a1, a2) (b1, b2) (da1, da2) (db1, db2))) := by
  have hn := needs_any K
  rw [show needI K = 2 by (have h := hK; unfold needI; rcases h with rfl | rfl | rfl | rfl <;> rfl)] at hn
  have j0 : (0 : Int) ≤ (j : Int) := by omega
  have j1 : (j : Int) < (m : Int) := by omega
  have ia0 : (0 : Int) ≤ (ia : Int) := by omega
  have ia1 : (ia : Int) < (nv : Int) := by omega
  have ia2 : (ia : Int) < (nd : Int) := by omega
  have ib0 : (0 : Int) ≤ (ib : Int) := by omega
  have ib1 : (ib : Int) < (nv : Int) := by omega
  have ib2 : (ib : Int) < (nd : Int) := by omega
  have HK := Lib.hid (show _ ∧ _ ∧ _ from ⟨hK, hN1, hN2⟩)
  clear hK hN1 hN2
  go_enter Tryz.func92, Tryz.ntmps92
  go_upto_region 5 with (go_at_call 113; (with_reducible refine (hn.go _).mono ?_); rintro _ _ ⟨n, rfl, rfl⟩)
  have h0 := (vs_start w K (ia) (ib) N lo hi v1 v2).later n
  refine cut_world (fun W hW => ?_)
  have h := h0
  rw [hW] at h
  clear hW h0
  haveI g0 : Ge W (w.heap.size + 1) := ⟨h.o.lt⟩
  haveI g1 : Ge W (w.heap.size + 1 + 1) := ⟨h.v.lt⟩
  haveI g2 : Ge W (w.heap.size + 2 + 1) := ⟨h.r.lt⟩
  haveI g3 : Ge W (w.heap.size + 3 + 1) := ⟨h.a.lt⟩
  haveI g4 : Ge W (w.heap.size + 4 + 1) := ⟨h.b.lt⟩
  haveI g5 : Ge W (w.heap.size + 5 + 1) := ⟨h.da.lt⟩
  haveI g6 : Ge W (w.heap.size + 6 + 1) := ⟨h.db.lt⟩
  haveI g7 : Ge W w.heap.size := ⟨h.bel.size⟩
  have k0 := h.o.c0
  have k1 := h.o.c1
  have k2 := h.o.c2
  have k3 := h.o.c3
  have y0 := cellBelow h.bel ca0
  have y1 := cellBelow h.bel ca1
  have y2 := cellBelow h.bel da
  have y3 := cellBelow h.bel ca2
  have y4 := cellBelow h.bel ca3
  have qv := World.block_lt_of_cell? w _ ca0
  have qd := World.block_lt_of_cell? w _ da
  have qr := World.block_lt_of_cell? w _ ca2
  simp only at qv qd qr
  haveI gv : Ge W (bv + 1) := ⟨World.block_lt_of_cell? W _ y0⟩
  haveI gd : Ge W (bd + 1) := ⟨World.block_lt_of_cell? W _ y2⟩
  haveI gr : Ge W (bra + 1) := ⟨World.block_lt_of_cell? W _ y3⟩
  have fa0 := h.a.f0
  have xa0 := h.a.c0
  have fa1 := h.a.f1
  have xa1 := h.a.c1
  have fda0 := h.da.f0
  have xda0 := h.da.c0
  have fda1 := h.da.f1
  have xda1 := h.da.c1
  go_wp2_with (fail)
  go_region
  go_upto_region 6 with (fail)
  have h0 := ((h.setA a1 a2).setDA da1 da2).drew
  clear g0 g1 g2 g3 g4 g5 g6 g7 k0 k1 k2 k3 gv gd gr y0 y1 y2 y3 y4 qv qd qr h fa0 xa0 fa1 xa1 fda0 xda0 fda1 xda1
  refine cut_world (fun W1 hW => ?_)
  have h : VS w W1 K (ia) (ib) N lo hi (v1, v2) (a1, a2) (0, 0) (da1, da2) (0, 0) := by rw [← hW]; exact h0
  clear hW h0
  haveI g0 : Ge W1 (w.heap.size + 1) := ⟨h.o.lt⟩
  haveI g1 : Ge W1 (w.heap.size + 1 + 1) := ⟨h.v.lt⟩
  haveI g2 : Ge W1 (w.heap.size + 2 + 1) := ⟨h.r.lt⟩
  haveI g3 : Ge W1 (w.heap.size + 3 + 1) := ⟨h.a.lt⟩
  haveI g4 : Ge W1 (w.heap.size + 4 + 1) := ⟨h.b.lt⟩
  haveI g5 : Ge W1 (w.heap.size + 5 + 1) := ⟨h.da.lt⟩
  haveI g6 : Ge W1 (w.heap.size + 6 + 1) := ⟨h.db.lt⟩
  haveI g7 : Ge W1 w.heap.size := ⟨h.bel.size⟩
  have k0 := h.o.c0
  have k1 := h.o.c1
  have k2 := h.o.c2
  have k3 := h.o.c3
  go_upto_region 7 with (fail)
  have y0 := cellBelow h.bel cb0
  have y1 := cellBelow h.bel cb1
  have y2 := cellBelow h.bel db
  have y3 := cellBelow h.bel cb2
  have y4 := cellBelow h.bel cb3
  have qv := World.block_lt_of_cell? w _ cb0
  have qd := World.block_lt_of_cell? w _ db
  have qr := World.block_lt_of_cell? w _ cb2
  simp only at qv qd qr
  haveI gv : Ge W1 (bv + 1) := ⟨World.block_lt_of_cell? W1 _ y0⟩
  haveI gd : Ge W1 (bd + 1) := ⟨World.block_lt_of_cell? W1 _ y2⟩
  haveI gr : Ge W1 (brb + 1) := ⟨World.block_lt_of_cell? W1 _ y3⟩
  have fb0 := h.b.f0
  have xb0 := h.b.c0
  have fb1 := h.b.f1
  have xb1 := h.b.c1
  have fdb0 := h.db.f0
  have xdb0 := h.db.c0
  have fdb1 := h.db.f1
  have xdb1 := h.db.c1
  go_wp2_with (fail)
  go_region
  go_upto_region 8 with (fail)
  have h0 := ((h.setB b1 b2).setDB db1 db2).drew
  clear g0 g1 g2 g3 g4 g5 g6 g7 k0 k1 k2 k3 gv gd gr y0 y1 y2 y3 y4 qv qd qr h fb0 xb0 fb1 xb1 fdb0 xdb0 fdb1 xdb1
  refine cut_world (fun W3 hW => ?_)
  have h : VS w W3 K (ia) (ib) N lo hi (v1, v2) (a1, a2) (b1, b2) (da1, da2) (db1, db2) := by rw [← hW]; exact h0
  clear hW h0
  haveI g0 : Ge W3 (w.heap.size + 1) := ⟨h.o.lt⟩
  haveI g1 : Ge W3 (w.heap.size + 1 + 1) := ⟨h.v.lt⟩
  haveI g2 : Ge W3 (w.heap.size + 2 + 1) := ⟨h.r.lt⟩
  haveI g3 : Ge W3 (w.heap.size + 3 + 1) := ⟨h.a.lt⟩
  haveI g4 : Ge W3 (w.heap.size + 4 + 1) := ⟨h.b.lt⟩
  haveI g5 : Ge W3 (w.heap.size + 5 + 1) := ⟨h.da.lt⟩
  haveI g6 : Ge W3 (w.heap.size + 6 + 1) := ⟨h.db.lt⟩
  haveI g7 : Ge W3 w.heap.size := ⟨h.bel.size⟩
  have k0 := h.o.c0
  have k1 := h.o.c1
  have k2 := h.o.c2
  have k3 := h.o.c3
  clear hn
  clear ha ca0 ca1 ea da ca2 ca3 ia0 ia1 ia2
  clear hb cb0 cb1 eb db cb2 cb3 ib0 ib1 ib2
  have xv0 := h.v.c0
  have xv1 := h.v.c1
  have xa0 := h.a.c0
  have xa1 := h.a.c1
  have xb0 := h.b.c0
  have xb1 := h.b.c1
  have xda0 := h.da.c0
  have xda1 := h.da.c1
  have xdb0 := h.db.c0
  have xdb1 := h.db.c1
  have fr0 := h.r.f0
  have fr1 := h.r.f1
  have xr0 := h.r.c0
  have xr1 := h.r.c1
  have hb := h.bel
  obtain ⟨hK, hN1, hN2⟩ := HK.out
  clear HK
  rcases hK with rfl | rfl | rfl | rfl
  · have S := addC lda ldb
    have e0 : slopeY 3 N j (v1, v2) (a1, a2) (b1, b2) (da1, da2) (db1, db2) = addP (da1, da2) (db1, db2) := rfl
    generalize slopeY 3 N j (v1, v2) (a1, a2) (b1, b2) (da1, da2) (db1, db2) = r at *
    rw [← e0] at S
    clear e0
    obtain ⟨r1, r2⟩ := r
    simp only at *
    clear lv la lb lda ldb
    go_wp2_with (first | (go_at_call 80; (with_reducible refine (S.go _).mono ?_); rintro _ _ ⟨nn, rfl, rfl⟩))
    have bz := h.r.below (w' := nn.val) (by (repeat' first | (with_reducible first | exact Below.refl _ _ | assumption | refine Later.belowOf _ ?_ ?_ | refine Below.alloc ?_ ?_ _ | refine Below.setCell ?_ ?_ _ | refine Below.drewN' _ ?_ | refine Below.drew ?_ | exact Ge.le) | go_size))
    exact bodyPost_ret (v := (.agg #[.float .f64 r1, .float .f64 r2])) (by simp [results, Tryz.results92, go_sem, bz.set0, bz.set1]) rfl (val1_mk rfl (by (repeat' first | (with_reducible first | exact Below.refl _ _ | assumption | refine Later.belowOf _ ?_ ?_ | refine Below.alloc ?_ ?_ _ | refine Below.setCell ?_ ?_ _ | refine Below.drewN' _ ?_ | refine Below.drew ?_ | exact Ge.le) | go_size)))
  · have S := subC lda ldb
    have e0 : slopeY 4 N j (v1, v2) (a1, a2) (b1, b2) (da1, da2) (db1, db2) = subP (da1, da2) (db1, db2) := rfl
    generalize slopeY 4 N j (v1, v2) (a1, a2) (b1, b2) (da1, da2) (db1, db2) = r at *
    rw [← e0] at S
    clear e0
    obtain ⟨r1, r2⟩ := r
    simp only at *
    clear lv la lb lda ldb
    go_wp2_with (first | (go_at_call 75; (with_reducible refine (S.go _).mono ?_); rintro _ _ ⟨nn, rfl, rfl⟩))
    have bz := h.r.below (w' := nn.val) (by (repeat' first | (with_reducible first | exact Below.refl _ _ | assumption | refine Later.belowOf _ ?_ ?_ | refine Below.alloc ?_ ?_ _ | refine Below.setCell ?_ ?_ _ | refine Below.drewN' _ ?_ | refine Below.drew ?_ | exact Ge.le) | go_size))
    exact bodyPost_ret (v := (.agg #[.float .f64 r1, .float .f64 r2])) (by simp [results, Tryz.results92, go_sem, bz.set0, bz.set1]) rfl (val1_mk rfl (by (repeat' first | (with_reducible first | exact Below.refl _ _ | assumption | refine Later.belowOf _ ?_ ?_ | refine Below.alloc ?_ ?_ _ | refine Below.setCell ?_ ?_ _ | refine Below.drewN' _ ?_ | refine Below.drew ?_ | exact Ge.le) | go_size)))
  · have M1 := mulC lda lb
    have M2 := mulC la ldb
    have S := addC (lt_mul lda lb) (lt_mul la ldb)
    have e0 : slopeY 5 N j (v1, v2) (a1, a2) (b1, b2) (da1, da2) (db1, db2) = addP (mulP (da1, da2) (b1, b2)) (mulP (a1, a2) (db1, db2)) := rfl
    generalize slopeY 5 N j (v1, v2) (a1, a2) (b1, b2) (da1, da2) (db1, db2) = r at *
    rw [← e0] at S
    clear e0
    generalize mulP (da1, da2) (b1, b2) = p at *
    generalize mulP (a1, a2) (db1, db2) = q at *
    obtain ⟨r1, r2⟩ := r
    obtain ⟨p1, p2⟩ := p
    obtain ⟨q1, q2⟩ := q
    simp only at *
    clear lv la lb lda ldb
    go_wp2_with (fail)
    (refine wp_region_tail_later 7 (by kernel_rfl) (by kernel_rfl) ?_; simp only [List.take_succ_cons, List.take_zero, List.drop_succ_cons, List.drop_zero])
    repeat (go_big_quiet_step (first | (go_at_call 80; (with_reducible exact S.later _)) | (go_at_call 140; (with_reducible exact M1.later _)) | (go_at_call 140; (with_reducible exact M2.later _))))
    (refine wpQuiet_nil ?_; rintro _ ⟨nq, rfl⟩)
    have bz := h.r.below (w' := nq.val) (by (repeat' first | (with_reducible first | exact Below.refl _ _ | assumption | refine Later.belowOf _ ?_ ?_ | refine Below.alloc ?_ ?_ _ | refine Below.setCell ?_ ?_ _ | refine Below.drewN' _ ?_ | refine Below.drew ?_ | exact Ge.le) | go_size))
    have fz0 := bz.f0
    have fz1 := bz.f1
    have xz0 := bz.c0
    have xz1 := bz.c1
    go_wp2
    exact bodyPost_ret (v := (.agg #[.float .f64 r1, .float .f64 r2])) (by simp [results, Tryz.results92, go_sem, bz.set0, bz.set1]) rfl (val1_mk rfl (by (repeat' first | (with_reducible first | exact Below.refl _ _ | assumption | refine Later.belowOf _ ?_ ?_ | refine Below.alloc ?_ ?_ _ | refine Below.setCell ?_ ?_ _ | refine Below.drewN' _ ?_ | refine Below.drew ?_ | exact Ge.le) | go_size)))
  · have M1 := mulC lv ldb
    have M2 := subC lda (lt_mul lv ldb)
    have S := divC (lt_sub lda (lt_mul lv ldb)) lb
    have e0 : slopeY 6 N j (v1, v2) (a1, a2) (b1, b2) (da1, da2) (db1, db2) = divP (subP (da1, da2) (mulP (v1, v2) (db1, db2))) (b1, b2) := rfl
    generalize slopeY 6 N j (v1, v2) (a1, a2) (b1, b2) (da1, da2) (db1, db2) = r at *
    rw [← e0] at S
    clear e0
    generalize subP (da1, da2) (mulP (v1, v2) (db1, db2)) = q at *
    generalize mulP (v1, v2) (db1, db2) = p at *
    obtain ⟨r1, r2⟩ := r
    obtain ⟨q1, q2⟩ := q
    obtain ⟨p1, p2⟩ := p
    simp only at *
    clear lv la lb lda ldb
    go_wp2_with (fail)
    (refine wp_region_tail_later 7 (by kernel_rfl) (by kernel_rfl) ?_; simp only [List.take_succ_cons, List.take_zero, List.drop_succ_cons, List.drop_zero])
    repeat (go_big_quiet_step (first | (go_at_call 70; (with_reducible exact S.later _)) | (go_at_call 140; (with_reducible exact M1.later _)) | (go_at_call 75; (with_reducible exact M2.later _))))
    (refine wpQuiet_nil ?_; rintro _ ⟨nq, rfl⟩)
    have bz := h.r.below (w' := nq.val) (by (repeat' first | (with_reducible first | exact Below.refl _ _ | assumption | refine Later.belowOf _ ?_ ?_ | refine Below.alloc ?_ ?_ _ | refine Below.setCell ?_ ?_ _ | refine Below.drewN' _ ?_ | refine Below.drew ?_ | exact Ge.le) | go_size))
    have fz0 := bz.f0
    have fz1 := bz.f1
    have xz0 := bz.c0
    have xz1 := bz.c1
    go_wp2
    exact bodyPost_ret (v := (.agg #[.float .f64 r1, .float .f64 r2])) (by simp [results, Tryz.results92, go_sem, bz.set0, bz.set1]) rfl (val1_mk rfl (by (repeat' first | (with_reducible first | exact Below.refl _ _ | assumption | refine Later.belowOf _ ?_ ?_ | refine Below.alloc ?_ ?_ _ | refine Below.setCell ?_ ?_ _ | refine Below.drewN' _ ?_ | refine Below.drew ?_ | exact Ge.le) | go_size)))

set_option maxHeartbeats 4000000 in
set_option maxRecDepth 100000 in
theorem tslope_one (w : World) (K N : Int) (hK : K = 7 ∨ K = 8 ∨ K = 9 ∨ K = 10 ∨ K = 11 ∨ K = 12 ∨ K = 13 ∨ K = 14) (B : Int) (v1 v2 lo hi j m : Nat) (bv ov cv nv bd od cd nd a1 a2 da1 da2 ia bra ora cra : Nat) (hj : j < m) (ha : ia < nv) (ca0 : w.cell? ⟨bv, ov + ia * 2, none⟩ = some (.float .f64 a1)) (ca1 : w.cell? ⟨bv, ov + ia * 2 + 1, none⟩ = some (.float .f64 a2)) (ea : ia < nd) (da : w.cell? ⟨bd, od + ia, none⟩ = some (.slice (some ⟨bra, ora, none⟩) m cra)) (ca2 : w.cell? ⟨bra, ora + j * 2, none⟩ = some (.float .f64 da1)) (ca3 : w.cell? ⟨bra, ora + j * 2 + 1, none⟩ = some (.float .f64 da2)) (la : Lt (a1, a2)) (lda : Lt (da1, da2)) (lv : Lt (v1, v2)) (hN1 : K = 8 → -64 ≤ N) (hN2 : K = 8 → N ≤ 64) :
    Calls Tryz.prog 92 #[(.agg #[.int .i64 K, .int .i64 ia, .int .i64 B, .int .i64 N, .float .f64 lo, .float .f64 hi]), .int .i64 j, (.agg #[.float .f64 v1, .float .f64 v2]), .slice (some ⟨bv, ov, none⟩) nv cv, .slice (some ⟨bd, od, none⟩) nd cd] w (Val1 w (slopeY K N j (v1, v2) (a1, a2) (0, 0) (da1, da2) (0, 0))) := by
  have hn := needs_any K
  rw [show needI K = 1 by (have h := hK; unfold needI; rcases h with rfl | rfl | rfl | rfl | rfl | rfl | rfl | rfl <;> rfl)] at hn
  have j0 : (0 : Int) ≤ (j : Int) := by omega
  have j1 : (j : Int) < (m : Int) := by omega
  have ia0 : (0 : Int) ≤ (ia : Int) := by omega
  have ia1 : (ia : Int) < (nv : Int) := by omega
  have ia2 : (ia : Int) < (nd : Int) := by omega
  have HK := Lib.hid (show _ ∧ _ ∧ _ from ⟨hK, hN1, hN2⟩)
  clear hK hN1 hN2
  go_enter Tryz.func92, Tryz.ntmps92
  go_upto_region 5 with (go_at_call 113; (with_reducible refine (hn.go _).mono ?_); rintro _ _ ⟨n, rfl, rfl⟩)
  have h0 := (vs_start w K (ia) (B) N lo hi v1 v2).later n
  refine cut_world (fun W hW => ?_)
  have h := h0
  rw [hW] at h
  clear hW h0
  haveI g0 : Ge W (w.heap.size + 1) := ⟨h.o.lt⟩
  haveI g1 : Ge W (w.heap.size + 1 + 1) := ⟨h.v.lt⟩
  haveI g2 : Ge W (w.heap.size + 2 + 1) := ⟨h.r.lt⟩
  haveI g3 : Ge W (w.heap.size + 3 + 1) := ⟨h.a.lt⟩
  haveI g4 : Ge W (w.heap.size + 4 + 1) := ⟨h.b.lt⟩
  haveI g5 : Ge W (w.heap.size + 5 + 1) := ⟨h.da.lt⟩
  haveI g6 : Ge W (w.heap.size + 6 + 1) := ⟨h.db.lt⟩
  haveI g7 : Ge W w.heap.size := ⟨h.bel.size⟩
  have k0 := h.o.c0
  have k1 := h.o.c1
  have k2 := h.o.c2
  have k3 := h.o.c3
  have y0 := cellBelow h.bel ca0
  have y1 := cellBelow h.bel ca1
  have y2 := cellBelow h.bel da
  have y3 := cellBelow h.bel ca2
  have y4 := cellBelow h.bel ca3
  have qv := World.block_lt_of_cell? w _ ca0
  have qd := World.block_lt_of_cell? w _ da
  have qr := World.block_lt_of_cell? w _ ca2
  simp only at qv qd qr
  haveI gv : Ge W (bv + 1) := ⟨World.block_lt_of_cell? W _ y0⟩
  haveI gd : Ge W (bd + 1) := ⟨World.block_lt_of_cell? W _ y2⟩
  haveI gr : Ge W (bra + 1) := ⟨World.block_lt_of_cell? W _ y3⟩
  have fa0 := h.a.f0
  have xa0 := h.a.c0
  have fa1 := h.a.f1
  have xa1 := h.a.c1
  have fda0 := h.da.f0
  have xda0 := h.da.c0
  have fda1 := h.da.f1
  have xda1 := h.da.c1
  go_wp2_with (fail)
  go_region
  go_upto_region 6 with (fail)
  have h0 := ((h.setA a1 a2).setDA da1 da2).drew
  clear g0 g1 g2 g3 g4 g5 g6 g7 k0 k1 k2 k3 gv gd gr y0 y1 y2 y3 y4 qv qd qr h fa0 xa0 fa1 xa1 fda0 xda0 fda1 xda1
  refine cut_world (fun W1 hW => ?_)
  have h : VS w W1 K (ia) (B) N lo hi (v1, v2) (a1, a2) (0, 0) (da1, da2) (0, 0) := by rw [← hW]; exact h0
  clear hW h0
  haveI g0 : Ge W1 (w.heap.size + 1) := ⟨h.o.lt⟩
  haveI g1 : Ge W1 (w.heap.size + 1 + 1) := ⟨h.v.lt⟩
  haveI g2 : Ge W1 (w.heap.size + 2 + 1) := ⟨h.r.lt⟩
  haveI g3 : Ge W1 (w.heap.size + 3 + 1) := ⟨h.a.lt⟩
  haveI g4 : Ge W1 (w.heap.size + 4 + 1) := ⟨h.b.lt⟩
  haveI g5 : Ge W1 (w.heap.size + 5 + 1) := ⟨h.da.lt⟩
  haveI g6 : Ge W1 (w.heap.size + 6 + 1) := ⟨h.db.lt⟩
  haveI g7 : Ge W1 w.heap.size := ⟨h.bel.size⟩
  have k0 := h.o.c0
  have k1 := h.o.c1
  have k2 := h.o.c2
  have k3 := h.o.c3
  clear hn
  clear ha ca0 ca1 ea da ca2 ca3 ia0 ia1 ia2
  have xv0 := h.v.c0
  have xv1 := h.v.c1
  have xa0 := h.a.c0
  have xa1 := h.a.c1
  have xb0 := h.b.c0
  have xb1 := h.b.c1
  have xda0 := h.da.c0
  have xda1 := h.da.c1
  have xdb0 := h.db.c0
  have xdb1 := h.db.c1
  have fr0 := h.r.f0
  have fr1 := h.r.f1
  have xr0 := h.r.c0
  have xr1 := h.r.c1
  have hb := h.bel
  obtain ⟨hK, hN1, hN2⟩ := HK.out
  clear HK
  rcases hK with rfl | rfl | rfl | rfl | rfl | rfl | rfl | rfl
  · have S := negC lda
    have e0 : slopeY 7 N j (v1, v2) (a1, a2) (0, 0) (da1, da2) (0, 0) = negP (da1, da2) := rfl
    generalize slopeY 7 N j (v1, v2) (a1, a2) (0, 0) (da1, da2) (0, 0) = r at *
    rw [← e0] at S
    clear e0
    obtain ⟨r1, r2⟩ := r
    simp only at *
    clear lv la lda
    go_wp2_with (first | (go_at_call 76; (with_reducible refine (S.go _).mono ?_); rintro _ _ ⟨nn, rfl, rfl⟩))
    have bz := h.r.below (w' := nn.val) (by (repeat' first | (with_reducible first | exact Below.refl _ _ | assumption | refine Later.belowOf _ ?_ ?_ | refine Below.alloc ?_ ?_ _ | refine Below.setCell ?_ ?_ _ | refine Below.drewN' _ ?_ | refine Below.drew ?_ | exact Ge.le) | go_size))
    exact bodyPost_ret (v := (.agg #[.float .f64 r1, .float .f64 r2])) (by simp [results, Tryz.results92, go_sem, bz.set0, bz.set1]) rfl (val1_mk rfl (by (repeat' first | (with_reducible first | exact Below.refl _ _ | assumption | refine Later.belowOf _ ?_ ?_ | refine Below.alloc ?_ ?_ _ | refine Below.setCell ?_ ?_ _ | refine Below.drewN' _ ?_ | refine Below.drew ?_ | exact Ge.le) | go_size)))
  · by_cases h0 : N = 0
    · subst h0
      have Q := tpoint_c 0
      have e0 : slopeY 8 0 j (v1, v2) (a1, a2) (0, 0) (da1, da2) (0, 0) = wholeP 0 := rfl
      generalize slopeY 8 0 j (v1, v2) (a1, a2) (0, 0) (da1, da2) (0, 0) = r at *
      rw [← e0] at Q
      clear e0
      obtain ⟨r1, r2⟩ := r
      simp only at *
      clear lv la lda
      go_wp2_with (first | (go_at_call 171; (with_reducible refine (Q.go _).mono ?_); rintro _ _ ⟨nn, rfl, rfl⟩))
      have bz := h.r.below (w' := nn.val) (by (repeat' first | (with_reducible first | exact Below.refl _ _ | assumption | refine Later.belowOf _ ?_ ?_ | refine Below.alloc ?_ ?_ _ | refine Below.setCell ?_ ?_ _ | refine Below.drewN' _ ?_ | refine Below.drew ?_ | exact Ge.le) | go_size))
      exact bodyPost_ret (v := (.agg #[.float .f64 r1, .float .f64 r2])) (by simp [results, Tryz.results92, go_sem, bz.set0, bz.set1]) rfl (val1_mk rfl (by (repeat' first | (with_reducible first | exact Below.refl _ _ | assumption | refine Later.belowOf _ ?_ ?_ | refine Below.alloc ?_ ?_ _ | refine Below.setCell ?_ ?_ _ | refine Below.drewN' _ ?_ | refine Below.drew ?_ | exact Ge.le) | go_size)))
    · have hd : (N == 0) = false := by simpa using h0
      have hd2 : (N != 0) = true := by simpa using h0
      have hN3 := hN1 rfl
      have hN4 := hN2 rfl
      have hw : IntKind.i64.wrap (N - 1) = N - 1 := IntWalk.i64_in _ (by omega)
      have Q := tpoint_c N
      have M := powC la (N - 1)
      have M1 := mulC (lt_whole N) (lt_pow la (N - 1))
      have M2 := mulC (lt_mul (lt_whole N) (lt_pow la (N - 1))) lda
      have e0 : slopeY 8 N j (v1, v2) (a1, a2) (0, 0) (da1, da2) (0, 0) = mulP (mulP (wholeP N) (powsP (a1, a2) (N - 1))) (da1, da2) := by unfold slopeY; simp [h0]
      generalize slopeY 8 N j (v1, v2) (a1, a2) (0, 0) (da1, da2) (0, 0) = r at *
      rw [← e0] at M2
      clear e0
      generalize mulP (wholeP N) (powsP (a1, a2) (N - 1)) = s at *
      generalize powsP (a1, a2) (N - 1) = q at *
      generalize wholeP N = p at *
      obtain ⟨r1, r2⟩ := r
      obtain ⟨s1, s2⟩ := s
      obtain ⟨q1, q2⟩ := q
      obtain ⟨p1, p2⟩ := p
      simp only at *
      clear lv la lda
      go_wp2_with (fail)
      (refine wp_region_tail_later 12 (by kernel_rfl) (by kernel_rfl) ?_; simp only [List.take_succ_cons, List.take_zero, List.drop_succ_cons, List.drop_zero])
      repeat (go_big_quiet_step (first | (go_at_call 171; (with_reducible exact Q.later _)) | (go_at_call 163; (with_reducible exact M.later _)) | (go_at_call 140; (with_reducible exact M1.later _)) | (go_at_call 140; (with_reducible exact M2.later _))))
      (refine wpQuiet_nil ?_; rintro _ ⟨nq, rfl⟩)
      have bz := h.r.below (w' := nq.val) (by (repeat' first | (with_reducible first | exact Below.refl _ _ | assumption | refine Later.belowOf _ ?_ ?_ | refine Below.alloc ?_ ?_ _ | refine Below.setCell ?_ ?_ _ | refine Below.drewN' _ ?_ | refine Below.drew ?_ | exact Ge.le) | go_size))
      have fz0 := bz.f0
      have fz1 := bz.f1
      have xz0 := bz.c0
      have xz1 := bz.c1
      go_wp2
      exact bodyPost_ret (v := (.agg #[.float .f64 r1, .float .f64 r2])) (by simp [results, Tryz.results92, go_sem, bz.set0, bz.set1]) rfl (val1_mk rfl (by (repeat' first | (with_reducible first | exact Below.refl _ _ | assumption | refine Later.belowOf _ ?_ ?_ | refine Below.alloc ?_ ?_ _ | refine Below.setCell ?_ ?_ _ | refine Below.drewN' _ ?_ | refine Below.drew ?_ | exact Ge.le) | go_size)))
  · have Q := tpoint_c 2
    have M1 := mulC (lt_whole 2) lv
    have S := divC lda (lt_mul (lt_whole 2) lv)
    have e0 : slopeY 9 N j (v1, v2) (a1, a2) (0, 0) (da1, da2) (0, 0) = divP (da1, da2) (mulP (wholeP 2) (v1, v2)) := rfl
    generalize slopeY 9 N j (v1, v2) (a1, a2) (0, 0) (da1, da2) (0, 0) = r at *
    rw [← e0] at S
    clear e0
    generalize mulP (wholeP 2) (v1, v2) = q at *
    generalize wholeP 2 = p at *
    obtain ⟨r1, r2⟩ := r
    obtain ⟨q1, q2⟩ := q
    obtain ⟨p1, p2⟩ := p
    simp only at *
    clear lv la lda
    go_wp2_with (fail)
    (refine wp_region_tail_later 6 (by kernel_rfl) (by kernel_rfl) ?_; simp only [List.take_succ_cons, List.take_zero, List.drop_succ_cons, List.drop_zero])
    repeat (go_big_quiet_step (first | (go_at_call 171; (with_reducible exact Q.later _)) | (go_at_call 140; (with_reducible exact M1.later _)) | (go_at_call 70; (with_reducible exact S.later _))))
    (refine wpQuiet_nil ?_; rintro _ ⟨nq, rfl⟩)
    have bz := h.r.below (w' := nq.val) (by (repeat' first | (with_reducible first | exact Below.refl _ _ | assumption | refine Later.belowOf _ ?_ ?_ | refine Below.alloc ?_ ?_ _ | refine Below.setCell ?_ ?_ _ | refine Below.drewN' _ ?_ | refine Below.drew ?_ | exact Ge.le) | go_size))
    have fz0 := bz.f0
    have fz1 := bz.f1
    have xz0 := bz.c0
    have xz1 := bz.c1
    go_wp2
    exact bodyPost_ret (v := (.agg #[.float .f64 r1, .float .f64 r2])) (by simp [results, Tryz.results92, go_sem, bz.set0, bz.set1]) rfl (val1_mk rfl (by (repeat' first | (with_reducible first | exact Below.refl _ _ | assumption | refine Later.belowOf _ ?_ ?_ | refine Below.alloc ?_ ?_ _ | refine Below.setCell ?_ ?_ _ | refine Below.drewN' _ ?_ | refine Below.drew ?_ | exact Ge.le) | go_size)))
  · have S := mulC lv lda
    have e0 : slopeY 10 N j (v1, v2) (a1, a2) (0, 0) (da1, da2) (0, 0) = mulP (v1, v2) (da1, da2) := rfl
    generalize slopeY 10 N j (v1, v2) (a1, a2) (0, 0) (da1, da2) (0, 0) = r at *
    rw [← e0] at S
    clear e0
    obtain ⟨r1, r2⟩ := r
    simp only at *
    clear lv la lda
    go_wp2_with (first | (go_at_call 140; (with_reducible refine (S.go _).mono ?_); rintro _ _ ⟨nn, rfl, rfl⟩))
    have bz := h.r.below (w' := nn.val) (by (repeat' first | (with_reducible first | exact Below.refl _ _ | assumption | refine Later.belowOf _ ?_ ?_ | refine Below.alloc ?_ ?_ _ | refine Below.setCell ?_ ?_ _ | refine Below.drewN' _ ?_ | refine Below.drew ?_ | exact Ge.le) | go_size))
    exact bodyPost_ret (v := (.agg #[.float .f64 r1, .float .f64 r2])) (by simp [results, Tryz.results92, go_sem, bz.set0, bz.set1]) rfl (val1_mk rfl (by (repeat' first | (with_reducible first | exact Below.refl _ _ | assumption | refine Later.belowOf _ ?_ ?_ | refine Below.alloc ?_ ?_ _ | refine Below.setCell ?_ ?_ _ | refine Below.drewN' _ ?_ | refine Below.drew ?_ | exact Ge.le) | go_size)))
  · have S := divC lda la
    have e0 : slopeY 11 N j (v1, v2) (a1, a2) (0, 0) (da1, da2) (0, 0) = divP (da1, da2) (a1, a2) := rfl
    generalize slopeY 11 N j (v1, v2) (a1, a2) (0, 0) (da1, da2) (0, 0) = r at *
    rw [← e0] at S
    clear e0
    obtain ⟨r1, r2⟩ := r
    simp only at *
    clear lv la lda
    go_wp2_with (first | (go_at_call 70; (with_reducible refine (S.go _).mono ?_); rintro _ _ ⟨nn, rfl, rfl⟩))
    have bz := h.r.below (w' := nn.val) (by (repeat' first | (with_reducible first | exact Below.refl _ _ | assumption | refine Later.belowOf _ ?_ ?_ | refine Below.alloc ?_ ?_ _ | refine Below.setCell ?_ ?_ _ | refine Below.drewN' _ ?_ | refine Below.drew ?_ | exact Ge.le) | go_size))
    exact bodyPost_ret (v := (.agg #[.float .f64 r1, .float .f64 r2])) (by simp [results, Tryz.results92, go_sem, bz.set0, bz.set1]) rfl (val1_mk rfl (by (repeat' first | (with_reducible first | exact Below.refl _ _ | assumption | refine Later.belowOf _ ?_ ?_ | refine Below.alloc ?_ ?_ _ | refine Below.setCell ?_ ?_ _ | refine Below.drewN' _ ?_ | refine Below.drew ?_ | exact Ge.le) | go_size)))
  · have Q := Cos_c la
    have S := mulC (lt_round (on := 1) la) lda
    have e0 : slopeY 12 N j (v1, v2) (a1, a2) (0, 0) (da1, da2) (0, 0) = mulP (roundP (a1, a2) 1) (da1, da2) := rfl
    generalize slopeY 12 N j (v1, v2) (a1, a2) (0, 0) (da1, da2) (0, 0) = r at *
    rw [← e0] at S
    clear e0
    generalize roundP (a1, a2) 1 = q at *
    obtain ⟨r1, r2⟩ := r
    obtain ⟨q1, q2⟩ := q
    simp only at *
    clear lv la lda
    go_wp2_with (fail)
    (refine wp_region_tail_later 4 (by kernel_rfl) (by kernel_rfl) ?_; simp only [List.take_succ_cons, List.take_zero, List.drop_succ_cons, List.drop_zero])
    repeat (go_big_quiet_step (first | (go_at_call 25; (with_reducible exact Q.later _)) | (go_at_call 140; (with_reducible exact S.later _))))
    (refine wpQuiet_nil ?_; rintro _ ⟨nq, rfl⟩)
    have bz := h.r.below (w' := nq.val) (by (repeat' first | (with_reducible first | exact Below.refl _ _ | assumption | refine Later.belowOf _ ?_ ?_ | refine Below.alloc ?_ ?_ _ | refine Below.setCell ?_ ?_ _ | refine Below.drewN' _ ?_ | refine Below.drew ?_ | exact Ge.le) | go_size))
    have fz0 := bz.f0
    have fz1 := bz.f1
    have xz0 := bz.c0
    have xz1 := bz.c1
    go_wp2
    exact bodyPost_ret (v := (.agg #[.float .f64 r1, .float .f64 r2])) (by simp [results, Tryz.results92, go_sem, bz.set0, bz.set1]) rfl (val1_mk rfl (by (repeat' first | (with_reducible first | exact Below.refl _ _ | assumption | refine Later.belowOf _ ?_ ?_ | refine Below.alloc ?_ ?_ _ | refine Below.setCell ?_ ?_ _ | refine Below.drewN' _ ?_ | refine Below.drew ?_ | exact Ge.le) | go_size)))
  · have Q := Sin_c la
    have M1 := mulC (lt_round (on := 0) la) lda
    have S := negC (lt_mul (lt_round (on := 0) la) lda)
    have e0 : slopeY 13 N j (v1, v2) (a1, a2) (0, 0) (da1, da2) (0, 0) = negP (mulP (roundP (a1, a2) 0) (da1, da2)) := rfl
    generalize slopeY 13 N j (v1, v2) (a1, a2) (0, 0) (da1, da2) (0, 0) = r at *
    rw [← e0] at S
    clear e0
    generalize mulP (roundP (a1, a2) 0) (da1, da2) = p at *
    generalize roundP (a1, a2) 0 = q at *
    obtain ⟨r1, r2⟩ := r
    obtain ⟨p1, p2⟩ := p
    obtain ⟨q1, q2⟩ := q
    simp only at *
    clear lv la lda
    go_wp2_with (fail)
    (refine wp_region_tail_later 5 (by kernel_rfl) (by kernel_rfl) ?_; simp only [List.take_succ_cons, List.take_zero, List.drop_succ_cons, List.drop_zero])
    repeat (go_big_quiet_step (first | (go_at_call 24; (with_reducible exact Q.later _)) | (go_at_call 140; (with_reducible exact M1.later _)) | (go_at_call 76; (with_reducible exact S.later _))))
    (refine wpQuiet_nil ?_; rintro _ ⟨nq, rfl⟩)
    have bz := h.r.below (w' := nq.val) (by (repeat' first | (with_reducible first | exact Below.refl _ _ | assumption | refine Later.belowOf _ ?_ ?_ | refine Below.alloc ?_ ?_ _ | refine Below.setCell ?_ ?_ _ | refine Below.drewN' _ ?_ | refine Below.drew ?_ | exact Ge.le) | go_size))
    have fz0 := bz.f0
    have fz1 := bz.f1
    have xz0 := bz.c0
    have xz1 := bz.c1
    go_wp2
    exact bodyPost_ret (v := (.agg #[.float .f64 r1, .float .f64 r2])) (by simp [results, Tryz.results92, go_sem, bz.set0, bz.set1]) rfl (val1_mk rfl (by (repeat' first | (with_reducible first | exact Below.refl _ _ | assumption | refine Later.belowOf _ ?_ ?_ | refine Below.alloc ?_ ?_ _ | refine Below.setCell ?_ ?_ _ | refine Below.drewN' _ ?_ | refine Below.drew ?_ | exact Ge.le) | go_size)))
  · have Q := tpoint_c 1
    have M := sqrC la
    have M1 := addC (y := sqrP (a1, a2)) (lt_whole 1) lt_sqr
    have S := divC (y := addP (wholeP 1) (sqrP (a1, a2))) lda (lt_add (lt_whole 1) lt_sqr)
    have e0 : slopeY 14 N j (v1, v2) (a1, a2) (0, 0) (da1, da2) (0, 0) = divP (da1, da2) (addP (wholeP 1) (sqrP (a1, a2))) := rfl
    generalize slopeY 14 N j (v1, v2) (a1, a2) (0, 0) (da1, da2) (0, 0) = r at *
    rw [← e0] at S
    clear e0
    generalize addP (wholeP 1) (sqrP (a1, a2)) = s at *
    generalize sqrP (a1, a2) = q at *
    generalize wholeP 1 = p at *
    obtain ⟨r1, r2⟩ := r
    obtain ⟨s1, s2⟩ := s
    obtain ⟨q1, q2⟩ := q
    obtain ⟨p1, p2⟩ := p
    simp only at *
    clear lv la lda
    go_wp2_with (fail)
    (refine wp_region_tail_later 7 (by kernel_rfl) (by kernel_rfl) ?_; simp only [List.take_succ_cons, List.take_zero, List.drop_succ_cons, List.drop_zero])
    repeat (go_big_quiet_step (first | (go_at_call 171; (with_reducible exact Q.later _)) | (go_at_call 172; (with_reducible exact M.later _)) | (go_at_call 80; (with_reducible exact M1.later _)) | (go_at_call 70; (with_reducible exact S.later _))))
    (refine wpQuiet_nil ?_; rintro _ ⟨nq, rfl⟩)
    have bz := h.r.below (w' := nq.val) (by (repeat' first | (with_reducible first | exact Below.refl _ _ | assumption | refine Later.belowOf _ ?_ ?_ | refine Below.alloc ?_ ?_ _ | refine Below.setCell ?_ ?_ _ | refine Below.drewN' _ ?_ | refine Below.drew ?_ | exact Ge.le) | go_size))
    have fz0 := bz.f0
    have fz1 := bz.f1
    have xz0 := bz.c0
    have xz1 := bz.c1
    go_wp2
    exact bodyPost_ret (v := (.agg #[.float .f64 r1, .float .f64 r2])) (by simp [results, Tryz.results92, go_sem, bz.set0, bz.set1]) rfl (val1_mk rfl (by (repeat' first | (with_reducible first | exact Below.refl _ _ | assumption | refine Later.belowOf _ ?_ ?_ | refine Below.alloc ?_ ?_ _ | refine Below.setCell ?_ ?_ _ | refine Below.drewN' _ ?_ | refine Below.drew ?_ | exact Ge.le) | go_size)))
end Go.Proofs.YtpkgpkabmechkaaGreat
