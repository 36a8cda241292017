/- UlpWhole: sums, differences and products of whole numbers of 26 bits are just what they are, to whichever side they are rounded; so is a root of a square: for every input the law returns true. -/
import Derived.Test.YtjdccbigaahkeaaW17
import Derived.Test.YtjdccbigaahkeaaFl17
import Derived.Test.YtjdccbigaahkeaaEnd
import Derived.IntWalk
namespace Go.Proofs.Ytjdccbigaahkeaa
set_option linter.unusedSimpArgs false
set_option linter.unusedVariables false
open Go.ChangeShapes Go.WideShapes Go.ChangeAt Go.RowKit Go.Joins
open Fl

theorem foi (k : Int) : floatOfInt .f64 k = word (decide (k < 0)) (rungOf (k.natAbs * pw 1074) 1 0) := by
  unfold floatOfInt FloatKind.nearest FloatKind.encode
  unfold Ieee.Format.write
  simp only []
  have hx := nearest_all (decide (k < 0)) k.natAbs 1074 0 (k.natAbs * pw 1074) 1 (by decide) (by rw [pw_eq, Nat.pow_zero])
  have e0 : (-1074 + ((1074 : Nat) : Int) - ((0 : Nat) : Int)) = 0 := by omega
  rw [e0] at hx
  exact hx

/-- A whole number's float. -/
theorem whole_float (k : Int) (h1 : -9007199254740992 ≤ k) (h2 : k ≤ 9007199254740992) : finB (floatOfInt .f64 k) = true ∧ val (floatOfInt .f64 k) = k * (pw 1074 : Nat) ∧ floatOfInt .f64 k < 18446744073709551616 := by
  have hr : ∃ r : Nat, r < INFR ∧ G r = k.natAbs * pw 1074 := by
    by_cases h0 : k = 0
    · exact ⟨0, by decide, by rw [h0, G_zero]; simp⟩
    · obtain ⟨f, _, _, h4, _, h6⟩ := of_whole (q := k.natAbs) (by omega) (by omega)
      exact ⟨f, h4, h6⟩
  obtain ⟨r, hr1, hr2⟩ := hr
  have hsw : r < SW := Nat.lt_trans hr1 (by decide)
  rw [foi, ← hr2, rungOf_exact1 hr1]
  refine ⟨?_, ?_, word_lt _ hsw⟩
  · rw [finB_rung, rung_word _ hsw]; exact hr1
  · unfold val
    rw [sgn_word _ hsw, rung_word _ hsw, hr2]
    by_cases hk : k < 0
    · rw [decide_eq_true hk]
      simp only [if_true]
      obtain ⟨j, rfl⟩ : ∃ j : Nat, k = -(j : Int) := ⟨k.natAbs, by omega⟩
      rw [Int.natAbs_neg, Int.natAbs_natCast, Int.natCast_mul, Int.neg_mul]
    · rw [decide_eq_false hk]
      simp only [Bool.false_eq_true, if_false]
      obtain ⟨j, rfl⟩ : ∃ j : Nat, k = (j : Int) := ⟨k.natAbs, by omega⟩
      rw [Int.natAbs_natCast, Int.natCast_mul]

/-- An exact amount that is a float's own is rounded to it. -/
theorem exact_feq {z : Nat} (hz : finB z = true) {S : Int} {D : Nat} (hD : 0 < D) (h : S = val z * (D : Int)) (dir : Int) : feq (rnd S D dir) z = true ∧ nan (rnd S D dir) = false := by
  have hr := finB_rung.1 hz
  have e1 : rnd S D dir = rnd (val z) 1 dir := rnd_ratio dir hD (by decide) (by rw [h]; simp)
  have hp : plc (val z) 1 dir = idx z := by
    unfold plc
    rw [val_abs z, rungOf_exact1 hr, rungOf_exact1 hr]
    unfold val idx
    by_cases h0 : rung z = 0
    · rw [h0, G_zero]; cases sgn z <;> simp
    · have := G_pos (Nat.pos_of_ne_zero h0)
      cases sgn z
      · simp; omega
      · simp; omega
  have nz : nan z = false := nan_false.2 (Nat.le_of_lt hr)
  have hi := idx_le nz
  obtain ⟨b1, b2, b3⟩ := nan_bits hi.1 hi.2
  rw [e1, rnd_eq, hp]
  refine ⟨?_, b1⟩
  unfold feq
  rw [b1, b2, nz]; simp

theorem isq_square (c : Nat) : isq (c * c) = c := by
  have h := isq_spec (c * c)
  rcases Nat.lt_trichotomy (isq (c * c)) c with hl | hl | hl
  · have := Nat.mul_self_le_mul_self (show isq (c * c) + 1 ≤ c by omega); omega
  · exact hl
  · have := Nat.mul_self_lt_mul_self hl; omega

theorem rung_val {z : Nat} {k : Int} (h : val z = k * (pw 1074 : Nat)) : G (rung z) = k.natAbs * pw 1074 := by
  rw [← val_abs z, h, Int.natAbs_mul, Int.natAbs_natCast]
theorem rung_null {z : Nat} {k : Int} (h : val z = k * (pw 1074 : Nat)) (hk : k ≠ 0) : rung z ≠ 0 := by
  intro hr
  have h1 := (val_eq_zero z).2 hr
  rw [h] at h1
  have p := pw_pos 1074
  rcases Int.mul_eq_zero.1 h1 with h2 | h2 <;> omega
theorem sgn_val {z : Nat} {k : Int} (h : val z = k * (pw 1074 : Nat)) (hk : k ≠ 0) : sgn z = decide (k < 0) := by
  have hn := val_neg z (rung_null h hk)
  rw [h] at hn
  have p : (0 : Int) < (pw 1074 : Nat) := by have := pw_pos 1074; omega
  have hl : k * (pw 1074 : Nat) < 0 ↔ k < 0 := by
    constructor
    · intro hh
      refine Int.lt_of_not_ge fun h' => ?_
      have := Int.mul_nonneg h' (Int.le_of_lt p); omega
    · intro hh; exact Int.mul_neg_of_neg_of_pos hh p
  rw [hl] at hn
  cases hs : sgn z
  · symm; simp only [decide_eq_false_iff_not]; intro hh; have := hn.1 hh; rw [hs] at this; cases this
  · symm; simp only [decide_eq_true_eq]; exact hn.2 hs

/-- A root of a square. -/
theorem root_whole {x z : Nat} {m : Int} (hx : val x = m * (pw 1074 : Nat)) (fx : finB x = true) (hz : val z = m * m * (pw 1074 : Nat)) (fz : finB z = true) (dir : Int) : feq (rootS z dir) (rung x) = true ∧ nan (rootS z dir) = false := by
  have nz : nan z = false := nan_false.2 (Nat.le_of_lt (finB_rung.1 fz))
  by_cases hm : m = 0
  · subst hm
    have rz : rung z = 0 := (val_eq_zero z).1 (by rw [hz]; simp)
    have rx : rung x = 0 := (val_eq_zero x).1 (by rw [hx]; simp)
    have : rootS z dir = 0 := by unfold rootS; rw [nz, rz]; simp
    rw [this, rx]
    exact ⟨by decide, by decide⟩
  · have hmm : m * m ≠ 0 := by
      intro h; rcases Int.mul_eq_zero.1 h with h | h <;> exact hm h
    have hpos : 0 < m * m := by
      rcases Int.lt_trichotomy (m * m) 0 with h | h | h
      · exfalso
        have : 0 ≤ m * m := by
          rcases Int.le_total 0 m with h' | h'
          · exact Int.mul_nonneg h' h'
          · exact Int.mul_nonneg_of_nonpos_of_nonpos h' h'
        omega
      · exact absurd h hmm
      · exact h
    have rz := rung_null hz hmm
    have sz : sgn z = false := by rw [sgn_val hz hmm]; simp; omega
    have gz := rung_val hz
    have gx := rung_val hx
    have e1 : 4 * G (rung z) * pw 1074 = (2 * (m.natAbs * pw 1074)) * (2 * (m.natAbs * pw 1074)) := by
      rw [gz, Int.natAbs_mul, show (4 : Nat) = 2 * 2 by rfl]
      simp only [Nat.mul_assoc, Nat.mul_comm, Nat.mul_left_comm]
    have e2 : rootN (G (rung z)) = 2 * (m.natAbs * pw 1074) ∧ rootD (G (rung z)) = 2 := by
      unfold rootN rootD
      rw [e1, isq_square, if_pos rfl, if_pos rfl]
      exact ⟨rfl, rfl⟩
    have hS : rootS z dir = rnd ((2 * (m.natAbs * pw 1074) : Nat) : Int) 2 dir := by
      unfold rootS
      rw [nz, sz, fz, e2.1, e2.2]
      simp [rz]
    rw [hS]
    have hr := finB_rung.1 fx
    have rr : rung (rung x) = rung x := by
      have := rung_lt x
      unfold rung; rw [Nat.mod_mod]
    have sr : sgn (rung x) = false := by
      have := rung_lt x
      unfold sgn
      rw [Nat.div_eq_of_lt this]; rfl
    have fr : finB (rung x) = true := by rw [finB_rung, rr]; exact hr
    have vr : val (rung x) = ((m.natAbs * pw 1074 : Nat) : Int) := by
      unfold val; rw [sr, rr, gx]; simp
    exact exact_feq fr (by decide) (by rw [vr, Int.natCast_mul 2, Int.mul_comm]) dir

set_option maxHeartbeats 8000000 in
set_option maxRecDepth 100000 in
theorem ulpWhole_walk (a b dir : Int) (a0 : -2147483648 ≤ a) (a1 : a ≤ 2147483647) (b0 : -2147483648 ≤ b) (b1 : b ≤ 2147483647) (h1 : -9223372036854775808 ≤ dir) (h2 : dir ≤ 9223372036854775807) :
    Gives 15 #[.int .i32 a, .int .i32 b, .int .i64 dir] (.bool true) := by
  intro w
  have hda := Int.mul_tdiv_add_tmod a 64
  have hdb := Int.mul_tdiv_add_tmod b 64
  have ta1 := Int.tmod_lt_of_pos a (show (0 : Int) < 64 by decide)
  have ta2 := Int.lt_tmod_of_pos a (show (0 : Int) < 64 by decide)
  have tb1 := Int.tmod_lt_of_pos b (show (0 : Int) < 64 by decide)
  have tb2 := Int.lt_tmod_of_pos b (show (0 : Int) < 64 by decide)
  obtain ⟨m, hm⟩ : ∃ m, a.tdiv 64 = m := ⟨_, rfl⟩
  obtain ⟨n, hn⟩ : ∃ n, b.tdiv 64 = n := ⟨_, rfl⟩
  rw [hm] at hda
  rw [hn] at hdb
  have m0 : -33554433 ≤ m ∧ m ≤ 33554433 := by omega
  have n0 : -33554433 ≤ n ∧ n ≤ 33554433 := by omega
  have sq : ∀ x y : Int, -33554433 ≤ x → x ≤ 33554433 → -33554433 ≤ y → y ≤ 33554433 → -1125899973951489 ≤ x * y ∧ x * y ≤ 1125899973951489 := by
    intro x y h1 h2 h3 h4
    have e : (x * y).natAbs ≤ 33554433 * 33554433 := by
      rw [Int.natAbs_mul]
      exact Nat.mul_le_mul (by omega) (by omega)
    omega
  have mn := sq m n m0.1 m0.2 n0.1 n0.2
  have mm := sq m m m0.1 m0.2 m0.1 m0.2
  obtain ⟨fx, vx, lx⟩ := whole_float m (by omega) (by omega)
  obtain ⟨fy, vy, ly⟩ := whole_float n (by omega) (by omega)
  obtain ⟨fs, vs, ls⟩ := whole_float (m + n) (by omega) (by omega)
  obtain ⟨fd, vd, ld⟩ := whole_float (m - n) (by omega) (by omega)
  obtain ⟨fp, vp, lp⟩ := whole_float (m * n) (by omega) (by omega)
  obtain ⟨fq, vq, lq⟩ := whole_float (m * m) (by omega) (by omega)
  obtain ⟨x, ex⟩ : ∃ x, floatOfInt .f64 m = x := ⟨_, rfl⟩
  obtain ⟨y, ey⟩ : ∃ y, floatOfInt .f64 n = y := ⟨_, rfl⟩
  obtain ⟨s, es⟩ : ∃ s, floatOfInt .f64 (m + n) = s := ⟨_, rfl⟩
  obtain ⟨d, ed⟩ : ∃ d, floatOfInt .f64 (m - n) = d := ⟨_, rfl⟩
  obtain ⟨p, ep⟩ : ∃ p, floatOfInt .f64 (m * n) = p := ⟨_, rfl⟩
  obtain ⟨q, eq⟩ : ∃ q, floatOfInt .f64 (m * m) = q := ⟨_, rfl⟩
  rw [ex] at fx vx lx
  rw [ey] at fy vy ly
  rw [es] at fs vs ls
  rw [ed] at fd vd ld
  rw [ep] at fp vp lp
  rw [eq] at fq vq lq
  have nx : nan x = false := nan_false.2 (Nat.le_of_lt (finB_rung.1 fx))
  have ny : nan y = false := nan_false.2 (Nat.le_of_lt (finB_rung.1 fy))
  have np : nan p = false := nan_false.2 (Nat.le_of_lt (finB_rung.1 fp))
  have fS : feq (addS x y dir) s = true ∧ nan (addS x y dir) = false := by
    have e : addS x y dir = rnd (val x + val y) 1 dir := by unfold addS; rw [fx, fy]; rfl
    rw [e]
    exact exact_feq fs (by decide) (by rw [vx, vy, vs, Int.add_mul]; simp) dir
  have fD : feq (subS x y dir) d = true ∧ nan (subS x y dir) = false := by
    have e : subS x y dir = rnd (val x + val (fneg y)) 1 dir := by unfold subS addS; rw [fx, finB_fneg, fy]; rfl
    rw [e]
    exact exact_feq fd (by decide) (by rw [val_fneg, vx, vy, vd, Int.sub_mul]; simp; omega) dir
  have fM : feq (mulS x y dir) p = true ∧ nan (mulS x y dir) = false := by
    by_cases h0 : m * n = 0
    · have rp : rung p = 0 := (val_eq_zero p).1 (by rw [vp, h0]; simp)
      have hz : rung x = 0 ∨ rung y = 0 := by
        rcases Int.mul_eq_zero.1 h0 with h | h
        · left; exact (val_eq_zero x).1 (by rw [vx, h]; simp)
        · right; exact (val_eq_zero y).1 (by rw [vy, h]; simp)
      have e : mulS x y dir = 0 := by unfold mulS; rw [nx, ny]; simp only [Bool.or_false, Bool.false_eq_true, if_false, if_pos hz]
      rw [e]
      refine ⟨?_, by decide⟩
      unfold feq
      rw [np, show nan 0 = false by decide, show idx 0 = 0 by decide, (idx_zero_iff p).2 rp]
      rfl
    · have hx0 : m ≠ 0 := by intro h; rw [h] at h0; simp at h0
      have hy0 : n ≠ 0 := by intro h; rw [h] at h0; simp at h0
      have r1 := rung_null vx hx0
      have r2 := rung_null vy hy0
      have e : mulS x y dir = rnd (val x * val y) (pw 1074) dir := by unfold mulS; rw [nx, ny, fx, fy]; simp [r1, r2]
      rw [e]
      exact exact_feq fp (pw_pos _) (by rw [vx, vy, vp]; simp only [Int.mul_assoc, Int.mul_comm, Int.mul_left_comm]) dir
  have fR := root_whole vx fx vq fq dir
  have fV : n ≠ 0 → feq (divS p y dir) x = true ∧ nan (divS p y dir) = false := by
    intro hn0
    have r2 := rung_null vy hn0
    have e : divS p y dir = rnd (val p * (if sgn y then -1 else 1) * (pw 1074 : Nat)) (G (rung y)) dir := by unfold divS; rw [np, ny, fp, fy]; simp [r2]
    rw [e]
    refine exact_feq fx (G_pos (Nat.pos_of_ne_zero r2)) ?_ dir
    rw [vp, vx, rung_val vy, sgn_val vy hn0]
    have hs : n * (if decide (n < 0) = true then -1 else 1) = (n.natAbs : Int) := by
      by_cases h : n < 0
      · rw [decide_eq_true h, if_pos rfl]; omega
      · rw [decide_eq_false h]; simp; omega
    rw [Int.natCast_mul, ← hs]
    simp only [Int.mul_assoc, Int.mul_comm, Int.mul_left_comm]
  have A1 := (add_any x y dir lx ly).num fS.2
  have S1 := (sub_any x y dir lx ly).num fD.2
  have M1 := (mul_f x y dir lx ly).num fM.2
  have R1 := (sqrt_any q dir lq).num fR.2
  have B1 := abs_any x lx
  have g1 := fS.1
  have g2 := fD.1
  have g3 := fM.1
  have g4 := fR.1
  have em : m * n = (m * n) := rfl
  have mn1 := mn.1
  have mn2 := mn.2
  have mm1 := mm.1
  have mm2 := mm.2
  obtain ⟨m1, m2⟩ := m0
  obtain ⟨n1, n2⟩ := n0
  have w1 : IntKind.i64.wrap (m * n) = m * n := IntWalk.i64_in _ ⟨by omega, by omega⟩
  have w2 : IntKind.i64.wrap (m * m) = m * m := IntWalk.i64_in _ ⟨by omega, by omega⟩
  by_cases hn0 : n = 0
  · subst hn0
    have e1 : s = x := by rw [← es, ← ex, Int.add_zero]
    have e2 : d = x := by rw [← ed, ← ex, Int.sub_zero]
    have e3 : p = y := by rw [← ep, ← ey, Int.mul_zero]
    rw [e1] at g1
    rw [e2] at g2
    rw [e3] at g3
    clear es ed ep e1 e2 e3 w1 mn1 mn2 n1 n2
    generalize addS x y dir = z1 at *
    generalize subS x y dir = z2 at *
    generalize mulS x y dir = z3 at *
    generalize rootS q dir = z4 at *
    generalize rung x = z5 at *
    clear fS fD fM fR fV fx fy fs fd fp fq vx vy vs vd vp vq lx ly ls ld lp lq nx ny np em mn mm sq hda hdb ta1 ta2 tb1 tb2
    go_enter Try.func15, Try.ntmps15
    go_wp2_with (first
      | (go_at_call 48; refine (A1.go _).mono ?_; rintro _ _ ⟨k, rfl, rfl⟩)
      | (go_at_call 50; refine (S1.go _).mono ?_; rintro _ _ ⟨k, rfl, rfl⟩)
      | (go_at_call 46; refine (M1.go _).mono ?_; rintro _ _ ⟨k, rfl, rfl⟩)
      | (go_at_call 54; refine (R1.go _).mono ?_; rintro _ _ ⟨k, rfl, rfl⟩)
      | (go_at_call 80; refine (B1.go _).mono ?_; rintro _ _ ⟨k, rfl, rfl⟩))
    go_ret
    exact ⟨rfl, by (repeat' (first | (with_reducible exact Below.refl _ _) | (with_reducible assumption) | (with_reducible refine Later.belowOf _ ?_ ?_) | (with_reducible refine Below.alloc ?_ ?_ _) | (with_reducible refine Below.setCell ?_ ?_ _) | (with_reducible refine Below.drewN' _ ?_) | (with_reducible refine Below.drew ?_) | (with_reducible exact Ge.le) | go_size))⟩
  · have D1 := (div_any p y dir lp ly).num (fV hn0).2
    have g5 := (fV hn0).1
    have hnb : (n == 0) = false := by rw [beq_eq_false_iff_ne]; exact hn0
    generalize addS x y dir = z1 at *
    generalize subS x y dir = z2 at *
    generalize mulS x y dir = z3 at *
    generalize rootS q dir = z4 at *
    generalize rung x = z5 at *
    generalize divS p y dir = z6 at *
    clear fS fD fM fR fV fx fy fs fd fp fq vx vy vs vd vp vq lx ly ls ld lp lq nx ny np em mn mm sq hda hdb ta1 ta2 tb1 tb2
    go_enter Try.func15, Try.ntmps15
    go_wp2_with (first
      | (go_at_call 48; refine (A1.go _).mono ?_; rintro _ _ ⟨k, rfl, rfl⟩)
      | (go_at_call 50; refine (S1.go _).mono ?_; rintro _ _ ⟨k, rfl, rfl⟩)
      | (go_at_call 46; refine (M1.go _).mono ?_; rintro _ _ ⟨k, rfl, rfl⟩)
      | (go_at_call 54; refine (R1.go _).mono ?_; rintro _ _ ⟨k, rfl, rfl⟩)
      | (go_at_call 52; refine (D1.go _).mono ?_; rintro _ _ ⟨k, rfl, rfl⟩)
      | (go_at_call 80; refine (B1.go _).mono ?_; rintro _ _ ⟨k, rfl, rfl⟩))
    go_ret
    exact ⟨rfl, by (repeat' (first | (with_reducible exact Below.refl _ _) | (with_reducible assumption) | (with_reducible refine Later.belowOf _ ?_ ?_) | (with_reducible refine Below.alloc ?_ ?_ _) | (with_reducible refine Below.setCell ?_ ?_ _) | (with_reducible refine Below.drewN' _ ?_) | (with_reducible refine Below.drew ?_) | (with_reducible exact Ge.le) | go_size))⟩

set_option maxRecDepth 100000 in
theorem arg_int32 {H : Type} {enc : TypeId × Value → H} {W : World} {base : Nat} {sp : Nat → Bool} {held : Bool} {v : Value} {d : DataW H} {ps : List MemPlace}
    (hval : Value.okWide Try.prog W .any base 21 v) (h : DataW.Trod enc Try.prog W 0 sp held 21 v d ps) : ∃ n, v = .int .i32 n ∧ -2147483648 ≤ n ∧ n ≤ 2147483647 := by
  obtain ⟨n, rfl, _, _, hw⟩ := open_int Try.underlying21 hval h
  have hw' : IntKind.i32.min ≤ n ∧ n ≤ IntKind.i32.max := by simpa [Lit.wf] using hw
  exact ⟨n, rfl, hw'.1, hw'.2⟩

set_option maxRecDepth 100000 in
theorem ulpWhole_lifted (os : Os) (started : os.Started) (H : Type) (enc : TypeId × Value → H) :
    ReturnsInHanded {} Try.checked os 15 .any (Rows.ulpWholeSpec.pre6 enc Try.prog Try.f15 Rows.ulpWholeRow.domain false) (Rows.ulpWholeSpec.post enc Try.prog Try.f15 false true false false) := by
  refine returnsInHanded_of_change (C := Try.checked) Try.own started (by kernel_rfl) Try.func15
    (ChangeSpec.witness6 (enc := enc) (C := Try.checked) false ⟨#[], #[(.int .i32 0), (.int .i32 0), (.int .i64 0)], []⟩ 8 (by kernel_rfl) (by kernel_rfl) (by kernel_rfl) (by kernel_rfl)) ?_
  intro W base args ds gs before hval0 hW hcnd _
  have hval : ∀ (j : Nat) t v, Try.f15.params[j]? = some t → args[j]? = some v → Value.okWide Try.prog W .any base t v := hval0
  have hW' := hW
  obtain ⟨p, q, hA0, hV, rfl, hfz, hnd⟩ := hW
  have hA : DataW.TrodAll enc Try.prog W 0 (fun _ => true) true Try.f15.params.toList args.toList ds p := hA0
  rw [Try.params15] at hA hval
  obtain ⟨v0, v1, v2, d0, d1, d2, p0, p1, p2, rfl, rfl, rfl, h0, h1, h2⟩ := trodAll_three hA
  obtain ⟨rfl, rfl⟩ := trodVars_none hV
  obtain ⟨x0_0, rfl, k0_0, k0_1⟩ := arg_int32 (hval 0 21 v0 rfl rfl) h0
  obtain ⟨x1_0, rfl, k1_0, k1_1⟩ := arg_int32 (hval 1 21 v1 rfl rfl) h1
  obtain ⟨x2_0, rfl, k2_0, k2_1⟩ := arg_int (hval 2 3 v2 rfl rfl) h2
  refine (ulpWhole_walk x0_0 x1_0 x2_0 k0_0 k0_1 k1_0 k1_1 k2_0 k2_1 W).mono fun e W' ⟨he, hb⟩ => ?_
  subst he
  exact ⟨_, rfl, law_post rfl hW' (by kernel_rfl) (by kernel_rfl) rfl hb⟩

theorem ulpWhole_holds : Rows.UlpWholeSaid :=
  OpenClaim.holds_of_wide 15 Try.f15 rfl rfl rfl rfl rfl rfl rfl ⟨rfl, rfl, rfl, rfl, rfl⟩ rfl rfl rfl rfl rfl (by kernel_rfl) Try.func15 (by kernel_rfl)
    (of_decide_eq_true (by kernel_rfl)) (by unfold Func.isWrapper; rw [if_neg (of_decide_eq_false (by kernel_rfl))]; exact ⟨rfl, rfl⟩)
    (fun os started H enc _ => ulpWhole_lifted os started H enc)
end Go.Proofs.Ytjdccbigaahkeaa
