/- Plain: fields whose rates hang on nothing. -/
import Derived.Test.YtpkgpkabmechkaaGreatPkP8x
import Derived.Test.YtpkgpkabmechkaaGreatPkV9x
namespace Go.Proofs.YtpkgpkabmechkaaGreat
set_option linter.unusedSimpArgs false
set_option linter.unusedVariables false
open Go.RowKit
open Fl

theorem addS_exact {a b c : Nat} (fa : finB a = true) (fb : finB b = true) (fc : finB c = true) (h : val a + val b = val c) (dir : Int) : idx (addS a b dir) = idx c := by
  rw [addS_fin dir fa fb, idx_rnd, h, plc_exact fc]
/-- An interval of two floats that are not nought below nought. -/
theorem ends_mk {a b : Nat} (ca : Can a) (cb : Can b) (h : idx a ≤ idx b) (h1 : idx a < 9218868437227405312) (h2 : -9218868437227405312 < idx b) : Ends a b ∧ noneB a b = false :=
  have n := none_can ca cb h h1 h2
  ⟨ends_of ca.lt cb.lt n, n⟩
theorem sub_of {a b c d : Nat} (h : Ends a b ∧ noneB a b = false) (k : Ends c d ∧ noneB c d = false) (l : idx c ≤ idx a) (u : idx b ≤ idx d) : Sub a b c d := ⟨h.1, k.1, h.2, k.2, l, u⟩
/-- A sum, a product of intervals by the amounts of their ends. -/
theorem sum_at {a b c d l u : Nat} (E : Ends a b ∧ noneB a b = false) (F : Ends c d ∧ noneB c d = false) (fa : finB a = true) (fb : finB b = true) (fc : finB c = true) (fd : finB d = true) (fl : finB l = true) (fu : finB u = true)
    (h : val a + val c = val l) (k : val b + val d = val u) : idx (sumI a b c d).1 = idx l ∧ idx (sumI a b c d).2 = idx u := by
  have c1 : Can (addS a c (-1)) := can_add _ E.1.ca F.1.ca (by rw [addS_fin _ fa fc]; exact nan_rnd _ _ _)
  have c2 : Can (addS b d 1) := can_add _ E.1.cb F.1.cb (by rw [addS_fin _ fb fd]; exact nan_rnd _ _ _)
  have i1 := addS_exact fa fc fl h (-1)
  have i2 := addS_exact fb fd fu k 1
  have e : sumI a b c d = endsI (addS a c (-1)) (addS b d 1) := by unfold sumI; rw [E.2, F.2]; rfl
  have hle : idx l ≤ idx u := by
    rw [← val_le, ← h, ← k]
    have := val_le.2 E.1.le
    have := val_le.2 F.1.le
    omega
  obtain ⟨_, _, l2, u2⟩ := ends_eq c1 c2 (by omega)
  have b1 := finB_rung.1 fl
  have b2 := finB_rung.1 fu
  have b3 : idx l ≤ 9218868437227405311 := by unfold INFR at b1; unfold idx; split <;> omega
  have b4 : -9218868437227405311 ≤ idx u := by unfold INFR at b2; unfold idx; split <;> omega
  rw [e]
  exact ⟨by omega, by omega⟩
theorem minF_num {x y : Nat} (h : nan x = false) (k : nan y = false) : nan (minF x y) = false := by unfold minF; split <;> assumption
theorem maxF_num {x y : Nat} (h : nan x = false) (k : nan y = false) : nan (maxF x y) = false := by unfold maxF; split <;> assumption
theorem mul_LH {a b c d : Nat} (E : Ends a b ∧ noneB a b = false) (F : Ends c d ∧ noneB c d = false) : idx (mulL a b c d) ≤ idx (mulH a b c d) := by
  have n1 := E.1.ca.num
  have n3 := F.1.ca.num
  have h := mul_sides n1 n3
  have k : ∀ dir, Can (mulS a c dir) ∧ Can (mulS a d dir) ∧ Can (mulS b c dir) ∧ Can (mulS b d dir) := fun dir => ⟨can_mul _ n1 n3, can_mul _ n1 F.1.cb.num, can_mul _ E.1.cb.num n3, can_mul _ E.1.cb.num F.1.cb.num⟩
  have l := (lo4_le (k (-1)).1 (k (-1)).2.1 (k (-1)).2.2.1 (k (-1)).2.2.2).1
  have u := (hi4_le (k 1).1 (k 1).2.1 (k 1).2.2.1 (k 1).2.2.2).1
  unfold mulL mulH
  omega
/-- What a product of four corners is, all of which lie between two floats that are two of them. -/
theorem prod_at {a b c d l u : Nat} (E : Ends a b ∧ noneB a b = false) (F : Ends c d ∧ noneB c d = false) (fl : finB l = true) (fu : finB u = true)
    (h1 : ∀ dir, idx l ≤ idx (mulS a c dir) ∧ idx (mulS a c dir) ≤ idx u) (h2 : ∀ dir, idx l ≤ idx (mulS a d dir) ∧ idx (mulS a d dir) ≤ idx u) (h3 : ∀ dir, idx l ≤ idx (mulS b c dir) ∧ idx (mulS b c dir) ≤ idx u) (h4 : ∀ dir, idx l ≤ idx (mulS b d dir) ∧ idx (mulS b d dir) ≤ idx u) :
    Ends (prodI a b c d).1 (prodI a b c d).2 ∧ noneB (prodI a b c d).1 (prodI a b c d).2 = false ∧ idx l ≤ idx (prodI a b c d).1 ∧ idx (prodI a b c d).2 ≤ idx u := by
  have n1 := E.1.ca.num
  have n2 := E.1.cb.num
  have n3 := F.1.ca.num
  have n4 := F.1.cb.num
  obtain ⟨c1, c2⟩ := can_mulL n1 n2 n3 n4
  have k : ∀ dir, Can (mulS a c dir) ∧ Can (mulS a d dir) ∧ Can (mulS b c dir) ∧ Can (mulS b d dir) := fun dir => ⟨can_mul _ n1 n3, can_mul _ n1 n4, can_mul _ n2 n3, can_mul _ n2 n4⟩
  have b1 := finB_rung.1 fl
  have b2 := finB_rung.1 fu
  have b3 : -9218868437227405311 ≤ idx l := by unfold INFR at b1; unfold idx; split <;> omega
  have b4 : idx u ≤ 9218868437227405311 := by unfold INFR at b2; unfold idx; split <;> omega
  have il : idx l ≤ idx (mulL a b c d) := by
    unfold mulL lo4
    have hp : nan 9218868437227405312 = false := by decide
    rw [minF_idx (minF_num (minF_num (minF_num hp (k _).1.num) (k _).2.1.num) (k _).2.2.1.num) (k _).2.2.2.num, minF_idx (minF_num (minF_num hp (k _).1.num) (k _).2.1.num) (k _).2.2.1.num, minF_idx (minF_num hp (k _).1.num) (k _).2.1.num, minF_idx hp (k _).1.num, idx_pinf]
    have := (h1 (-1)).1; have := (h2 (-1)).1; have := (h3 (-1)).1; have := (h4 (-1)).1
    have : idx l ≤ 9218868437227405312 := by have := (h1 1).1; have := (h1 1).2; omega
    omega
  have iu : idx (mulH a b c d) ≤ idx u := by
    unfold mulH hi4
    have hp : nan 18442240474082181120 = false := by decide
    rw [maxF_idx (maxF_num (maxF_num (maxF_num hp (k _).1.num) (k _).2.1.num) (k _).2.2.1.num) (k _).2.2.2.num, maxF_idx (maxF_num (maxF_num hp (k _).1.num) (k _).2.1.num) (k _).2.2.1.num, maxF_idx (maxF_num hp (k _).1.num) (k _).2.1.num, maxF_idx hp (k _).1.num, idx_ninf]
    have := (h1 1).2; have := (h2 1).2; have := (h3 1).2; have := (h4 1).2
    have : -9218868437227405312 ≤ idx u := by have := (h1 1).1; have := (h1 1).2; omega
    omega
  have S := prod_sub (Sub.self E.1 E.2) (Sub.self F.1 F.2)
  refine ⟨S.E, S.n, ?_, ?_⟩
  · have e : prodI a b c d = endsI (mulL a b c d) (mulH a b c d) := by unfold prodI; rw [E.2, F.2]; rfl
    have hs : idx (mulL a b c d) ≤ idx (mulH a b c d) := mul_LH E F
    obtain ⟨_, _, l2, u2⟩ := ends_eq c1 c2 hs
    rw [e]; have := (h1 1).1; have := (h1 1).2; omega
  · have e : prodI a b c d = endsI (mulL a b c d) (mulH a b c d) := by unfold prodI; rw [E.2, F.2]; rfl
    have hs : idx (mulL a b c d) ≤ idx (mulH a b c d) := mul_LH E F
    obtain ⟨_, _, l2, u2⟩ := ends_eq c1 c2 hs
    rw [e]; have := (h1 1).1; have := (h1 1).2; omega
theorem mulS_between {a c l u : Nat} (fa : finB a = true) (fc : finB c = true) (fl : finB l = true) (fu : finB u = true) (h : val l * (pw 1074 : Nat) ≤ val a * val c) (k : val a * val c ≤ val u * (pw 1074 : Nat)) (dir : Int) :
    idx l ≤ idx (mulS a c dir) ∧ idx (mulS a c dir) ≤ idx u := by
  rw [mul_fin dir fa fc]
  have e1 := plc_exact fl dir
  have e2 := plc_exact fu dir
  have m1 := plc_mono (S := val l) (D := 1) (T := val a * val c) (E := pw 1074) dir (by decide) (pw_pos _) (by simpa using h)
  have m2 := plc_mono (S := val a * val c) (D := pw 1074) (T := val u) (E := 1) dir (pw_pos _) (by decide) (by simpa using k)
  omega
theorem mul_abs_le {x y A B : Int} (hx : -A ≤ x ∧ x ≤ A) (hy : -B ≤ y ∧ y ≤ B) : -(A * B) ≤ x * y ∧ x * y ≤ A * B := by
  have h1 : x.natAbs ≤ A.natAbs := by omega
  have h2 : y.natAbs ≤ B.natAbs := by omega
  have h3 := Nat.mul_le_mul h1 h2
  rw [← Int.natAbs_mul, ← Int.natAbs_mul] at h3
  have h4 : 0 ≤ A * B := Int.mul_nonneg (by omega) (by omega)
  omega
theorem val_1 : val 4607182418800017408 = (pw 1074 : Nat) := by decide +kernel
theorem val_32 : val 4589168020290535424 * 16 = (pw 1074 : Nat) := by decide +kernel
theorem val_m32 : val 13812540057145311232 = - val 4589168020290535424 := by decide +kernel
theorem val_16 : val 4589168020290535424 * 16 = (pw 1074 : Nat) := by decide +kernel
theorem val_1000 : val 4652007308841189376 = 1000 * (pw 1074 : Nat) := by decide +kernel
theorem val_m1000 : val 13875379345695965184 = - val 4652007308841189376 := by decide +kernel
theorem val_1001 : val 4652016104934211584 = 1001 * (pw 1074 : Nat) := by decide +kernel
theorem val_62 : val 4634001706424729600 * 16 = 1001 * (pw 1074 : Nat) := by decide +kernel
theorem val_m62 : val 13857373743279505408 = - val 4634001706424729600 := by decide +kernel
theorem val_1062 : val 4652388014742306816 * 16 = 17001 * (pw 1074 : Nat) := by decide +kernel
theorem val_m1062 : val 13875760051597082624 = - val 4652388014742306816 := by decide +kernel

theorem aux1001 {z y P c : Int} (e : y * 16 = 1001 * P) (e2 : z * 16 = P) (b : c ≤ 1001 * P) (hz : 0 ≤ z) : z * c ≤ y * P := by
  have h := Int.mul_le_mul_of_nonneg_left b hz
  have hy : y = 1001 * z := by omega
  rw [hy, Int.mul_comm 1001 z, Int.mul_assoc]
  exact h
/-- The solutions of a field whose rates hang on nothing stay in the wide box for a short time. -/
theorem lines_plain {x r : Nat × Nat} {t : Nat} (lt : t < 18446744073709551616) (nt : nan t = false) (h0 : 0 ≤ idx t) (h1 : idx t ≤ idx 4589168020290535424) (hx : Lt x) (bx : boundB x = true) (mx : idx (magI x.1 x.2) ≤ idx 4652007308841189376)
    (hr : Lt r) (br : boundB r = true) (mr : idx (magI r.1 r.2) ≤ idx 4607182418800017408) :
    Lt (aroundP x (moreD (magI x.1 x.2) 4589168020290535424)) ∧ boundB (aroundP x (moreD (magI x.1 x.2) 4589168020290535424)) = true ∧ Lt (goP x r t) ∧ wideB (goP x r t) = false ∧
      insideB x.1 x.2 (aroundP x (moreD (magI x.1 x.2) 4589168020290535424)).1 (aroundP x (moreD (magI x.1 x.2) 4589168020290535424)).2 = true ∧
      insideB (goP x r t).1 (goP x r t).2 (aroundP x (moreD (magI x.1 x.2) 4589168020290535424)).1 (aroundP x (moreD (magI x.1 x.2) 4589168020290535424)).2 = true := by
  have nx := bound_none bx
  have nr := bound_none br
  have Ex := ends_of hx.1 hx.2 nx
  have Er := ends_of hr.1 hr.2 nr
  obtain ⟨cm, _, im, _⟩ := mag_idx Ex nx
  obtain ⟨_, _, ir, _⟩ := mag_idx Er nr
  generalize magI x.1 x.2 = m at *
  have j1 : idx 4607182418800017408 = 4607182418800017408 := by decide
  have j32 : idx 4589168020290535424 = 4589168020290535424 := by decide
  have j16 : idx 4589168020290535424 = 4589168020290535424 := by decide
  have j1000 : idx 4652007308841189376 = 4652007308841189376 := by decide
  have j1001 : idx 4652016104934211584 = 4652016104934211584 := by decide
  have j62 : idx 4634001706424729600 = 4634001706424729600 := by decide
  have jm62 : idx 13857373743279505408 = -4634001706424729600 := by decide
  have jm32 : idx 13812540057145311232 = -4589168020290535424 := by decide
  have jm1000 : idx 13875379345695965184 = -4652007308841189376 := by decide
  have k1 : Can 4607182418800017408 := ⟨by decide, by decide, by decide⟩
  have k32 : Can 4589168020290535424 := ⟨by decide, by decide, by decide⟩
  have km32 : Can 13812540057145311232 := ⟨by decide, by decide, by decide⟩
  have k16 : Can 4589168020290535424 := ⟨by decide, by decide, by decide⟩
  have k1000 : Can 4652007308841189376 := ⟨by decide, by decide, by decide⟩
  have km1000 : Can 13875379345695965184 := ⟨by decide, by decide, by decide⟩
  have k62 : Can 4634001706424729600 := ⟨by decide, by decide, by decide⟩
  have km62 : Can 13857373743279505408 := ⟨by decide, by decide, by decide⟩
  have f1 : finB 4607182418800017408 = true := by decide
  have f16 : finB 4589168020290535424 = true := by decide
  have f32 : finB 4589168020290535424 = true := by decide
  have fm32 : finB 13812540057145311232 = true := by decide
  have f62 : finB 4634001706424729600 = true := by decide
  have fm62 : finB 13857373743279505408 = true := by decide
  have f1000 : finB 4652007308841189376 = true := by decide
  have fm1000 : finB 13875379345695965184 = true := by decide
  have f1001 : finB 4652016104934211584 = true := by decide
  have f1062 : finB 4652388014742306816 = true := by decide
  have fm1062 : finB 13875760051597082624 = true := by decide
  have f0 : finB 0 = true := by decide
  have p1 := pw_pos 1074
  have m0 : 0 ≤ idx m := by omega
  have bx1 : -4652007308841189376 ≤ idx x.1 ∧ idx x.1 ≤ 4652007308841189376 ∧ -4652007308841189376 ≤ idx x.2 ∧ idx x.2 ≤ 4652007308841189376 := by omega
  have br1 : -4607182418800017408 ≤ idx r.1 ∧ idx r.1 ≤ 4607182418800017408 ∧ -4607182418800017408 ≤ idx r.2 ∧ idx r.2 ≤ 4607182418800017408 := by omega
  clear im ir mr
  -- the time
  have ct : Can (cl t) := ⟨cl_lt lt, nan_cl _ nt, fun h => by rw [idx_cl] at h; unfold cl; rw [if_pos h]⟩
  have it := idx_cl t
  have Et := ends_mk can_zero ct (by rw [idx0]; omega) (by rw [idx0]; decide) (by omega)
  have et : makeI 0 t = (0, cl t) := by
    have := make_can can_zero ct (by rw [idx0]; omega) (by rw [idx0]; decide) (by omega)
    unfold makeI at this ⊢
    rw [cl_cl] at this
    exact this
  have ft : finB (cl t) = true := finOf (by omega) (by omega)
  -- how far
  have fr1 : finB r.1 = true := finOf (by omega) (by omega)
  have fr2 : finB r.2 = true := finOf (by omega) (by omega)
  have va : ∀ {q : Nat}, idx q ≤ 4607182418800017408 → -4607182418800017408 ≤ idx q → -((pw 1074 : Nat) : Int) ≤ val q ∧ val q ≤ (pw 1074 : Nat) := fun {q} h k => by
    have a := val_le (a := q) (b := 4607182418800017408) |>.2 (by omega)
    have b := val_le (a := 13830554455654793216) (b := q) |>.2 (by rw [show idx 13830554455654793216 = -4607182418800017408 by decide]; omega)
    rw [show val 13830554455654793216 = - val 4607182418800017408 by decide +kernel] at b
    rw [val_1] at a b
    exact ⟨b, a⟩
  have vr1 := va (q := r.1) (by omega) (by omega)
  have vr2 := va (q := r.2) (by omega) (by omega)
  have vt : 0 ≤ val (cl t) ∧ val (cl t) ≤ val 4589168020290535424 := ⟨by have := val_le (a := 0) (b := cl t) |>.2 (by rw [idx0]; omega); rw [(val_eq_zero 0).2 (by decide)] at this; exact this, val_le.2 (by omega)⟩
  have pr : ∀ {q : Nat}, -((pw 1074 : Nat) : Int) ≤ val q ∧ val q ≤ (pw 1074 : Nat) → finB q = true → ∀ dir, (idx 13812540057145311232 ≤ idx (mulS 0 q dir) ∧ idx (mulS 0 q dir) ≤ idx 4589168020290535424) ∧ (idx 13812540057145311232 ≤ idx (mulS (cl t) q dir) ∧ idx (mulS (cl t) q dir) ≤ idx 4589168020290535424) := fun {q} h fq dir => by
    have h32 : 0 ≤ val 4589168020290535424 := by have := val_32; omega
    have hA := mul_abs_le (x := val 0) (A := val 4589168020290535424) (by rw [(val_eq_zero 0).2 (by decide)]; omega) h
    have hB := mul_abs_le (x := val (cl t)) (A := val 4589168020290535424) (by omega) h
    refine ⟨mulS_between f0 fq fm32 f32 ?_ ?_ dir, mulS_between ft fq fm32 f32 ?_ ?_ dir⟩
    · rw [val_m32, Int.neg_mul]; exact hA.1
    · exact hA.2
    · rw [val_m32, Int.neg_mul]; exact hB.1
    · exact hB.2
  obtain ⟨Ep, np, lp, up⟩ := prod_at (a := 0) (b := cl t) (c := r.1) (d := r.2) (l := 13812540057145311232) (u := 4589168020290535424) Et ⟨Er, nr⟩ fm32 f32 (fun dir => (pr vr1 fr1 dir).1) (fun dir => (pr vr2 fr2 dir).1) (fun dir => (pr vr1 fr1 dir).2) (fun dir => (pr vr2 fr2 dir).2)
  -- how much wider
  have Em := ends_mk cm cm (Int.le_refl _) (by omega) (by omega)
  have E1 := ends_mk k1 k1 (Int.le_refl _) (by omega) (by omega)
  have E01000 := ends_mk can_zero k1000 (by rw [idx0]; omega) (by rw [idx0]; decide) (by omega)
  have Sm := sum_sub (sub_of E1 E1 (Int.le_refl _) (Int.le_refl _)) (sub_of Em E01000 (by rw [idx0]; omega) (by omega))
  have sa := sum_at (l := 4607182418800017408) (u := 4652016104934211584) E1 E01000 f1 f1 f0 f1000 f1 f1001 (by rw [(val_eq_zero 0).2 (by decide)]; omega) (by rw [val_1, val_1000, val_1001]; omega)
  have em : ptP m = (m, m) := make_can cm cm (Int.le_refl _) (by omega) (by omega)
  have e1 : ptP 4607182418800017408 = (4607182418800017408, 4607182418800017408) := make_can k1 k1 (Int.le_refl _) (by omega) (by omega)
  have e16 : ptP 4589168020290535424 = (4589168020290535424, 4589168020290535424) := make_can k16 k16 (Int.le_refl _) (by omega) (by omega)
  have eS : addP (ptP 4607182418800017408) (ptP m) = sumI 4607182418800017408 4607182418800017408 m m := by rw [em, e1]; rfl
  have hd : moreD m 4589168020290535424 = (prodI 4589168020290535424 4589168020290535424 (sumI 4607182418800017408 4607182418800017408 m m).1 (sumI 4607182418800017408 4607182418800017408 m m).2).2 := by
    unfold moreD
    rw [eS, e16]; rfl
  generalize sumI 4607182418800017408 4607182418800017408 0 4652007308841189376 = CC at *
  have hS := Sm.lo
  have hS2 := Sm.hi
  have ES := Sm.E
  have nS := Sm.n
  rw [hd]
  clear Sm eS hd em
  generalize sumI 4607182418800017408 4607182418800017408 m m = S at *
  obtain ⟨s1, s2⟩ := S
  simp only at *
  have hle := ES.le
  have fs1 : finB s1 = true := finOf (by omega) (by omega)
  have fs2 : finB s2 = true := finOf (by omega) (by omega)
  have vs : ∀ {q : Nat}, idx 4607182418800017408 ≤ idx q → idx q ≤ idx 4652016104934211584 → finB q = true → ∀ dir, idx 4589168020290535424 ≤ idx (mulS 4589168020290535424 q dir) ∧ idx (mulS 4589168020290535424 q dir) ≤ idx 4634001706424729600 := fun {q} h k fq dir => by
    have a := val_le.2 h
    have b := val_le.2 k
    rw [val_1] at a
    rw [val_1001] at b
    have h16 : 0 ≤ val 4589168020290535424 := by have := val_16; omega
    exact mulS_between f16 fq f16 f62 (Int.mul_le_mul_of_nonneg_left a h16) (aux1001 val_62 val_16 b h16) dir
  have v1 := vs (q := s1) (by omega) (by omega) fs1
  have v2 := vs (q := s2) (by omega) (by omega) fs2
  have E16 := ends_mk k16 k16 (Int.le_refl _) (by omega) (by omega)
  obtain ⟨Ed, nd', ld, ud⟩ := prod_at (l := 4589168020290535424) (u := 4634001706424729600) E16 ⟨ES, nS⟩ f16 f62 v1 v2 v1 v2
  clear v1 v2 vs
  generalize prodI 4589168020290535424 4589168020290535424 s1 s2 = D at *
  obtain ⟨d1, d⟩ := D
  simp only at *
  have hdle := Ed.le
  have cd := Ed.cb
  have cn : Can (cl (fneg d)) := ⟨cl_lt (fneg_lt _), nan_cl _ (by rw [nan_fneg]; exact cd.num), fun h => by rw [idx_cl] at h; unfold cl; rw [if_pos h]⟩
  have ic := idx_clneg d
  have Eq := ends_mk cn cd (by omega) (by omega) (by omega)
  have eq : makeI (fneg d) d = (cl (fneg d), d) := by
    have := make_can cn cd (by omega) (by omega) (by omega)
    rw [← this]
    unfold makeI; rw [cl_cl]
  have ew : aroundP x d = sumI x.1 x.2 (cl (fneg d)) d := by unfold aroundP addP; rw [eq]
  have eg : goP x r t = sumI x.1 x.2 (prodI 0 (cl t) r.1 r.2).1 (prodI 0 (cl t) r.1 r.2).2 := by unfold goP addP mulP; rw [et]
  have Exx : Ends x.1 x.2 ∧ noneB x.1 x.2 = false := ⟨Ex, nx⟩
  have E1000 := ends_mk km1000 k1000 (by omega) (by omega) (by omega)
  have E62 := ends_mk km62 k62 (by omega) (by omega) (by omega)
  have B := sum_sub (sub_of Exx E1000 (by omega) (by omega)) (sub_of Eq E62 (by omega) (by omega))
  have sb := sum_at (l := 13875760051597082624) (u := 4652388014742306816) E1000 E62 fm1000 f1000 fm62 f62 fm1062 f1062 (by have := val_m1000; have := val_m62; have := val_m1062; have := val_1000; have := val_62; have := val_1062; omega) (by have := val_1000; have := val_62; have := val_1062; omega)
  generalize sumI 13875379345695965184 4652007308841189376 13857373743279505408 4634001706424729600 = DD at *
  have Gs := sum_sub (Sub.self Ex nx) (sub_of ⟨Ep, np⟩ Eq (by omega) (by omega))
  have Z := sum_sub (Sub.self Ex nx) (sub_of ends00 Eq (by rw [idx0]; omega) (by rw [idx0]; omega))
  rw [ew, eg]
  have LW : Lt (sumI x.1 x.2 (cl (fneg d)) d) := ⟨B.E.ca.lt, B.E.cb.lt⟩
  have LG : Lt (sumI x.1 x.2 (prodI 0 (cl t) r.1 r.2).1 (prodI 0 (cl t) r.1 r.2).2) := ⟨Gs.E.ca.lt, Gs.E.cb.lt⟩
  have j1062 : idx 4652388014742306816 = 4652388014742306816 := by decide
  have jm1062 : idx 13875760051597082624 = -4652388014742306816 := by decide
  have bl := B.lo
  have bu := B.hi
  have BW : boundB (sumI x.1 x.2 (cl (fneg d)) d) = true := (bound_idx LW).2 ⟨B.n, by omega, by omega⟩
  have IG := Gs.grow.ins
  refine ⟨LW, BW, LG, wide_of_bound LG (inside_bound LG LW BW IG Gs.n), ?_, IG⟩
  obtain ⟨_, _, a1, a2⟩ := add_nought hx bx
  have zl := Z.lo
  have zu := Z.hi
  unfold insideB
  rw [nx, B.n, fle_can B.E.ca.num Ex.ca.num (by omega), fle_can Ex.cb.num B.E.cb.num (by omega)]; rfl
end Go.Proofs.YtpkgpkabmechkaaGreat

/- The tape of a field whose rates hang on nothing, as the law makes it. -/
namespace Go.Proofs.YtpkgpkabmechkaaGreat
set_option linter.unusedSimpArgs false
set_option linter.unusedVariables false
open Go.RowKit
open Fl

@[go_sem] theorem build_op (a b : Nat) (w : World) : (Instr.build 66 #[(0, .int .i64 1), (4, .agg #[.float .f64 a, .float .f64 b])]).run Tryz.prog w = .ok (.agg #[.int .i64 1, .int .i64 0, .int .i64 0, .int .i64 0, .float .f64 a, .float .f64 b]) w := run_build w 66 _ _ (by kernel_rfl)
@[go_sem] theorem build_tape (n : Int) (w : World) : (Instr.build 45 #[(0, .int .i64 n)]).run Tryz.prog w = .ok (.agg #[.int .i64 n, .slice none 0 0, .slice none 0 0]) w := run_build w 45 _ _ (by kernel_rfl)
theorem info66 : (Tryz.prog.info? 66).map (fun i => (i.zero, i.size, i.bytes)) = some (some (.agg #[.int .i64 0, .int .i64 0, .int .i64 0, .int .i64 0, .float .f64 0, .float .f64 0]), 6, 48) := by kernel_rfl
theorem info3 : (Tryz.prog.info? 3).map (fun i => (i.zero, i.size, i.bytes)) = some (some (.int .i64 0), 1, 8) := by kernel_rfl

def opC (r : Nat → Nat × Nat) (i : Nat) : List Value := [.int .i64 1, .int .i64 0, .int .i64 0, .int .i64 0, (.float .f64 ((r i).1)), (.float .f64 ((r i).2))]
def opL (r : Nat → Nat × Nat) (k : Nat) : List Value := (List.range k).flatMap (opC r)
theorem opL_succ (r : Nat → Nat × Nat) (k : Nat) : opL r (k + 1) = opL r k ++ opC r k := by unfold opL; rw [List.range_succ, List.flatMap_append]; simp
theorem opL_len (r : Nat → Nat × Nat) (k : Nat) : (opL r k).length = k * 6 := by
  induction k with
  | zero => rfl
  | succ k ih => rw [opL_succ, List.length_append, ih]; unfold opC; simp; omega
theorem opL_get (r : Nat → Nat × Nat) {k i e : Nat} (h : i < k) (he : e < 6) : (opL r k)[i * 6 + e]? = (opC r i)[e]? := by
  induction k with
  | zero => omega
  | succ k ih =>
    rw [opL_succ]
    by_cases e1 : i = k
    · subst e1
      rw [List.getElem?_append_right (by rw [opL_len]; omega), opL_len]
      congr 1; omega
    · rw [List.getElem?_append_left (by rw [opL_len]; omega)]
      exact ih (by omega)
def intL (k : Nat) : List Value := (List.range k).map fun i : Nat => .int .i64 ((i : Nat) : Int)
theorem intL_succ (k : Nat) : intL (k + 1) = intL k ++ [.int .i64 (k : Int)] := by unfold intL; rw [List.range_succ, List.map_append]; rfl
def lineO (r : Nat → Nat × Nat) (i : Nat) : OpT := ⟨1, 0, 0, 0, (r i).1, (r i).2⟩
structure OwnL (base : Nat) (w : World) (vO vN : Value) (r : Nat → Nat × Nat) (k : Nat) : Prop where
  o : w.ownsRow base 66 6 vO k (opL r k)
  n : w.ownsRow base 3 1 vN k (intL k)
theorem ownL_nil (base : Nat) (w : World) (r : Nat → Nat × Nat) : OwnL base w (.slice none 0 0) (.slice none 0 0) r 0 := ⟨World.ownsRow_nil _ _ _ _, World.ownsRow_nil _ _ _ _⟩
theorem OwnL.below {base : Nat} {w w' : World} {vO vN : Value} {r : Nat → Nat × Nat} {k : Nat} (h : OwnL base w vO vN r k) (hb : Below w.heap.size w w') : OwnL base w' vO vN r k :=
  ⟨own_far h.o fun g hg => hb.block g (own_lt h.o g hg).2, own_far h.n fun g hg => hb.block g (own_lt h.n g hg).2⟩
/-- Rows of unlike types lie in unlike blocks. -/
theorem own_types {base b2 : Nat} {w : World} {e e' : TypeId} {s s' : Nat} {v v' : Value} {k k' : Nat} {xs ys : List Value} (h : w.ownsRow base e s v k xs) (h' : w.ownsRow b2 e' s' v' k' ys) (he : e ≠ e') {g : Nat} (hg : v.ownBlock = some g) : v'.ownBlock ≠ some g := by
  intro hg'
  rcases h.2 with ⟨rfl, _⟩ | ⟨g1, c1, cur1, rfl, _, hh1, _⟩
  · cases hg
  · rcases h'.2 with ⟨rfl, _⟩ | ⟨g2, c2, cur2, rfl, _, hh2, _⟩
    · cases hg'
    · obtain rfl : g1 = g := by simpa [Value.ownBlock] using hg
      obtain rfl : g2 = g1 := by simpa [Value.ownBlock] using hg'
      rw [hh1] at hh2
      cases hh2
      exact he rfl
theorem OwnL.ops {base : Nat} {w : World} {vO vN : Value} {r : Nat → Nat × Nat} {k : Nat} (h : OwnL base w vO vN r k) (hl : ∀ i, i < k → Lt (r i)) : OpsAt w vO (lineO r) k := by
  have ho := h.o
  rcases h.o.2 with ⟨rfl, rfl⟩ | ⟨g, cap, cur, rfl, hg, hh, hnc, hcm, q⟩
  · exact ⟨none, 0, rfl, fun i hi => by omega⟩
  · have key : ∀ i e, i < k → e < 6 → w.cell? ⟨g, i * 6 + e, none⟩ = (opC r i)[e]? := fun i e hi he => by
      rw [World.ownsRow.cellAt ho (i * 6 + e) (by omega), opL_get r hi he]
    refine ⟨_, cap, rfl, fun i hi => ⟨g, 0, rfl, (hl i hi).1, (hl i hi).2, ?_, ?_, ?_, ?_, ?_, ?_⟩⟩
    · rw [Nat.zero_add]; exact key i 0 hi (by omega)
    · rw [Nat.zero_add]; exact key i 1 hi (by omega)
    · rw [Nat.zero_add]; exact key i 2 hi (by omega)
    · rw [Nat.zero_add]; exact key i 3 hi (by omega)
    · rw [Nat.zero_add]; exact key i 4 hi (by omega)
    · rw [Nat.zero_add]; exact key i 5 hi (by omega)
theorem OwnL.outs {base : Nat} {w : World} {vO vN : Value} {r : Nat → Nat × Nat} {k : Nat} (h : OwnL base w vO vN r k) : OutsAt w vN (fun i => (i : Int)) k := by
  have ho := h.n
  rcases h.n.2 with ⟨rfl, rfl⟩ | ⟨g, cap, cur, rfl, hg, hh, hnc, hcm, q⟩
  · exact ⟨none, 0, rfl, fun i hi => by omega⟩
  · refine ⟨_, cap, rfl, fun i hi => ⟨g, 0, rfl, ?_⟩⟩
    rw [Nat.zero_add, World.ownsRow.cellAt ho i (by omega)]
    unfold intL
    rw [List.getElem?_map, List.getElem?_range hi]; rfl

section
variable {w : World} {ops : Array Oper} {rest : List Oper} {o : Oper} {a : Act} {Q : Exit → Act → World → Prop} {s x : Operand} {base : Nat} {vO vN : Value} {r : Nat → Nat × Nat} {k B p q : Nat} {fr : Nat × Nat}
theorem wpList_append_o (hgd : o.guard = none)
    (ho : o.op = .call { callee := .builtin .append, args := #[s, x], argTypes := #[42, 42] })
    (hs : a.eval s = vO) (hx : a.eval x = .slice (some ⟨B, 0, none⟩) 1 1) (hB : w.heap[B]? = some (.cells #[.int .i64 1, .int .i64 0, .int .i64 0, .int .i64 0, (.float .f64 p), (.float .f64 q)] 66 fr)) (hown : w.ownsRow base 66 6 vO k (opL r k)) (hn : w.ownsRow base 3 1 vN k (intL k)) (hpq : r k = (p, q)) (hL : k ≤ 3000000) (hb : base ≤ w.heap.size)
    (h : ∀ g cap w', w'.ownsRow base 66 6 (.slice (some ⟨g, 0, none⟩) (k + 1) cap) (k + 1) (opL r (k + 1)) → w'.ownsRow base 3 1 vN k (intL k) → Below base w w' → w.grownBy w' vO.ownBlock → wpList Tryz.prog ops Q rest (a.put o.dst (.slice (some ⟨g, 0, none⟩) (k + 1) cap)) w') :
    wpList Tryz.prog ops Q (o :: rest) a w := by
  obtain ⟨i0, hi, hz0, hz1, hz2⟩ := info_parts info66
  refine wpList_append_lies _ hgd s x 42 ho base 66 i0 (.agg #[.int .i64 0, .int .i64 0, .int .i64 0, .int .i64 0, .float .f64 0, .float .f64 0]) 6 48 Tryz.underlying42 hi hz0 hz1 hz2 rfl (by decide) vO k (opL r k) hs hown ⟨B, 0, none⟩ 1 1 [.int .i64 1, .int .i64 0, .int .i64 0, .int .i64 0, (.float .f64 p), (.float .f64 q)] hx rfl (World.news_of_block hB) ?_ (by omega) (by unfold maxLen; omega) (by omega) hb w.heap.size rfl ?_
  · intro u hu
    simp at hu
    rcases hu with rfl | rfl | rfl | rfl <;> rfl
  · intro g cap w1 h1 h2 h3 h4
    refine h g cap w1 ?_ (own_far hn fun g' hg' => h2.block g' (own_lt hn g' hg').2 fun e => own_types hn hown (by decide) hg' e.symm) (grown_below hown h2 hb) h2
    rw [opL_succ]
    unfold opC
    rw [hpq]; exact h1
theorem wpList_append_i (hgd : o.guard = none)
    (ho : o.op = .call { callee := .builtin .append, args := #[s, x], argTypes := #[43, 43] })
    (hs : a.eval s = vN) (hx : a.eval x = .slice (some ⟨B, 0, none⟩) 1 1) (hB : w.heap[B]? = some (.cells #[.int .i64 (k : Int)] 3 fr)) {k' : Nat} (hown : w.ownsRow base 66 6 vO k' (opL r k')) (hn : w.ownsRow base 3 1 vN k (intL k)) (hL : k ≤ 3000000) (hb : base ≤ w.heap.size)
    (h : ∀ g cap w', w'.ownsRow base 66 6 vO k' (opL r k') → w'.ownsRow base 3 1 (.slice (some ⟨g, 0, none⟩) (k + 1) cap) (k + 1) (intL (k + 1)) → Below base w w' → w.grownBy w' vN.ownBlock → wpList Tryz.prog ops Q rest (a.put o.dst (.slice (some ⟨g, 0, none⟩) (k + 1) cap)) w') :
    wpList Tryz.prog ops Q (o :: rest) a w := by
  obtain ⟨i0, hi, hz0, hz1, hz2⟩ := info_parts info3
  refine wpList_append_lies _ hgd s x 43 ho base 3 i0 (.int .i64 0) 1 8 Tryz.underlying43 hi hz0 hz1 hz2 rfl (by decide) vN k (intL k) hs hn ⟨B, 0, none⟩ 1 1 [.int .i64 (k : Int)] hx rfl (World.news_of_block hB) ?_ (by omega) (by unfold maxLen; omega) (by omega) hb w.heap.size rfl ?_
  · intro u hu
    simp at hu
    subst hu; rfl
  · intro g cap w1 h1 h2 h3 h4
    refine h g cap w1 (own_far hown fun g' hg' => h2.block g' (own_lt hown g' hg').2 fun e => own_types hown hn (by decide) hg' e.symm) ?_ (grown_below hn h2 hb) h2
    rw [intL_succ]; exact h1
end

/-- Block b holds a tape. -/
structure BoxT (w : World) (b : Nat) (n : Int) (vO vN : Value) : Prop where
  blk : w.heap[b]? = some (Obj.cells #[.int .i64 n, vO, vN] 45)
namespace BoxT
variable {w : World} {b : Nat} {n : Int} {vO vN : Value}
theorem c0 (h : BoxT w b n vO vN) : w.cell? ⟨b, 0, none⟩ = some (.int .i64 n) := by simp [World.cell?, h.blk]
theorem c1 (h : BoxT w b n vO vN) : w.cell? ⟨b, 1, none⟩ = some vO := by simp [World.cell?, h.blk]
theorem c2 (h : BoxT w b n vO vN) : w.cell? ⟨b, 2, none⟩ = some vN := by simp [World.cell?, h.blk]
theorem f1 (h : BoxT w b n vO vN) : w.frozen? ⟨b, 1, none⟩ = false := by simp [World.frozen?, h.blk]
theorem f2 (h : BoxT w b n vO vN) : w.frozen? ⟨b, 2, none⟩ = false := by simp [World.frozen?, h.blk]
theorem lt (h : BoxT w b n vO vN) : b < w.heap.size := by
  rcases Nat.lt_or_ge b w.heap.size with h' | h'
  · exact h'
  · have := h.blk; simp [Array.getElem?_eq_none h'] at this
theorem below (h : BoxT w b n vO vN) {w' : World} (hb : Below w.heap.size w w') : BoxT w' b n vO vN := ⟨(hb.block b h.lt).trans h.blk⟩
theorem new (w : World) (n : Int) (vO vN : Value) : BoxT (w.alloc (Obj.cells #[.int .i64 n, vO, vN] 45)) w.heap.size n vO vN := ⟨by unfold World.alloc; simp [Array.getElem?_push]⟩
theorem setO (h : BoxT w b n vO vN) (v : Value) : BoxT (w.setCell ⟨b, 1, none⟩ v) b n v vN := by
  have e := h.blk
  refine ⟨?_⟩
  unfold World.setCell
  simp [Array.getElem?_modify, e]
theorem setN (h : BoxT w b n vO vN) (v : Value) : BoxT (w.setCell ⟨b, 2, none⟩ v) b n vO v := by
  have e := h.blk
  refine ⟨?_⟩
  unfold World.setCell
  simp [Array.getElem?_modify, e]
end BoxT
theorem own_set {base : Nat} {w : World} {e : TypeId} {size : Nat} {v : Value} {k : Nat} {xs : List Value} (h : w.ownsRow base e size v k xs) {b o : Nat} (u : Value) (hb : ∀ g, v.ownBlock = some g → b ≠ g) : (w.setCell ⟨b, o, none⟩ u).ownsRow base e size v k xs :=
  own_far h fun g hg => Below.heap_setCell _ _ _ _ (fun he => hb g hg he.symm)

/-! ### The field's tape is one, and told of any box -/
theorem line_tape {r : Nat → Nat × Nat} {n : Nat} (h1 : 1 ≤ n) (h2 : n ≤ 24) (hr : ∀ i, i < n → noneB (r i).1 (r i).2 = false) : TapeR (n : Int) n (lineO r) n (fun i => (i : Int)) :=
  ⟨by omega, by omega, by omega, by omega, fun i hi => Or.inl ⟨rfl, hr i hi⟩, fun j hj => by unfold badO; simp; omega⟩
theorem line_ev {r : Nat → Nat × Nat} {b : Nat → Nat × Nat} {n i : Nat} (hi : i < n) (hr : ∀ i, i < n → noneB (r i).1 (r i).2 = false) : evF (lineO r) b i = r i := by
  rw [evF_eq (V := 0) (show opR (lineO r i) i 0 from Or.inl ⟨rfl, hr i hi⟩)]
  rfl
theorem line_evalE {r : Nat → Nat × Nat} {b : Nat → Nat × Nat} {n : Nat} (h1 : 1 ≤ n) (h2 : n ≤ 24) (hl : ∀ i, i < n → Lt (r i)) (hr : ∀ i, i < n → boundB (r i) = true) (hb : ∀ i, i < n → noneB (b i).1 (b i).2 = false) : evalE (n : Int) n (lineO r) n (fun i => (i : Int)) b n = 0 := by
  have hn := fun i hi => bound_none (hr i hi)
  have hs : startE (n : Int) n (lineO r) n (fun i => (i : Int)) b n = 0 := by
    unfold startE
    rw [if_pos (line_tape h1 h2 hn), if_pos ⟨rfl, any_of hb⟩]
  unfold evalE
  rw [if_neg (by simpa using hs)]
  have : ∀ k, k ≤ n → evErr (lineO r) b k = 0 := by
    intro k
    induction k with
    | zero => intro _; rfl
    | succ k ih =>
      intro hk
      refine evErr_on (ih (by omega)) ?_
      unfold errAt
      rw [if_neg (by unfold evB valB lineO; simp), line_ev (show k < n by omega) hn, wide_of_bound (hl k (by omega)) (hr k (by omega))]
      rfl
  exact this n (Nat.le_refl n)
end Go.Proofs.YtpkgpkabmechkaaGreat

/- Plain: a time by 32; what the law of lines needs. -/
namespace Go.Proofs.YtpkgpkabmechkaaGreat
set_option linter.unusedSimpArgs false
set_option linter.unusedVariables false
open Go.RowKit
open Fl

@[go_sem high] theorem run_fq (P : Program) (w : World) (t : TypeId) (a b : Nat) (h : (floatBits .quo .f64 a b).isSome = true) : (binOp .quo t (.float .f64 a) (.float .f64 b)).run P w = .ok (.float .f64 (fq a b)) w := by
  obtain ⟨r, hr⟩ := Option.isSome_iff_exists.1 h
  rw [run_float_arith w .quo t .f64 a b r hr]
  unfold fq
  rw [hr]; rfl
theorem over32 {time : Nat} (h0 : flt 0 time = true) (h1 : fle time 4607182418800017408 = true) :
    (floatBits .quo .f64 time 4629700416936869888).isSome = true ∧ fq time 4629700416936869888 < 18446744073709551616 ∧ nan (fq time 4629700416936869888) = false ∧ 0 ≤ idx (fq time 4629700416936869888) ∧ idx (fq time 4629700416936869888) ≤ idx 4589168020290535424 := by
  obtain ⟨_, n, l⟩ := flt_true.1 h0
  obtain ⟨_, _, u⟩ := fle_true.1 h1
  have e0 : idx 0 = 0 := by decide
  have e1 : idx 4607182418800017408 = 4607182418800017408 := by decide
  have e16 : idx 4589168020290535424 = 4589168020290535424 := by decide
  have hs : sgn time = false := by
    cases hs : sgn time
    · rfl
    · unfold idx at l e0; rw [hs] at l; simp at l; omega
  have ir : idx time = (rung time : Int) := by unfold idx; rw [hs]; rfl
  have hr : rung time ≤ 4607182418800017408 := by omega
  have hf : rung time < INFR := by unfold INFR; omega
  have hf2 : rung 4629700416936869888 < INFR := by decide
  have h02 : rung 4629700416936869888 ≠ 0 := by decide
  have hsome := fq_some hf hf2 h02
  have g1 : G (rung time) ≤ pw 1074 := by
    refine Nat.le_trans (G_le hr) (Nat.le_of_eq ?_)
    have := val_1
    have e : val 4607182418800017408 = (G 4607182418800017408 : Int) := rfl
    rw [e] at this
    exact_mod_cast this
  have g32 : G (rung 4629700416936869888) = 32 * pw 1074 := by decide +kernel
  have g16 : G 4589168020290535424 * 16 = pw 1074 := by decide +kernel
  obtain ⟨rr, e, hr2, hB⟩ := fdiv_some hf hf2 h02
  have hsw : rr < SW := Nat.lt_of_le_of_lt hr2 (by decide)
  have eq : fq time 4629700416936869888 = word false rr := by
    unfold fq
    rw [e, hs, show sgn 4629700416936869888 = false by decide]; rfl
  have hle := hB 4589168020290535424 (by decide) (by
    rw [g32]
    generalize G 4589168020290535424 = z at *
    generalize pw 1074 = P at *
    subst g16
    have a := Nat.mul_le_mul_right (z * 16) g1
    have : z * (32 * (z * 16)) = 2 * (z * 16 * (z * 16)) := by
      simp only [Nat.mul_assoc, Nat.mul_left_comm, Nat.mul_comm]
    rw [this]
    omega)
  refine ⟨by rw [hsome]; rfl, by rw [eq]; exact word_lt _ hsw, by rw [eq]; exact nan_word _ hr2, ?_, ?_⟩
  · rw [eq, idx_word _ hsw]; simp
  · rw [eq, idx_word _ hsw, e16]; simp; omega

theorem line_out {r b : Nat → Nat × Nat} {n i : Nat} (hi : i < n) (hr : ∀ i, i < n → noneB (r i).1 (r i).2 = false) : outF (lineO r) (fun i => (i : Int)) b i = r i := by
  unfold outF
  simp only [Int.toNat_natCast]
  exact line_ev hi hr
theorem mag_le {a : Nat × Nat} {c : Nat} (hx : Lt a) (hb : boundB a = true) (hc : nan c = false) (h : flt c (magI a.1 a.2) = false) : idx (magI a.1 a.2) ≤ idx c := by
  have n := bound_none hb
  have cm := (mag_idx (ends_of hx.1 hx.2 n) n).1
  unfold flt at h
  rw [hc, cm.num] at h
  simp at h
  exact h
theorem q_bounds {q : Nat} (nq : nan q = false) (i0 : 0 ≤ idx q) (i1 : idx q ≤ idx 4589168020290535424) : fle 0 q = true ∧ fle q 4697254411347427328 = true := by
  have e0 : idx 0 = 0 := by decide
  have e1 : idx 4589168020290535424 = 4589168020290535424 := by decide
  have e2 : idx 4697254411347427328 = 4697254411347427328 := by decide
  exact ⟨fle_can (by decide) nq (by omega), fle_can nq (by decide) (by omega)⟩
section
variable {r x : Nat → Nat × Nat} {n q : Nat} (h1 : 1 ≤ n) (h2 : n ≤ 24) (hlr : ∀ i, i < n → Lt (r i)) (hlx : ∀ i, i < n → Lt (x i)) (hbr : ∀ i, i < n → boundB (r i) = true) (hbx : ∀ i, i < n → boundB (x i) = true)
  (hm : ∀ j, j < n → flt 4607182418800017408 (magI (r j).1 (r j).2) = false ∧ flt 4652007308841189376 (magI (x j).1 (x j).2) = false)
  (lq : q < 18446744073709551616) (nq : nan q = false) (i0 : 0 ≤ idx q) (i1 : idx q ≤ idx 4589168020290535424)
include h1 h2 hlr hlx hbr hbx hm lq nq i0 i1
theorem line_wide : holdsB (n : Int) n (lineO r) n (fun i => (i : Int)) x (widerF x 4589168020290535424) q n = true := by
  have L := fun i hi => lines_plain lq nq i0 i1 (hlx i hi) (hbx i hi) (mag_le (hlx i hi) (hbx i hi) (by decide) (hm i hi).2) (hlr i hi) (hbr i hi) (mag_le (hlr i hi) (hbr i hi) (by decide) (hm i hi).1)
  have hn := fun i hi => bound_none (hbr i hi)
  have hE := line_evalE (r := r) (b := widerF x 4589168020290535424) h1 h2 hlr hbr (fun i hi => bound_none (L i hi).2.1)
  unfold holdsB reachB
  rw [decide_eq_true hE, reachOk_iff.2 fun i hi => ?_, inAll_iff.2 fun i hi => ?_, inAll_iff.2 fun i hi => ?_]
  · rfl
  · unfold reachY
    rw [line_out hi hn]; exact (L i hi).2.2.2.2.2
  · exact (L i hi).2.2.2.2.1
  · rw [line_out hi hn]; exact (L i hi).2.2.2.1
omit hm in
theorem line_nought (hz : feq q 0 = true) : holdsB (n : Int) n (lineO r) n (fun i => (i : Int)) x x q n = true := by
  obtain ⟨b0, b1⟩ := q_bounds nq i0 i1
  have hn := fun i hi => bound_none (hbr i hi)
  have L := fun i hi => go_nought lq b0 b1 hz (hlx i hi) (hbx i hi) (hlr i hi) (hbr i hi)
  have hE := line_evalE (r := r) (b := x) h1 h2 hlr hbr (fun i hi => bound_none (hbx i hi))
  unfold holdsB reachB
  rw [decide_eq_true hE, reachOk_iff.2 fun i hi => ?_, inAll_iff.2 fun i hi => ?_, inAll_iff.2 fun i hi => ?_]
  · rfl
  · unfold reachY
    rw [line_out hi hn]; exact (L i hi).2
  · exact inside_me (hlx i hi)
  · rw [line_out hi hn]; exact (L i hi).1
omit h1 h2 hlr hlx hbx hm lq nq i0 i1 in
theorem line_inside {ys : Nat → Nat × Nat} (h : holdsB (n : Int) n (lineO r) n (fun i => (i : Int)) x ys q n = true) : ∀ i, i < n → insideB (goP (x i) (r i) q).1 (goP (x i) (r i) q).2 (ys i).1 (ys i).2 = true := fun i hi => by
  unfold holdsB at h
  rw [Bool.and_eq_true, Bool.and_eq_true] at h
  have := inAll_iff.1 h.2.2 i hi
  unfold reachY at this
  rw [line_out hi (fun i hi => bound_none (hbr i hi))] at this
  exact this
end
end Go.Proofs.YtpkgpkabmechkaaGreat
