/- Contracts: the logarithm, of an interval. -/
import Derived.Test.YtpkgpkabmechkaaGreatPqE4
namespace Go.Proofs.YtpkgpkabmechkaaGreat
set_option linter.unusedSimpArgs false
set_option linter.unusedVariables false
open Go.RowKit
open Fl

theorem cut_box {W wc : World} {B : Nat} {x : Nat × Nat} (hb : Below W.heap.size W wc) (hx : Box wc B x) :
    ∃ (B' : Nat) (q : Later W), Value.pointer (some ⟨B, 0, none⟩) = .pointer (some ⟨B', 0, none⟩) ∧ wc = q.val ∧ Box wc B' x := ⟨B, ⟨wc, hb⟩, rfl, rfl, hx⟩

set_option maxHeartbeats 4000000 in
set_option maxRecDepth 100000 in
theorem log_core (v m0 m : Nat) (k0 k : Int) (p1 p2 n1 n2 d1 d2 g1 g2 s1 s2 q1 q2 t1 t2 e90 a1 a2 o1 o2 w1 w2 z1 z2 x1 x2 l1 l2 y1 y2 r1 r2 : Nat)
    (z0 : feq v 0 = false) (IP : Gives 167 #[(.float .f64 v), .int .i64 1] (.bool false)) (FR : Gives 236 #[(.float .f64 v)] (.tuple #[(.float .f64 m0), .int .i64 k0])) (b1 : -2000 ≤ k0) (b2 : k0 ≤ 2000)
    (hm : (flt m0 4604930618986332160 = false ∧ m = m0 ∧ k = k0) ∨ (flt m0 4604930618986332160 = true ∧ (∀ w, fop .mul 4611686018427387904 m0 w = m) ∧ nd .mul 4611686018427387904 m0 = 0 ∧ k = k0 - 1))
    (P : Gives 139 #[(.float .f64 m)] (.agg #[.float .f64 p1, .float .f64 p2])) (O : Gives 82 #[.int .i64 1] (.agg #[.float .f64 n1, .float .f64 n2])) (S : Gives 75 #[(.agg #[.float .f64 p1, .float .f64 p2]), (.agg #[.float .f64 n1, .float .f64 n2])] (.agg #[.float .f64 d1, .float .f64 d2])) (A : Gives 80 #[(.agg #[.float .f64 p1, .float .f64 p2]), (.agg #[.float .f64 n1, .float .f64 n2])] (.agg #[.float .f64 g1, .float .f64 g2]))
    (D : Gives 70 #[(.agg #[.float .f64 d1, .float .f64 d2]), (.agg #[.float .f64 g1, .float .f64 g2])] (.agg #[.float .f64 s1, .float .f64 s2])) (Q : Gives 172 #[(.agg #[.float .f64 s1, .float .f64 s2])] (.agg #[.float .f64 q1, .float .f64 q2]))
    (SR : ∀ (b : Nat) (W : World), Box W b (q1, q2) → Calls Tryz.prog 141 #[.int .i64 20, .func (.func 237) #[] #[.pointer (some ⟨b, 0, none⟩)]] W fun e w' => ∃ q : Later W, e = .returned (.agg #[.float .f64 t1, .float .f64 t2]) ∧ w' = q.val)
    (L : Gives 144 #[(.float .f64 4607182418800017408), .int .i64 (-90)] (.float .f64 e90)) (A1 : Gives 143 #[(.agg #[.float .f64 t1, .float .f64 t2]), (.float .f64 e90)] (.agg #[.float .f64 a1, .float .f64 a2])) (T : Gives 82 #[.int .i64 2] (.agg #[.float .f64 o1, .float .f64 o2]))
    (M1 : Gives 140 #[(.agg #[.float .f64 o1, .float .f64 o2]), (.agg #[.float .f64 s1, .float .f64 s2])] (.agg #[.float .f64 w1, .float .f64 w2])) (M2 : Gives 140 #[(.agg #[.float .f64 w1, .float .f64 w2]), (.agg #[.float .f64 a1, .float .f64 a2])] (.agg #[.float .f64 z1, .float .f64 z2])) (WK : Gives 82 #[.int .i64 k] (.agg #[.float .f64 x1, .float .f64 x2])) (LN : Gives 13 #[] (.agg #[.float .f64 l1, .float .f64 l2]))
    (M3 : Gives 140 #[(.agg #[.float .f64 x1, .float .f64 x2]), (.agg #[.float .f64 l1, .float .f64 l2])] (.agg #[.float .f64 y1, .float .f64 y2])) (A2 : Gives 80 #[(.agg #[.float .f64 y1, .float .f64 y2]), (.agg #[.float .f64 z1, .float .f64 z2])] (.agg #[.float .f64 r1, .float .f64 r2])) : Gives 210 #[(.float .f64 v)] (.agg #[.float .f64 r1, .float .f64 r2]) := by
  intro w
  rcases hm with ⟨hm, rfl, rfl⟩ | ⟨hm, hf, hn, rfl⟩
  all_goals
    go_enter Tryz.func210, Tryz.ntmps210
    go_wp2_with (first
      | (go_at_call 167; (with_reducible refine (IP.go _).mono ?_); rintro _ _ ⟨n, rfl, rfl⟩)
      | (go_at_call 236; (with_reducible refine (FR.go _).mono ?_); rintro _ _ ⟨n, rfl, rfl⟩)
      | (go_at_call 139; (with_reducible refine (P.go _).mono ?_); rintro _ _ ⟨n, rfl, rfl⟩))
    refine cut_world (fun W hW => ?_)
    have HW := Lib.hid hW
    have cw0 : W.cell? ⟨n.val.heap.size, 0, none⟩ = some (.float .f64 p1) := by rw [← hW]; simp [go_sem]
    have cw1 : W.cell? ⟨n.val.heap.size, 1, none⟩ = some (.float .f64 p2) := by rw [← hW]; simp [go_sem]
    have hB : Below w.heap.size w W := by rw [← hW]; (repeat' first | (with_reducible first | exact Below.refl _ _ | assumption | refine Later.belowOf _ ?_ ?_ | refine Below.alloc ?_ ?_ _ | refine Below.setCell ?_ ?_ _ | refine Below.drewN' _ ?_ | refine Below.drew ?_ | exact Ge.le) | go_size)
    haveI gn : Ge W (n.val.heap.size + 1) := ⟨World.block_lt_of_cell? W _ cw0⟩
    have bw : Box W w.heap.size (0, 0) := (Box.new w 0 0).below (by rw [← hW]; (repeat' first | (with_reducible first | exact Below.refl _ _ | assumption | refine Later.belowOf _ ?_ ?_ | refine Below.alloc ?_ ?_ _ | refine Below.setCell ?_ ?_ _ | refine Below.drewN' _ ?_ | refine Below.drew ?_ | exact Ge.le) | go_size))
    clear hW
    go_cut [6] (fun v wc => ∃ (B : Nat) (q : Later W), v = .pointer (some ⟨B, 0, none⟩) ∧ wc = q.val ∧ Box wc B (s1, s2))
    case first =>
      go_region_held3 (fun w' => w'.cell? ⟨n.val.heap.size, 0, none⟩ = some (.float .f64 p1) ∧ w'.cell? ⟨n.val.heap.size, 1, none⟩ = some (.float .f64 p2))
        (first | (go_simp; done) | go_keep)
        ((first | (go_at_call 82; (with_reducible refine (O.go _).mono ?_); rintro _ _ ⟨nn, rfl, rfl⟩) | (go_at_call 75; (with_reducible refine (S.go _).mono ?_); rintro _ _ ⟨nn, rfl, rfl⟩) | (go_at_call 80; (with_reducible refine (A.go _).mono ?_); rintro _ _ ⟨nn, rfl, rfl⟩) | (go_at_call 70; (with_reducible refine (D.go _).mono ?_); rintro _ _ ⟨nn, rfl, rfl⟩)))
      all_goals
        rename_i hHeld
        clear hHeld
        go_wp2
        go_meet
        case rel =>
          refine cut_box ?_ ?_
          · (repeat' first | (with_reducible first | exact Below.refl _ _ | assumption | refine Later.belowOf _ ?_ ?_ | refine Below.alloc ?_ ?_ _ | refine Below.setCell ?_ ?_ _ | refine Below.drewN' _ ?_ | refine Below.drew ?_ | exact Ge.le) | go_size)
          · first | exact Box.new _ _ _ | exact Box.set ((Box.new _ 0 0).below (by (repeat' first | (with_reducible first | exact Below.refl _ _ | assumption | refine Later.belowOf _ ?_ ?_ | refine Below.alloc ?_ ?_ _ | refine Below.setCell ?_ ?_ _ | refine Below.drewN' _ ?_ | refine Below.drew ?_ | exact Ge.le) | go_size))) _ _
    obtain ⟨B, q, rfl, rfl, hx⟩ := hcut
    have c0 := hx.c0
    have c1 := hx.c1
    haveI gq : Ge q.val (B + 1) := ⟨hx.lt⟩
    have hB2 : Below w.heap.size w q.val := hB.trans (q.below.mono hB.size)
    haveI gw : Ge q.val w.heap.size := ⟨hB2.size⟩
    haveI gw1 : Ge q.val (w.heap.size + 1) := ⟨(bw.later q).lt⟩
    have d0 := (bw.later q).c0
    have d1 := (bw.later q).c1
    have f0 := (bw.later q).f0
    have f1 := (bw.later q).f1
    have bq := bw.later q
    clear hx bw hB HW cw0 cw1
    go_wp2_with (first
      | (go_at_call 172; (with_reducible refine (Q.go _).mono ?_); rintro _ _ ⟨n, rfl, rfl⟩)
      | (go_at_call 141; (with_reducible refine (SR _ _ (Box.new _ _ _)).mono ?_); rintro _ _ ⟨n, rfl, rfl⟩))
    (refine wp_region_tail_later 7 (by kernel_rfl) (by kernel_rfl) ?_; simp only [List.take_succ_cons, List.take_zero, List.drop_succ_cons, List.drop_zero])
    repeat (go_big_quiet_step (first | (go_at_call 82; (with_reducible exact T.later _)) | (go_at_call 140; first | (with_reducible exact M1.later _) | (with_reducible exact M2.later _)) | (go_at_call 144; (with_reducible exact L.later _)) | (go_at_call 143; (with_reducible exact A1.later _))))
    (refine wpQuiet_nil ?_; rintro _ ⟨nq, rfl⟩)
    go_wp2
    (refine wp_region_tail_later 6 (by kernel_rfl) (by kernel_rfl) ?_; simp only [List.take_succ_cons, List.take_zero, List.drop_succ_cons, List.drop_zero])
    repeat (go_big_quiet_step (first | (go_at_call 82; (with_reducible exact WK.later _)) | (go_at_call 140; (with_reducible exact M3.later _)) | (go_at_call 13; (with_reducible exact LN.later _)) | (go_at_call 80; (with_reducible exact A2.later _))))
    (refine wpQuiet_nil ?_; rintro _ ⟨nq, rfl⟩)
    have bz : Box nq.val w.heap.size (0, 0) := bq.below (by (repeat' first | (with_reducible first | exact Below.refl _ _ | assumption | refine Later.belowOf _ ?_ ?_ | refine Below.alloc ?_ ?_ _ | refine Below.setCell ?_ ?_ _ | refine Below.drewN' _ ?_ | refine Below.drew ?_ | exact Ge.le) | go_size))
    have e0 := bz.set0 (.float .f64 r1)
    have e1 := bz.set1 r1 (.float .f64 r2)
    have g0 := bz.c0
    have g1 := bz.c1
    have h0 := bz.f0
    have h1 := bz.f1
    clear bz bq
    go_wp2
    exact bodyPost_ret (v := (.agg #[.float .f64 r1, .float .f64 r2])) (by simp [results, Tryz.results210, go_sem, e0, e1]) rfl ⟨rfl, by (repeat' first | (with_reducible first | exact Below.refl _ _ | assumption | refine Later.belowOf _ ?_ ?_ | refine Below.alloc ?_ ?_ _ | refine Below.setCell ?_ ?_ _ | refine Below.drewN' _ ?_ | refine Below.drew ?_ | exact Ge.le) | go_size)⟩

theorem frM_rung (v : Nat) : rung (frM v) < INFR := by
  have : frM v < 4607182418800017408 := by unfold frM; omega
  unfold rung SW INFR
  omega
theorem frM_lt (v : Nat) : frM v < 18446744073709551616 := by unfold frM; omega
theorem frE_bd {v : Nat} (h1 : v < 9218868437227405312) : -2000 ≤ frE v ∧ frE v ≤ 2000 := by
  have := frN_lt h1
  unfold frE
  split <;> omega
theorem logM_lt (v : Nat) : logM v < 18446744073709551616 := by
  unfold logM; split
  · exact fm_lt (by decide) (frM_rung v)
  · exact frM_lt v

set_option maxHeartbeats 1000000 in
theorem log_zero : Gives 210 #[(.float .f64 0)] (.agg #[.float .f64 ((makeI 18442240474082181120 13872740517789302784).1), .float .f64 ((makeI 18442240474082181120 13872740517789302784).2)]) := by
  intro w
  have M := make_any 18442240474082181120 13872740517789302784 (by decide) (by decide)
  have z : feq 0 0 = true := by decide
  generalize makeI 18442240474082181120 13872740517789302784 = r at *
  go_enter Tryz.func210, Tryz.ntmps210
  go_wp2_with (first | (go_at_call 137; (with_reducible refine (math_Inf_neg.go _).mono ?_); rintro _ _ ⟨n, rfl, rfl⟩) | (go_at_call 136; (with_reducible refine (M.go _).mono ?_); rintro _ _ ⟨n, rfl, rfl⟩))
  go_returns
  exact ⟨rfl, by (repeat' first | (with_reducible first | exact Below.refl _ _ | assumption | refine Later.belowOf _ ?_ ?_ | refine Below.alloc ?_ ?_ _ | refine Below.setCell ?_ ?_ _ | refine Below.drewN' _ ?_ | refine Below.drew ?_ | exact Ge.le) | go_size)⟩
set_option maxHeartbeats 1000000 in
theorem log_inf : Gives 210 #[(.float .f64 9218868437227405312)] (.agg #[.float .f64 ((makeI 4649368480934526976 9218868437227405312).1), .float .f64 ((makeI 4649368480934526976 9218868437227405312).2)]) := by
  intro w
  have M := make_any 4649368480934526976 9218868437227405312 (by decide) (by decide)
  have z : feq 9218868437227405312 0 = false := by decide
  have I := isInfP_any 9218868437227405312
  rw [show flt 9218868437227405311 9218868437227405312 = true by decide] at I
  generalize makeI 4649368480934526976 9218868437227405312 = r at *
  go_enter Tryz.func210, Tryz.ntmps210
  go_wp2_with (first | (go_at_call 167; (with_reducible refine (I.go _).mono ?_); rintro _ _ ⟨n, rfl, rfl⟩) | (go_at_call 136; (with_reducible refine (M.go _).mono ?_); rintro _ _ ⟨n, rfl, rfl⟩))
  go_returns
  exact ⟨rfl, by (repeat' first | (with_reducible first | exact Below.refl _ _ | assumption | refine Later.belowOf _ ?_ ?_ | refine Below.alloc ?_ ?_ _ | refine Below.setCell ?_ ?_ _ | refine Below.drewN' _ ?_ | refine Below.drew ?_ | exact Ge.le) | go_size)⟩

/-- The logarithm of a number of 0 or more, by its bits. -/
theorem log_c {v : Nat} (hv : v ≤ 9218868437227405312) : Gives 210 #[(.float .f64 v)] (.agg #[.float .f64 ((logV v).1), .float .f64 ((logV v).2)]) := by
  unfold logV
  by_cases h0 : v = 0
  · subst h0
    rw [show feq 0 0 = true by decide, if_pos rfl]
    exact log_zero
  · by_cases h1 : v = 9218868437227405312
    · subst h1
      rw [show feq 9218868437227405312 0 = false by decide, if_neg Bool.false_ne_true, show flt 9218868437227405311 9218868437227405312 = true by decide, if_pos rfl]
      exact log_inf
    · have g0 : 0 < v := by omega
      have g1 : v < 9218868437227405312 := by omega
      have i1 := idx_small (x := v) (by omega)
      have z0 : feq v 0 = false := by
        cases h : feq v 0
        · rfl
        · have := (feq_true.1 h).2.2
          rw [i1, show idx 0 = 0 by decide] at this
          omega
      have z1 : flt 9218868437227405311 v = false := by
        cases h : flt 9218868437227405311 v
        · rfl
        · have := (flt_true.1 h).2.2
          rw [i1, show idx 9218868437227405311 = 9218868437227405311 by decide] at this
          omega
      have I := isInfP_any v
      rw [z1] at I
      rw [z0, if_neg Bool.false_ne_true, z1, if_neg Bool.false_ne_true]
      have lp := lt_pt (logM_lt v)
      have l1 := lt_whole 1
      have ls := lt_div (x := subP (ptP (logM v)) (wholeP 1)) (y := addP (ptP (logM v)) (wholeP 1))
      have lq := lt_sqr (x := divP (subP (ptP (logM v)) (wholeP 1)) (addP (ptP (logM v)) (wholeP 1)))
      have hs : ∀ i, Lt ((fun i : Int => divP (mulP (sqrP (divP (subP (ptP (logM v)) (wholeP 1)) (addP (ptP (logM v)) (wholeP 1)))) (wholeP (2 * i - 1))) (wholeP (2 * i + 1))) i) := fun i => lt_div
      have lt := lt_ser hs 20 l1
      have L90 := ldexp_one (-90) (by omega) (by omega)
      have A90 := fun {x : Nat × Nat} (h : Lt x) => around_c h (ldx_lt (-90))
      have la := lt_around lt (ldx_lt (-90))
      have lm := lt_mul (lt_whole 2) ls
      unfold logT logS
      refine log_core v (frM v) (logM v) (frE v) (logK v) _ _ _ _ _ _ _ _ _ _ _ _ _ _ _ _ _ _ _ _ _ _ _ _ _ _ _ _ _ _ _ z0 I (Frexp_c g0 g1) (frE_bd g1).1 (frE_bd g1).2 ?_ (ptC (logM_lt v)) (whole_c 1) (subC lp l1) (addC lp l1) (divC (lt_sub lp l1) (lt_add lp l1)) (sqrC ls)
        (fun b W hb => series_n 20 20 rfl (by decide) hs (log1_c lq b W hb) rfl) L90 (A90 lt) (whole_c 2) (mulC (lt_whole 2) ls) (mulC lm la) (whole_c (logK v)) ln2_p (mulC (lt_whole _) lt_ln2) (addC (lt_mul (lt_whole _) lt_ln2) (lt_mul lm la))
      unfold logM logK
      rcases fot (flt (frM v) 4604930618986332160) with h | h
      · rw [h]
        exact Or.inl ⟨rfl, rfl, rfl⟩
      · rw [h]
        obtain ⟨m1, m2⟩ := op_val (fm_some (show rung 4611686018427387904 < INFR by decide) (frM_rung v))
        exact Or.inr ⟨rfl, m1, m2, rfl⟩
end Go.Proofs.YtpkgpkabmechkaaGreat

/- Contracts: Log of an interval; the arc of the tangent. -/
namespace Go.Proofs.YtpkgpkabmechkaaGreat
set_option linter.unusedSimpArgs false
set_option linter.unusedVariables false
open Go.RowKit
open Fl

theorem can_low {v : Nat} (c : Can v) (h : 0 ≤ idx v) : v ≤ 9218868437227405312 := by
  have w := word_of c.lt
  have n := nan_false.1 c.num
  cases hs : sgn v
  · rw [hs] at w
    unfold word INFR at *
    simp at w
    omega
  · have : idx v = -(rung v : Int) := by unfold idx; rw [hs]; rfl
    have z := c.zero (by omega)
    omega

theorem meet_low {x : Nat × Nat} (hx : Lt x) (h : noneB (meetP x (0, 9218868437227405312)).1 (meetP x (0, 9218868437227405312)).2 = false) :
    (meetP x (0, 9218868437227405312)).1 ≤ 9218868437227405312 ∧ (meetP x (0, 9218868437227405312)).2 ≤ 9218868437227405312 := by
  have l : Lt (meetP x (0, 9218868437227405312)) := lt_meet hx ⟨by show (0 : Nat) < _; decide, by show (9218868437227405312 : Nat) < _; decide⟩
  obtain ⟨c1, c2⟩ := can_of l h
  have r := (fle_true.1 (right_of h).2).2.2
  have lo : 0 ≤ idx (meetP x (0, 9218868437227405312)).1 := by
    revert h
    unfold meetP meetI
    split
    · intro h; exact absurd h (by decide)
    · rename_i hn
      rw [Bool.or_eq_true, not_or] at hn
      obtain ⟨n1, n2⟩ := nums_of (Bool.eq_false_iff.2 hn.1)
      intro h
      unfold makeI at h ⊢
      split
      · rename_i hr
        show 0 ≤ idx (cl (maxF x.1 0))
        rw [idx_cl, maxF_idx n1 (by decide), show idx 0 = 0 by decide]
        omega
      · rename_i hr
        rw [if_neg hr] at h
        exact absurd h (by decide)
  exact ⟨can_low c1 lo, can_low c2 (Int.le_trans lo r)⟩

set_option maxHeartbeats 2000000 in
theorem Log_c {x : Nat × Nat} (hx : Lt x) : Gives 165 #[(.agg #[.float .f64 x.1, .float .f64 x.2])] (.agg #[.float .f64 ((logP x).1), .float .f64 ((logP x).2)]) := by
  intro w
  have lz : Lt (0, 9218868437227405312) := ⟨by show (0 : Nat) < _; decide, by show (9218868437227405312 : Nat) < _; decide⟩
  have M := meetC hx lz
  have hl := meet_low hx
  have ll : ∀ v, v ≤ 9218868437227405312 → Lt (logV v) := fun v hv => by
    unfold logV; split
    · exact lt_make (by decide) (by decide)
    · split
      · exact lt_make (by decide) (by omega)
      · exact lt_add (lt_mul (lt_whole _) lt_ln2) (by unfold logT; exact lt_mul (lt_mul (lt_whole _) lt_div) (lt_around (lt_ser (fun i => lt_div) _ (lt_whole 1)) (ldx_lt _)))
  have R := rising_at (x := meetP x (0, 9218868437227405312)) (K := 210) (F := logV) (fun x w' => by simp [go_sem]) (fun h => log_c (hl h).1) (fun h => log_c (hl h).2) (fun h => ll _ (hl h).1) (fun h => ll _ (hl h).2)
  unfold logP
  generalize riseP (meetP x (0, 9218868437227405312)) logV = r at *
  generalize meetP x (0, 9218868437227405312) = y at *
  clear hl ll lz hx
  obtain ⟨x1, x2⟩ := x
  obtain ⟨y1, y2⟩ := y
  rcases fot (feq y2 0) with h0 | h0
  · rw [h0, if_neg Bool.false_ne_true]
    go_enter Tryz.func165, Tryz.ntmps165
    go_wp2_with (fail)
    (refine wp_region_tail_later 4 (by kernel_rfl) (by kernel_rfl) ?_; simp only [List.take_succ_cons, List.take_zero, List.drop_succ_cons, List.drop_zero])
    repeat (go_big_quiet_step (first | (go_at_call 137; (with_reducible exact math_Inf_pos.later _)) | (go_at_call 154; (with_reducible exact M.later _))))
    (refine wpQuiet_nil ?_; rintro _ ⟨nq, rfl⟩)
    go_wp2_with (go_at_call 66; (with_reducible refine (R.go _).mono ?_); rintro _ _ ⟨n, rfl, rfl⟩)
    go_returns
    exact ⟨rfl, by (repeat' first | (with_reducible first | exact Below.refl _ _ | assumption | refine Later.belowOf _ ?_ ?_ | refine Below.alloc ?_ ?_ _ | refine Below.setCell ?_ ?_ _ | refine Below.drewN' _ ?_ | refine Below.drew ?_ | exact Ge.le) | go_size)⟩
  · rw [h0, if_pos rfl]
    clear R
    go_enter Tryz.func165, Tryz.ntmps165
    go_wp2_with (fail)
    (refine wp_region_tail_later 4 (by kernel_rfl) (by kernel_rfl) ?_; simp only [List.take_succ_cons, List.take_zero, List.drop_succ_cons, List.drop_zero])
    repeat (go_big_quiet_step (first | (go_at_call 137; (with_reducible exact math_Inf_pos.later _)) | (go_at_call 154; (with_reducible exact M.later _))))
    (refine wpQuiet_nil ?_; rintro _ ⟨nq, rfl⟩)
    go_wp2_with (go_at_call 135; (with_reducible refine (empty_any.go _).mono ?_); rintro _ _ ⟨n, rfl, rfl⟩)
    go_returns
    exact ⟨rfl, by (repeat' first | (with_reducible first | exact Below.refl _ _ | assumption | refine Later.belowOf _ ?_ ?_ | refine Below.alloc ?_ ?_ _ | refine Below.setCell ?_ ?_ _ | refine Below.drewN' _ ?_ | refine Below.drew ?_ | exact Ge.le) | go_size)⟩
end Go.Proofs.YtpkgpkabmechkaaGreat

/- Contracts: the arc of the tangent. -/
namespace Go.Proofs.YtpkgpkabmechkaaGreat
set_option linter.unusedSimpArgs false
set_option linter.unusedVariables false
open Go.RowKit
open Fl

def slItr : Nat → Nat × Nat → Nat × Nat
  | 0, x => x
  | n + 1, x => slItr n (slopeX x)

set_option maxHeartbeats 1000000 in
theorem slope1_c {q : Nat × Nat} (hq : Lt q) (b : Nat) (w : World) (hc : Box w b q) : FnOk 247 #[.pointer (some ⟨b, 0, none⟩)] (fun i => divP (mulP q (wholeP (2 * i - 1))) (wholeP (2 * i + 1))) w := by
  refine ⟨fun x w' => by simp [go_sem], fun i m i1 i2 hm => ?_⟩
  have hc := hc.below hm
  have W1 := whole_c (2 * i - 1)
  have W2 := whole_c (2 * i + 1)
  have M := mulC hq (lt_whole (2 * i - 1))
  have D := divC (lt_mul hq (lt_whole (2 * i - 1))) (lt_whole (2 * i + 1))
  have c0 := hc.c0
  have c1 := hc.c1
  haveI gb : Ge m (b + 1) := ⟨hc.lt⟩
  clear hc hm
  simp only [List.append_toArray, List.cons_append, List.nil_append]
  generalize divP (mulP q (wholeP (2 * i - 1))) (wholeP (2 * i + 1)) = d at *
  generalize mulP q (wholeP (2 * i - 1)) = p at *
  generalize wholeP (2 * i - 1) = u at *
  generalize wholeP (2 * i + 1) = u' at *
  obtain ⟨q1, q2⟩ := q
  have a1 : IntKind.i64.wrap (2 * i) = 2 * i := IntWalk.i64_in _ (by omega)
  have a2 : IntKind.i64.wrap (2 * i - 1) = 2 * i - 1 := IntWalk.i64_in _ (by omega)
  have a3 : IntKind.i64.wrap (2 * i + 1) = 2 * i + 1 := IntWalk.i64_in _ (by omega)
  go_enter Tryz.func247, Tryz.ntmps247
  go_wp2_with (fail)
  (refine wp_region_tail_later 11 (by kernel_rfl) (by kernel_rfl) ?_; simp only [List.take_succ_cons, List.take_zero, List.drop_succ_cons, List.drop_zero])
  repeat (go_big_quiet_step (first | (go_at_call 82; first | (with_reducible exact W1.later _) | (with_reducible exact W2.later _)) | (go_at_call 140; (with_reducible exact M.later _)) | (go_at_call 70; (with_reducible exact D.later _))))
  (refine wpQuiet_nil ?_; rintro _ ⟨nq, rfl⟩)
  clear a1 a2 a3
  go_wp2
  go_returns
  exact ⟨rfl, by (repeat' first | (with_reducible first | exact Below.refl _ _ | assumption | refine Later.belowOf _ ?_ ?_ | refine Below.alloc ?_ ?_ _ | refine Below.setCell ?_ ?_ _ | refine Below.drewN' _ ?_ | refine Below.drew ?_ | exact Ge.le) | go_size)⟩

def SlopeInv (w : World) (R : Nat × Nat) (i : Value) (wr : World) : Prop :=
  ∃ (k : Nat) (s : Nat × Nat), i = .int .i64 k ∧ k ≤ 2 ∧ Lt s ∧ Box wr w.heap.size s ∧ Box wr (w.heap.size + 1) (0, 0) ∧ slItr (2 - k) s = R ∧ Below w.heap.size w wr

theorem box_at {w : World} {b : Nat} {p q : Nat} (o : Obj) (h : b = w.heap.size) : Box ((w.alloc (Obj.cells #[(.float .f64 p), (.float .f64 q)] 24)).alloc o) b (p, q) := by
  subst h; exact (Box.new w p q).alloc o

set_option maxHeartbeats 4000000 in
set_option maxRecDepth 100000 in
theorem slope_c {x : Nat × Nat} (hx : Lt x) : Gives 238 #[(.agg #[.float .f64 x.1, .float .f64 x.2])] (.agg #[.float .f64 ((slopeP x).1), .float .f64 ((slopeP x).2)]) := by
  intro w
  have W1 := whole_c 1
  have W4 := whole_c 4
  have l1 := lt_whole 1
  obtain ⟨R, hR⟩ : ∃ R, slItr 2 x = R := ⟨_, rfl⟩
  have hP : slopeP x = slopeT R := by rw [← hR]; rfl
  rw [hP]
  obtain ⟨z, hz⟩ : ∃ z, slopeT R = z := ⟨_, rfl⟩
  rw [hz]
  have HZ := Lib.hid hz
  clear hz
  have HR := Lib.hid hR
  have HL := Lib.hid l1
  have HX := Lib.hid hx
  clear hR hP hx l1
  obtain ⟨x1, x2⟩ := x
  go_enter Tryz.func238, Tryz.ntmps238
  go_wp2_with (fail)
  go_loopw [5] (fun i wr => SlopeInv w R i wr) (fun i _ => 2 - (intOf i).toNat)
  case atStart => exact ⟨0, (x1, x2), rfl, by decide, HX.out, box_at _ rfl, by
    have := Box.new (w.alloc (Obj.cells #[(.float .f64 x1), (.float .f64 x2)] 24)) 0 0
    simpa using this, HR.out, by (repeat' first | (with_reducible first | exact Below.refl _ _ | assumption | refine Later.belowOf _ ?_ ?_ | refine Below.alloc ?_ ?_ _ | refine Below.setCell ?_ ?_ _ | refine Below.drewN' _ ?_ | refine Below.drew ?_ | exact Ge.le) | go_size)⟩
  case round =>
    obtain ⟨k, s, rfl, hk, hs, b0, b1, hr, hbel⟩ := hrel
    have HS := Lib.hid hr
    clear hr
    have HB := Lib.hid (show _ ∧ _ from ⟨b0, b1⟩)
    haveI gb : Ge wr (w.heap.size + 1 + 1) := ⟨b1.lt⟩
    haveI gc : Ge wr (w.heap.size + 1) := ⟨b0.lt⟩
    haveI gd : Ge wr w.heap.size := ⟨hbel.size⟩
    have c0 := b0.c0
    have c1 := b0.c1
    by_cases h0 : k < 2
    · have Q := sqrC hs
      have A1 := addC HL.out (lt_sqr (x := s))
      have S1 := rootC (lt_add HL.out (lt_sqr (x := s)))
      have A2 := addC HL.out (lt_root (lt_add HL.out (lt_sqr (x := s))))
      have D := divC hs (lt_add HL.out (lt_root (lt_add HL.out (lt_sqr (x := s)))))
      obtain ⟨y, hy⟩ : ∃ y, slopeX s = y := ⟨_, rfl⟩
      have hy2 := hy
      unfold slopeX at hy2
      rw [hy2] at D
      have HY := Lib.hid hy
      clear hy hy2
      generalize addP (wholeP 1) (rootP (addP (wholeP 1) (sqrP s))) = t4 at *
      generalize rootP (addP (wholeP 1) (sqrP s)) = t3 at *
      generalize addP (wholeP 1) (sqrP s) = t2 at *
      have f0 := b0.f0
      have f1 := b0.f1
      clear b0 b1
      go_wp2_with (fail)
      (refine wp_region_tail_later 9 (by kernel_rfl) (by kernel_rfl) ?_; simp only [List.take_succ_cons, List.take_zero, List.drop_succ_cons, List.drop_zero])
      repeat (go_big_quiet_step (first | (go_at_call 82; (with_reducible exact W1.later _)) | (go_at_call 172; (with_reducible exact Q.later _)) | (go_at_call 80; first | (with_reducible exact A1.later _) | (with_reducible exact A2.later _)) | (go_at_call 164; (with_reducible exact S1.later _)) | (go_at_call 70; (with_reducible exact D.later _))))
      (refine wpQuiet_nil ?_; rintro _ ⟨nq, rfl⟩)
      go_wp2
      go_roundw
      case rel =>
        obtain rfl := HY.out
        obtain ⟨b0, b1⟩ := HB.out
        refine ⟨k + 1, _, by go_num, by omega, lt_div, (b0.later nq).set _ _, ((b1.later nq).set_other _ ?_).set_other _ ?_, ?_, by (repeat' first | (with_reducible first | exact Below.refl _ _ | assumption | refine Later.belowOf _ ?_ ?_ | refine Below.alloc ?_ ?_ _ | refine Below.setCell ?_ ?_ _ | refine Below.drewN' _ ?_ | refine Below.drew ?_ | exact Ge.le) | go_size)⟩
        · show w.heap.size ≠ w.heap.size + 1; omega
        · show w.heap.size ≠ w.heap.size + 1; omega
        · have := HS.out
          rw [show 2 - k = (2 - (k + 1)) + 1 by omega] at this
          exact this
      case measure => simp [intOf]; omega
    · obtain rfl : k = 2 := by omega
      obtain rfl : s = R := HS.out
      clear h0 hk
      have Q := sqrC hs
      have N := negC (lt_sqr (x := s))
      have lq := lt_neg (lt_sqr (x := s))
      have hF : ∀ i, Lt ((fun i : Int => divP (mulP (negP (sqrP s)) (wholeP (2 * i - 1))) (wholeP (2 * i + 1))) i) := fun i => lt_div
      have SR := fun (b : Nat) (W : World) (hb : Box W b (negP (sqrP s))) => series_n 17 17 rfl (by decide) hF (slope1_c lq b W hb) rfl
      have lt := lt_ser hF 17 HL.out
      have L80 := ldexp_one (-80) (by omega) (by omega)
      have A80 := around_c lt (ldx_lt (-80))
      have la := lt_around lt (ldx_lt (-80))
      have M1 := mulC hs la
      have M2 := mulC (lt_whole 4) (lt_mul hs la)
      have hz := HZ.out
      unfold slopeT at hz
      rw [hz] at M2
      clear hz
      generalize mulP s (aroundP (serP (fun i => divP (mulP (negP (sqrP s)) (wholeP (2 * i - 1))) (wholeP (2 * i + 1))) 17 (wholeP 1)) (ldx (-80))) = y at *
      generalize aroundP (serP (fun i => divP (mulP (negP (sqrP s)) (wholeP (2 * i - 1))) (wholeP (2 * i + 1))) 17 (wholeP 1)) (ldx (-80)) = t at *
      generalize serP (fun i => divP (mulP (negP (sqrP s)) (wholeP (2 * i - 1))) (wholeP (2 * i + 1))) 17 (wholeP 1) = u at *
      generalize negP (sqrP s) = g at *
      generalize ldx (-80) = e80 at *
      clear hF lq lt la
      obtain ⟨g1, g2⟩ := g
      have bq := b1
      clear b0 b1
      go_wp2_with (first
        | (go_at_call 172; (with_reducible refine (Q.go _).mono ?_); rintro _ _ ⟨n, rfl, rfl⟩)
        | (go_at_call 76; (with_reducible refine (N.go _).mono ?_); rintro _ _ ⟨n, rfl, rfl⟩)
        | (go_at_call 141; (with_reducible refine (SR _ _ (Box.new _ _ _)).mono ?_); rintro _ _ ⟨n, rfl, rfl⟩))
      (refine wp_region_tail_later 7 (by kernel_rfl) (by kernel_rfl) ?_; simp only [List.take_succ_cons, List.take_zero, List.drop_succ_cons, List.drop_zero])
      repeat (go_big_quiet_step (first | (go_at_call 82; (with_reducible exact W4.later _)) | (go_at_call 144; (with_reducible exact L80.later _)) | (go_at_call 143; (with_reducible exact A80.later _)) | (go_at_call 140; first | (with_reducible exact M1.later _) | (with_reducible exact M2.later _))))
      (refine wpQuiet_nil ?_; rintro _ ⟨nq, rfl⟩)
      have bz : Box nq.val (w.heap.size + 1) (0, 0) := bq.below (by (repeat' first | (with_reducible first | exact Below.refl _ _ | assumption | refine Later.belowOf _ ?_ ?_ | refine Below.alloc ?_ ?_ _ | refine Below.setCell ?_ ?_ _ | refine Below.drewN' _ ?_ | refine Below.drew ?_ | exact Ge.le) | go_size))
      have e0 := bz.set0 (.float .f64 z.1)
      have e1 := bz.set1 z.1 (.float .f64 z.2)
      have g0 := bz.c0
      have g1 := bz.c1
      have h0 := bz.f0
      have h1 := bz.f1
      clear bz bq
      go_wp2
      exact bodyPost_ret (v := (.agg #[.float .f64 z.1, .float .f64 z.2])) (by simp [results, Tryz.results238, go_sem, e0, e1]) rfl ⟨rfl, by (repeat' first | (with_reducible first | exact Below.refl _ _ | assumption | refine Later.belowOf _ ?_ ?_ | refine Below.alloc ?_ ?_ _ | refine Below.setCell ?_ ?_ _ | refine Below.drewN' _ ?_ | refine Below.drew ?_ | exact Ge.le) | go_size)⟩

theorem lt_slope {x : Nat × Nat} (hx : Lt x) : Lt (slopeP x) := by
  unfold slopeP slopeT slopeX
  exact lt_mul (lt_whole 4) (lt_mul lt_div (lt_around (lt_ser (fun i => lt_div) _ (lt_whole 1)) (ldx_lt _)))
theorem lt_turnQ : Lt turnQ := lt_mul lt_pi (lt_pt (by decide))
theorem lt_atanW {v : Nat} (hv : v < 18446744073709551616) : Lt (atanW v) := by
  unfold atanW; split
  · exact lt_turnQ
  · split
    · exact lt_sub lt_turnQ (lt_slope lt_div)
    · exact lt_slope (lt_pt hv)
theorem lt_atanV {v : Nat} (hv : v < 18446744073709551616) : Lt (atanV v) := by
  unfold atanV; split
  · exact lt_neg (lt_atanW (fneg_lt v))
  · exact lt_atanW hv

set_option maxHeartbeats 4000000 in
set_option maxRecDepth 100000 in
theorem atan_pos {v : Nat} (hv : v < 18446744073709551616) (h : flt v 0 = false) : Gives 211 #[(.float .f64 v)] (.agg #[.float .f64 ((atanW v).1), .float .f64 ((atanW v).2)]) := by
  intro w
  have PH := ptC (a := 4602678819172646912) (by decide)
  have M := mulC lt_pi (lt_pt (a := 4602678819172646912) (by decide))
  have PI := pi_p
  have IP := isInfP_any v
  have W1 := whole_c 1
  have PV := ptC hv
  have D := divC (lt_whole 1) (lt_pt hv)
  have lq := lt_turnQ
  have SD := slope_c (lt_div (x := wholeP 1) (y := ptP v))
  have SP := slope_c (lt_pt hv)
  have SB := subC lq (lt_slope (lt_div (x := wholeP 1) (y := ptP v)))
  have eq : mulP piP (ptP 4602678819172646912) = turnQ := rfl
  rw [eq] at M
  unfold atanW
  generalize turnQ = q at *
  generalize subP q (slopeP (divP (wholeP 1) (ptP v))) = z at *
  generalize slopeP (divP (wholeP 1) (ptP v)) = s at *
  generalize slopeP (ptP v) = s' at *
  generalize divP (wholeP 1) (ptP v) = d at *
  generalize ptP v = p at *
  generalize ptP 4602678819172646912 = ph at *
  clear eq lq hv
  obtain ⟨q1, q2⟩ := q
  rcases fot (flt 9218868437227405311 v) with h1 | h1
  · rw [h1, if_neg Bool.false_ne_true]
    rw [h1] at IP
    rcases fot (flt 4607182418800017408 v) with h2 | h2
    · rw [h2, if_neg Bool.false_ne_true]
      go_enter Tryz.func211, Tryz.ntmps211
      go_wp2_with (first
        | (go_at_call 11; (with_reducible refine (PI.go _).mono ?_); rintro _ _ ⟨n, rfl, rfl⟩)
        | (go_at_call 139; first | ((with_reducible refine (PH.go _).mono ?_); rintro _ _ ⟨n, rfl, rfl⟩) | ((with_reducible refine (PV.go _).mono ?_); rintro _ _ ⟨n, rfl, rfl⟩))
        | (go_at_call 140; (with_reducible refine (M.go _).mono ?_); rintro _ _ ⟨n, rfl, rfl⟩)
        | (go_at_call 167; (with_reducible refine (IP.go _).mono ?_); rintro _ _ ⟨n, rfl, rfl⟩)
        | (go_at_call 238; (with_reducible refine (SP.go _).mono ?_); rintro _ _ ⟨n, rfl, rfl⟩))
      go_returns
      exact ⟨rfl, by (repeat' first | (with_reducible first | exact Below.refl _ _ | assumption | refine Later.belowOf _ ?_ ?_ | refine Below.alloc ?_ ?_ _ | refine Below.setCell ?_ ?_ _ | refine Below.drewN' _ ?_ | refine Below.drew ?_ | exact Ge.le) | go_size)⟩
    · rw [h2, if_pos rfl]
      go_enter Tryz.func211, Tryz.ntmps211
      go_wp2_with (first
        | (go_at_call 11; (with_reducible refine (PI.go _).mono ?_); rintro _ _ ⟨n, rfl, rfl⟩)
        | (go_at_call 139; (with_reducible refine (PH.go _).mono ?_); rintro _ _ ⟨n, rfl, rfl⟩)
        | (go_at_call 140; (with_reducible refine (M.go _).mono ?_); rintro _ _ ⟨n, rfl, rfl⟩)
        | (go_at_call 167; (with_reducible refine (IP.go _).mono ?_); rintro _ _ ⟨n, rfl, rfl⟩))
      (refine wp_region_tail_later 7 (by kernel_rfl) (by kernel_rfl) ?_; simp only [List.take_succ_cons, List.take_zero, List.drop_succ_cons, List.drop_zero])
      repeat (go_big_quiet_step (first | (go_at_call 82; (with_reducible exact W1.later _)) | (go_at_call 139; (with_reducible exact PV.later _)) | (go_at_call 70; (with_reducible exact D.later _)) | (go_at_call 238; (with_reducible exact SD.later _)) | (go_at_call 75; (with_reducible exact SB.later _))))
      (refine wpQuiet_nil ?_; rintro _ ⟨nq, rfl⟩)
      go_wp2
      go_returns
      exact ⟨rfl, by (repeat' first | (with_reducible first | exact Below.refl _ _ | assumption | refine Later.belowOf _ ?_ ?_ | refine Below.alloc ?_ ?_ _ | refine Below.setCell ?_ ?_ _ | refine Below.drewN' _ ?_ | refine Below.drew ?_ | exact Ge.le) | go_size)⟩
  · rw [h1, if_pos rfl]
    rw [h1] at IP
    go_enter Tryz.func211, Tryz.ntmps211
    go_wp2_with (first
      | (go_at_call 11; (with_reducible refine (PI.go _).mono ?_); rintro _ _ ⟨n, rfl, rfl⟩)
      | (go_at_call 139; (with_reducible refine (PH.go _).mono ?_); rintro _ _ ⟨n, rfl, rfl⟩)
      | (go_at_call 140; (with_reducible refine (M.go _).mono ?_); rintro _ _ ⟨n, rfl, rfl⟩)
      | (go_at_call 167; (with_reducible refine (IP.go _).mono ?_); rintro _ _ ⟨n, rfl, rfl⟩))
    go_returns
    exact ⟨rfl, by (repeat' first | (with_reducible first | exact Below.refl _ _ | assumption | refine Later.belowOf _ ?_ ?_ | refine Below.alloc ?_ ?_ _ | refine Below.setCell ?_ ?_ _ | refine Below.drewN' _ ?_ | refine Below.drew ?_ | exact Ge.le) | go_size)⟩

set_option maxHeartbeats 2000000 in
theorem atan_c {v : Nat} (hv : v < 18446744073709551616) (nv : nan v = false) : Gives 211 #[(.float .f64 v)] (.agg #[.float .f64 ((atanV v).1), .float .f64 ((atanV v).2)]) := by
  unfold atanV
  rcases fot (flt v 0) with h | h
  · rw [h, if_neg Bool.false_ne_true]
    exact atan_pos hv h
  · rw [h, if_pos rfl]
    intro w
    have hn : flt (fneg v) 0 = false := by
      have i := (flt_true.1 h).2.2
      rw [show idx 0 = 0 by decide] at i
      cases e : flt (fneg v) 0
      · rfl
      · have j := (flt_true.1 e).2.2
        rw [idx_fneg, show idx 0 = 0 by decide] at j
        omega
    have A := atan_pos (fneg_lt v) hn
    have N := negC (lt_atanW (fneg_lt v))
    have ne := fneg_eq hv
    have PH := ptC (a := 4602678819172646912) (by decide)
    have M := mulC lt_pi (lt_pt (a := 4602678819172646912) (by decide))
    have PI := pi_p
    generalize atanW (fneg v) = r at *
    generalize fneg v = u at *
    generalize ptP 4602678819172646912 = ph at *
    clear hn hv nv
    go_enter Tryz.func211, Tryz.ntmps211
    go_wp2_with (first
      | (go_at_call 11; (with_reducible refine (PI.go _).mono ?_); rintro _ _ ⟨n, rfl, rfl⟩)
      | (go_at_call 139; (with_reducible refine (PH.go _).mono ?_); rintro _ _ ⟨n, rfl, rfl⟩)
      | (go_at_call 140; (with_reducible refine (M.go _).mono ?_); rintro _ _ ⟨n, rfl, rfl⟩)
      | (go_at_call 211; (with_reducible refine (A.go _).mono ?_); rintro _ _ ⟨n, rfl, rfl⟩)
      | (go_at_call 76; (with_reducible refine (N.go _).mono ?_); rintro _ _ ⟨n, rfl, rfl⟩))
    go_returns
    exact ⟨rfl, by (repeat' first | (with_reducible first | exact Below.refl _ _ | assumption | refine Later.belowOf _ ?_ ?_ | refine Below.alloc ?_ ?_ _ | refine Below.setCell ?_ ?_ _ | refine Below.drewN' _ ?_ | refine Below.drew ?_ | exact Ge.le) | go_size)⟩

set_option maxHeartbeats 400000 in
theorem Atan_c {x : Nat × Nat} (hx : Lt x) : Gives 166 #[(.agg #[.float .f64 x.1, .float .f64 x.2])] (.agg #[.float .f64 ((atanP x).1), .float .f64 ((atanP x).2)]) := by
  intro w
  have R := rising_at (x := x) (K := 211) (F := atanV) (fun x w' => by simp [go_sem]) (fun h => atan_c hx.1 (nums_of h).1) (fun h => atan_c hx.2 (nums_of h).2) (fun _ => lt_atanV hx.1) (fun _ => lt_atanV hx.2)
  unfold atanP
  generalize riseP x atanV = r at *
  clear hx
  obtain ⟨x1, x2⟩ := x
  go_enter Tryz.func166, Tryz.ntmps166
  go_wp2_with (go_at_call 66; (with_reducible refine (R.go _).mono ?_); rintro _ _ ⟨n, rfl, rfl⟩)
  go_returns
  exact ⟨rfl, by (repeat' first | (with_reducible first | exact Below.refl _ _ | assumption | refine Later.belowOf _ ?_ ?_ | refine Below.alloc ?_ ?_ _ | refine Below.setCell ?_ ?_ _ | refine Below.drewN' _ ?_ | refine Below.drew ?_ | exact Ge.le) | go_size)⟩
end Go.Proofs.YtpkgpkabmechkaaGreat
