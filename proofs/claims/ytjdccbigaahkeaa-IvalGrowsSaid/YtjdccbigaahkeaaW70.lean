/- Plain: the greater the intervals are, the greater is what is made of them; and all that is made may be. -/
import Derived.Test.YtjdccbigaahkeaaW58
namespace Go.Proofs.Ytjdccbigaahkeaa
set_option linter.unusedSimpArgs false
set_option linter.unusedVariables false
open Go.RowKit
open Fl

/-- What may be, and lies in another one, that may be. -/
structure Grow (z t : Nat × Nat) : Prop where
  ins : insideB z.1 z.2 t.1 t.2 = true
  r1 : rightB z.1 z.2 = true
  r2 : rightB t.1 t.2 = true
  w1 : z.1 < 18446744073709551616 ∧ z.2 < 18446744073709551616
  w2 : t.1 < 18446744073709551616 ∧ t.2 < 18446744073709551616
theorem right_e : rightB 9218868437227405312 18442240474082181120 = true := by decide
theorem Grow.none {t : Nat × Nat} (h : rightB t.1 t.2 = true) (l : t.1 < 18446744073709551616 ∧ t.2 < 18446744073709551616) : Grow (9218868437227405312, 18442240474082181120) t := ⟨by unfold insideB; rw [none_e]; rfl, right_e, h, ⟨by show (9218868437227405312 : Nat) < _; decide, by show (18442240474082181120 : Nat) < _; decide⟩, l⟩

/-- Two that hold something, one in the other. -/
structure Sub (a b a' b' : Nat) : Prop where
  E : Ends a b
  F : Ends a' b'
  n : noneB a b = false
  m : noneB a' b' = false
  lo : idx a' ≤ idx a
  hi : idx b ≤ idx b'
theorem Sub.grow {a b a' b' : Nat} (h : Sub a b a' b') : Grow (a, b) (a', b') := by
  refine ⟨?_, (right_of h.n).1, (right_of h.m).1, ⟨h.E.ca.lt, h.E.cb.lt⟩, ⟨h.F.ca.lt, h.F.cb.lt⟩⟩
  show insideB a b a' b' = true
  unfold insideB
  rw [h.n, h.m, fle_can h.F.ca.num h.E.ca.num h.lo, fle_can h.E.cb.num h.F.cb.num h.hi]; rfl
theorem Sub.self {a b : Nat} (E : Ends a b) (n : noneB a b = false) : Sub a b a b := ⟨E, E, n, n, Int.le_refl _, Int.le_refl _⟩
theorem ends_neg1 {a b : Nat} (E1 : Ends a b) (nx : noneB a b = false) : Ends (cl (fneg b)) (cl (fneg a)) ∧ noneB (cl (fneg b)) (cl (fneg a)) = false :=
  ⟨ends_of (cl_lt (fneg_lt b)) (cl_lt (fneg_lt a)) (neg_facts E1.ca.lt E1.cb.lt nx).2, (neg_facts E1.ca.lt E1.cb.lt nx).2⟩
theorem Sub.neg {a b a' b' : Nat} (h : Sub a b a' b') : Sub (cl (fneg b)) (cl (fneg a)) (cl (fneg b')) (cl (fneg a')) := by
  obtain ⟨E1, n1⟩ := ends_neg1 h.E h.n
  obtain ⟨E2, n2⟩ := ends_neg1 h.F h.m
  have i1 := idx_clneg a
  have i2 := idx_clneg b
  have i3 := idx_clneg a'
  have i4 := idx_clneg b'
  have l := h.lo
  have u := h.hi
  exact ⟨E1, E2, n1, n2, by omega, by omega⟩

theorem ends_eq {lo hi : Nat} (c1 : Can lo) (c2 : Can hi) (h : idx lo ≤ idx hi) :
    Ends (endsI lo hi).1 (endsI lo hi).2 ∧ noneB (endsI lo hi).1 (endsI lo hi).2 = false ∧ idx (endsI lo hi).1 = min (idx lo) 9218868437227405311 ∧ idx (endsI lo hi).2 = max (idx hi) (-9218868437227405311) := by
  have m1 : Can 9218868437227405311 := ⟨by decide, by decide, by decide⟩
  have m2 : Can 18442240474082181119 := ⟨by decide, by decide, by decide⟩
  have i1 : idx (minF lo 9218868437227405311) = min (idx lo) 9218868437227405311 := by rw [minF_idx c1.num (by decide)]; rfl
  have i2 : idx (maxF hi 18442240474082181119) = max (idx hi) (-9218868437227405311) := by rw [maxF_idx c2.num (by decide)]; rfl
  have k1 := can_min c1 m1
  have k2 := can_max c2 m2
  unfold endsI
  rw [make_can k1 k2 (by omega) (by omega) (by omega)]
  have n := none_can k1 k2 (by omega) (by omega) (by omega)
  exact ⟨ends_of k1.lt k2.lt n, n, i1, i2⟩
theorem ends_sub {lo hi lo' hi' : Nat} (c1 : Can lo) (c2 : Can hi) (c3 : Can lo') (c4 : Can hi') (h : idx lo ≤ idx hi) (h1 : idx lo' ≤ idx lo) (h2 : idx hi ≤ idx hi') :
    Sub (endsI lo hi).1 (endsI lo hi).2 (endsI lo' hi').1 (endsI lo' hi').2 := by
  obtain ⟨E, n, l, u⟩ := ends_eq c1 c2 h
  obtain ⟨E', n', l', u'⟩ := ends_eq c3 c4 (by omega)
  exact ⟨E, E', n, n', by omega, by omega⟩

/-! ### Sums -/
theorem add_low {p q : Nat} (dir : Int) (np : nan p = false) (nq : nan q = false) (hp : idx p < 9218868437227405312) (hq : idx q < 9218868437227405312) :
    nan (addS p q dir) = false ∧ ((finB p = true ∧ finB q = true ∧ idx (addS p q dir) = plc (val p + val q) 1 dir) ∨ ((finB p = false ∨ finB q = false) ∧ idx (addS p q dir) = -9218868437227405312)) := by
  cases fp : finB p
  · rcases inf_cases np fp with ⟨ip, sp, _⟩ | ⟨ip, _, _⟩
    · cases fq : finB q
      · rcases inf_cases nq fq with ⟨iq, sq, _⟩ | ⟨iq, _, _⟩
        · have e : addS p q dir = p := by unfold addS; rw [fp, fq, np, nq, sp, sq]; rfl
          rw [e]; exact ⟨np, Or.inr ⟨Or.inl rfl, ip⟩⟩
        · omega
      · have e : addS p q dir = p := by unfold addS; rw [fp, fq, np, nq]; rfl
        rw [e]; exact ⟨np, Or.inr ⟨Or.inl rfl, ip⟩⟩
    · omega
  · cases fq : finB q
    · rcases inf_cases nq fq with ⟨iq, sq, _⟩ | ⟨iq, _, _⟩
      · have e : addS p q dir = q := by unfold addS; rw [fp, fq, np, nq]; rfl
        rw [e]; exact ⟨nq, Or.inr ⟨Or.inr rfl, iq⟩⟩
      · omega
    · rw [addS_fin dir fp fq]
      exact ⟨nan_rnd _ _ _, Or.inl ⟨rfl, rfl, idx_rnd _ _ _⟩⟩
theorem add_high {p q : Nat} (dir : Int) (np : nan p = false) (nq : nan q = false) (hp : -9218868437227405312 < idx p) (hq : -9218868437227405312 < idx q) :
    nan (addS p q dir) = false ∧ ((finB p = true ∧ finB q = true ∧ idx (addS p q dir) = plc (val p + val q) 1 dir) ∨ ((finB p = false ∨ finB q = false) ∧ idx (addS p q dir) = 9218868437227405312)) := by
  cases fp : finB p
  · rcases inf_cases np fp with ⟨ip, sp, _⟩ | ⟨ip, sp, _⟩
    · omega
    · cases fq : finB q
      · rcases inf_cases nq fq with ⟨iq, sq, _⟩ | ⟨iq, sq, _⟩
        · omega
        · have e : addS p q dir = p := by unfold addS; rw [fp, fq, np, nq, sp, sq]; rfl
          rw [e]; exact ⟨np, Or.inr ⟨Or.inl rfl, ip⟩⟩
      · have e : addS p q dir = p := by unfold addS; rw [fp, fq, np, nq]; rfl
        rw [e]; exact ⟨np, Or.inr ⟨Or.inl rfl, ip⟩⟩
  · cases fq : finB q
    · rcases inf_cases nq fq with ⟨iq, sq, _⟩ | ⟨iq, _, _⟩
      · omega
      · have e : addS p q dir = q := by unfold addS; rw [fp, fq, np, nq]; rfl
        rw [e]; exact ⟨nq, Or.inr ⟨Or.inr rfl, iq⟩⟩
    · rw [addS_fin dir fp fq]
      exact ⟨nan_rnd _ _ _, Or.inl ⟨rfl, rfl, idx_rnd _ _ _⟩⟩
theorem low_fin {p p' : Nat} (np' : nan p' = false) (h : idx p ≤ idx p') (hp' : idx p' < 9218868437227405312) (f : finB p = true) : finB p' = true :=
  fin_of_idx np' (by have := fin_idx f; omega) hp'
theorem high_fin {p p' : Nat} (np' : nan p' = false) (h : idx p' ≤ idx p) (hp' : -9218868437227405312 < idx p') (f : finB p = true) : finB p' = true :=
  fin_of_idx np' hp' (by have := fin_idx f; omega)
theorem add_low_mono {p q p' q' : Nat} (dir : Int) (np : nan p = false) (nq : nan q = false) (np' : nan p' = false) (nq' : nan q' = false) (hp' : idx p' < 9218868437227405312) (hq' : idx q' < 9218868437227405312) (h : idx p ≤ idx p') (k : idx q ≤ idx q') :
    idx (addS p q dir) ≤ idx (addS p' q' dir) := by
  obtain ⟨n1, h1⟩ := add_low dir np nq (by omega) (by omega)
  obtain ⟨n2, h2⟩ := add_low dir np' nq' hp' hq'
  have := idx_le n2
  rcases h1 with ⟨f1, f2, e1⟩ | ⟨_, e1⟩
  · have g1 := low_fin np' h hp' f1
    have g2 := low_fin nq' k hq' f2
    rcases h2 with ⟨_, _, e2⟩ | ⟨hh, _⟩
    · rw [e1, e2]
      refine plc_mono _ (by decide) (by decide) ?_
      have := val_le.2 h
      have := val_le.2 k
      omega
    · rw [g1, g2] at hh; simp at hh
  · omega
theorem add_high_mono {p q p' q' : Nat} (dir : Int) (np : nan p = false) (nq : nan q = false) (np' : nan p' = false) (nq' : nan q' = false) (hp : -9218868437227405312 < idx p) (hq : -9218868437227405312 < idx q) (h : idx p ≤ idx p') (k : idx q ≤ idx q') :
    idx (addS p q dir) ≤ idx (addS p' q' dir) := by
  obtain ⟨n1, h1⟩ := add_high dir np nq hp hq
  obtain ⟨n2, h2⟩ := add_high dir np' nq' (by omega) (by omega)
  have := idx_le n1
  rcases h2 with ⟨f1, f2, e2⟩ | ⟨_, e2⟩
  · have g1 := high_fin np h hp f1
    have g2 := high_fin nq k hq f2
    rcases h1 with ⟨_, _, e1⟩ | ⟨hh, _⟩
    · rw [e1, e2]
      refine plc_mono _ (by decide) (by decide) ?_
      have := val_le.2 h
      have := val_le.2 k
      omega
    · rw [g1, g2] at hh; simp at hh
  · omega
theorem add_sides {a b c d : Nat} (E : Ends a b) (F : Ends c d) : idx (addS a c (-1)) ≤ idx (addS b d 1) := by
  obtain ⟨n1, h1⟩ := add_low (-1) E.ca.num F.ca.num E.up F.up
  obtain ⟨n2, h2⟩ := add_high 1 E.cb.num F.cb.num E.dn F.dn
  have := idx_le n1
  have := idx_le n2
  rcases h1 with ⟨f1, f2, e1⟩ | ⟨_, e1⟩
  · rcases h2 with ⟨f3, f4, e2⟩ | ⟨_, e2⟩
    · have m : plc (val a + val c) 1 (-1) ≤ plc (val b + val d) 1 (-1) := by
        refine plc_mono _ (by decide) (by decide) ?_
        have := val_le.2 E.le
        have := val_le.2 F.le
        omega
      have s := plc_sides (val b + val d) 1
      omega
    · omega
  · omega

theorem sum_sub {a b c d a' b' c' d' : Nat} (h : Sub a b a' b') (k : Sub c d c' d') : Sub (sumI a b c d).1 (sumI a b c d).2 (sumI a' b' c' d').1 (sumI a' b' c' d').2 := by
  have e1 : sumI a b c d = endsI (addS a c (-1)) (addS b d 1) := by unfold sumI; rw [h.n, k.n]; rfl
  have e2 : sumI a' b' c' d' = endsI (addS a' c' (-1)) (addS b' d' 1) := by unfold sumI; rw [h.m, k.m]; rfl
  rw [e1, e2]
  have n1 := (add_low (-1) h.E.ca.num k.E.ca.num h.E.up k.E.up).1
  have n2 := (add_high 1 h.E.cb.num k.E.cb.num h.E.dn k.E.dn).1
  have n3 := (add_low (-1) h.F.ca.num k.F.ca.num h.F.up k.F.up).1
  have n4 := (add_high 1 h.F.cb.num k.F.cb.num h.F.dn k.F.dn).1
  exact ends_sub (can_add _ h.E.ca k.E.ca n1) (can_add _ h.E.cb k.E.cb n2) (can_add _ h.F.ca k.F.ca n3) (can_add _ h.F.cb k.F.cb n4) (add_sides h.E k.E)
    (add_low_mono _ h.F.ca.num k.F.ca.num h.E.ca.num k.E.ca.num h.E.up k.E.up h.lo k.lo)
    (add_high_mono _ h.E.cb.num k.E.cb.num h.F.cb.num k.F.cb.num h.E.dn k.E.dn h.hi k.hi)
theorem sum_e {a b c d : Nat} (h : noneB c d = true) : sumI a b c d = (9218868437227405312, 18442240474082181120) := by unfold sumI; rw [h]; simp
theorem sum_e' {a b c d : Nat} (h : noneB a b = true) : sumI a b c d = (9218868437227405312, 18442240474082181120) := by unfold sumI; rw [h]; simp
theorem Grow.e : Grow (9218868437227405312, 18442240474082181120) (9218868437227405312, 18442240474082181120) := Grow.none right_e ⟨by show (9218868437227405312 : Nat) < _; decide, by show (18442240474082181120 : Nat) < _; decide⟩

theorem grow_sum {a b c d a' b' : Nat} (hc : c < 18446744073709551616) (hd : d < 18446744073709551616) (h : Sub a b a' b') : Grow (sumI a b c d) (sumI a' b' c d) := by
  cases n : noneB c d
  · exact (sum_sub h (Sub.self (ends_of hc hd n) n)).grow
  · rw [sum_e n, sum_e n]; exact Grow.e
theorem grow_diff {a b c d a' b' : Nat} (hc : c < 18446744073709551616) (hd : d < 18446744073709551616) (h : Sub a b a' b') : Grow (diffI c d a b) (diffI c d a' b') := by
  unfold diffI
  rw [(neg_facts h.E.ca.lt h.E.cb.lt h.n).1, (neg_facts h.F.ca.lt h.F.cb.lt h.m).1]
  cases n : noneB c d
  · exact (sum_sub (Sub.self (ends_of hc hd n) n) h.neg).grow
  · rw [sum_e' n, sum_e' n]; exact Grow.e

/-! ### Products -/
theorem mul_sides {p q : Nat} (np : nan p = false) (nq : nan q = false) : idx (mulS p q (-1)) ≤ idx (mulS p q 1) := by
  cases f : (finB p && finB q)
  · rw [mul_inf _ np nq f, mul_inf _ np nq f]; exact Int.le_refl _
  · rw [Bool.and_eq_true] at f
    rw [mul_fin _ f.1 f.2, mul_fin _ f.1 f.2]
    have s := plc_sides (val p * val q) (pw 1074)
    omega
theorem prod_sub {a b c d a' b' c' d' : Nat} (h : Sub a b a' b') (k : Sub c d c' d') : Sub (prodI a b c d).1 (prodI a b c d).2 (prodI a' b' c' d').1 (prodI a' b' c' d').2 := by
  have e1 : prodI a b c d = endsI (mulL a b c d) (mulH a b c d) := by unfold prodI; rw [h.n, k.n]; rfl
  have e2 : prodI a' b' c' d' = endsI (mulL a' b' c' d') (mulH a' b' c' d') := by unfold prodI; rw [h.m, k.m]; rfl
  rw [e1, e2]
  have n1 := h.E.ca.num
  have n2 := h.E.cb.num
  have n3 := k.E.ca.num
  have n4 := k.E.cb.num
  have cc := can_mulL n1 n2 n3 n4
  have cc' := can_mulL h.F.ca.num h.F.cb.num k.F.ca.num k.F.cb.num
  have l := h.lo
  have u := h.hi
  have l2 := k.lo
  have u2 := k.hi
  have o := h.E.le
  have o2 := k.E.le
  have W := fun (p q : Nat) (np : nan p = false) (nq : nan q = false) (h1 : idx a' ≤ idx p) (h2 : idx p ≤ idx b') (h3 : idx c' ≤ idx q) (h4 : idx q ≤ idx d') => mul_within h.F.ca.num h.F.cb.num k.F.ca.num k.F.cb.num np nq h1 h2 h3 h4
  have w1 := W a c n1 n3 (by omega) (by omega) (by omega) (by omega)
  have w2 := W a d n1 n4 (by omega) (by omega) (by omega) (by omega)
  have w3 := W b c n2 n3 (by omega) (by omega) (by omega) (by omega)
  have w4 := W b d n2 n4 (by omega) (by omega) (by omega) (by omega)
  have v := mul_within n1 n2 n3 n4 n1 n3 (Int.le_refl _) o (Int.le_refl _) o2
  have s := mul_sides n1 n3
  have il := idx_le cc'.1.num
  have iu := idx_le cc'.2.num
  refine ends_sub cc.1 cc.2 cc'.1 cc'.2 (by omega) ?_ ?_
  · generalize idx (mulL a' b' c' d') = X at *
    have k1 := can_min can_pinf (can_mul (-1) n1 n3)
    have k2 := can_min k1 (can_mul (-1) n1 n4)
    have k3 := can_min k2 (can_mul (-1) n2 n3)
    unfold mulL lo4
    rw [minF_idx k3.num (can_mul (-1) n2 n4).num, minF_idx k2.num (can_mul (-1) n2 n3).num, minF_idx k1.num (can_mul (-1) n1 n4).num, minF_idx can_pinf.num (can_mul (-1) n1 n3).num, idx_pinf]
    omega
  · generalize idx (mulH a' b' c' d') = X at *
    have k1 := can_max can_ninf (can_mul 1 n1 n3)
    have k2 := can_max k1 (can_mul 1 n1 n4)
    have k3 := can_max k2 (can_mul 1 n2 n3)
    unfold mulH hi4
    rw [maxF_idx k3.num (can_mul 1 n2 n4).num, maxF_idx k2.num (can_mul 1 n2 n3).num, maxF_idx k1.num (can_mul 1 n1 n4).num, maxF_idx can_ninf.num (can_mul 1 n1 n3).num, idx_ninf]
    omega
theorem grow_prod {a b c d a' b' : Nat} (hc : c < 18446744073709551616) (hd : d < 18446744073709551616) (h : Sub a b a' b') : Grow (prodI a b c d) (prodI a' b' c d) := by
  cases n : noneB c d
  · exact (prod_sub h (Sub.self (ends_of hc hd n) n)).grow
  · have e : ∀ x y, prodI x y c d = (9218868437227405312, 18442240474082181120) := fun x y => by unfold prodI; rw [n]; simp
    rw [e, e]; exact Grow.e

/-! ### Amounts, squares, roots, meets -/
theorem mag_idx {a b : Nat} (E : Ends a b) (n : noneB a b = false) : Can (magI a b) ∧ Can (migI a b) ∧ idx (magI a b) = max (max (idx a) (- idx a)) (max (idx b) (- idx b)) ∧ idx (migI a b) = (if idx a ≤ 0 ∧ 0 ≤ idx b then 0 else min (max (idx a) (- idx a)) (max (idx b) (- idx b))) := by
  obtain ⟨c1, c2⟩ := can_mag n
  obtain ⟨a1, a2⟩ := rung_abs2 a
  obtain ⟨b1, b2⟩ := rung_abs2 b
  refine ⟨c1, c2, ?_, ?_⟩
  · unfold magI
    rw [n, if_neg Bool.false_ne_true, maxF_idx (can_rung E.ca.num).num (can_rung E.cb.num).num]
    omega
  · unfold migI
    rw [n]
    have z : idx 0 = 0 := by decide
    have e : fle a 0 = decide (idx a ≤ 0) := by unfold fle; rw [E.ca.num, show nan 0 = false by decide, z]; simp
    rw [e, (flt0 E.cb).2.2.1]
    simp only [Bool.false_or, Bool.and_eq_true, decide_eq_true_eq]
    split
    · exact z
    · rw [minF_idx (can_rung E.ca.num).num (can_rung E.cb.num).num]
      omega
theorem mag_mono {a b a' b' : Nat} (h : Sub a b a' b') : idx (magI a b) ≤ idx (magI a' b') ∧ idx (migI a' b') ≤ idx (migI a b) ∧ 0 ≤ idx (migI a b) ∧ 0 ≤ idx (migI a' b') ∧ idx (migI a b) ≤ idx (magI a b) ∧ idx (migI a' b') ≤ idx (magI a' b') := by
  obtain ⟨_, _, e1, e2⟩ := mag_idx h.E h.n
  obtain ⟨_, _, e3, e4⟩ := mag_idx h.F h.m
  rw [e1, e2, e3, e4]
  have l := h.lo
  have u := h.hi
  have o := h.E.le
  have o2 := h.F.le
  split <;> split <;> omega

/-- Powers of what is not below nought. -/
theorem pow_nn {x y : Nat} (d1 d2 : Int) (nx : Can x) (ny : Can y) (hd : d1 = d2 ∨ (d1 = -1 ∧ d2 = 1)) (h0 : 0 ≤ idx x) (h : idx x ≤ idx y) : ∀ k, 0 ≤ idx (powS x d1 k) ∧ idx (powS x d1 k) ≤ idx (powS y d2 k)
  | 0 => ⟨h0, h⟩
  | k + 1 => by
    obtain ⟨i1, i2⟩ := pow_nn d1 d2 nx ny hd h0 h k
    show 0 ≤ idx (mulS (powS x d1 k) x d1) ∧ idx (mulS (powS x d1 k) x d1) ≤ idx (mulS (powS y d2 k) y d2)
    have cx := can_pow nx d1 k
    have cy := can_pow ny d2 k
    have z : idx 0 = 0 := by decide
    have m0 := (mul_mono (q := x) d1 can_zero.num cx.num nx.num (by rw [z]; exact i1)).1 h0
    have z0 : mulS 0 x d1 = 0 := by
      unfold mulS
      rw [nx.num, can_zero.num, if_neg (by simp), if_pos (Or.inl (by decide))]
    rw [z0, z] at m0
    have m1 := (mul_mono (q := x) d1 cx.num cy.num nx.num i2).1 h0
    have m2 := (mul_mono (q := powS y d2 k) d1 nx.num ny.num cy.num h).1 (by omega)
    rw [mulS_comm x, mulS_comm y] at m2
    have m3 : idx (mulS (powS y d2 k) y d1) ≤ idx (mulS (powS y d2 k) y d2) := by
      rcases hd with hd | ⟨hd, hd'⟩
      · rw [hd]; exact Int.le_refl _
      · rw [hd, hd']; exact mul_sides (can_pow ny 1 k).num ny.num
    exact ⟨m0, by omega⟩

theorem even_sub {a b a' b' : Nat} (k : Nat) (h : Sub a b a' b') : Sub (endsI (powS (migI a b) (-1) k) (powS (magI a b) 1 k)).1 (endsI (powS (migI a b) (-1) k) (powS (magI a b) 1 k)).2 (endsI (powS (migI a' b') (-1) k) (powS (magI a' b') 1 k)).1 (endsI (powS (migI a' b') (-1) k) (powS (magI a' b') 1 k)).2 := by
  obtain ⟨c1, c2⟩ := can_mag h.n
  obtain ⟨c3, c4⟩ := can_mag h.m
  obtain ⟨m1, m2, m3, m4, m5, m6⟩ := mag_mono h
  have p1 := (pow_nn (-1) 1 c2 c1 (Or.inr ⟨rfl, rfl⟩) m3 m5 k).2
  have p2 := (pow_nn (-1) (-1) c4 c2 (Or.inl rfl) m4 m2 k).2
  have p3 := (pow_nn 1 1 c1 c3 (Or.inl rfl) (by omega) m1 k).2
  exact ends_sub (can_pow c2 _ _) (can_pow c1 _ _) (can_pow c4 _ _) (can_pow c3 _ _) p1 p2 p3
theorem grow_sqr {a b a' b' : Nat} (h : Sub a b a' b') : Grow (sqrI a b) (sqrI a' b') := by
  unfold sqrI
  rw [h.n, h.m]
  exact (even_sub 1 h).grow

theorem grow_sqrt {a b a' b' : Nat} (h : Sub a b a' b') : Grow (sqrtI a b) (sqrtI a' b') := by
  have l := h.lo
  have u := h.hi
  have R : ∀ {x y : Nat}, Ends x y → 0 ≤ idx y → idx (rootS (maxF x 0) (-1)) ≤ idx (rootS y 1) := by
    intro x y E hy
    obtain ⟨cm, im⟩ := max0 E.ca
    have mi : idx (maxF x 0) = max (idx x) 0 := by rw [maxF_idx E.ca.num (by decide)]; rfl
    have le := E.le
    have m1 := root_mono (-1) cm E.cb im (by omega)
    have sd : idx (rootS y (-1)) ≤ idx (rootS y 1) := by
      by_cases r : rung y = 0
      · rw [(root_idx (-1) E.cb hy).2.1 r, (root_idx 1 E.cb hy).2.1 r]; exact Int.le_refl _
      · cases f : finB y
        · rw [(root_idx (-1) E.cb hy).2.2 f, (root_idx 1 E.cb hy).2.2 f]; exact Int.le_refl _
        · rw [(root_idx (-1) E.cb hy).1 f r, (root_idx 1 E.cb hy).1 f r]
          have s := plc_sides (rootN (G (rung y))) (rootD (G (rung y)))
          exact Int.le_trans s.1 s.2.1
    omega
  have e : ∀ {x y : Nat}, Ends x y → noneB x y = false → 0 ≤ idx y → sqrtI x y = endsI (rootS (maxF x 0) (-1)) (rootS y 1) := by
    intro x y E n hy
    have hb : flt y 0 = false := by rw [(flt0 E.cb).1]; simp; omega
    unfold sqrtI; rw [n, hb]; rfl
  by_cases hb' : 0 ≤ idx b'
  · have E' := e h.F h.m hb'
    obtain ⟨cm', im'⟩ := max0 h.F.ca
    have ci' := can_root (-1) cm' im'
    have cj' := can_root 1 h.F.cb hb'
    by_cases hb : 0 ≤ idx b
    · rw [e h.E h.n hb, E']
      obtain ⟨cm, im⟩ := max0 h.E.ca
      have mi : idx (maxF a 0) = max (idx a) 0 := by rw [maxF_idx h.E.ca.num (by decide)]; rfl
      have mi' : idx (maxF a' 0) = max (idx a') 0 := by rw [maxF_idx h.F.ca.num (by decide)]; rfl
      exact (ends_sub (can_root _ cm im) (can_root _ h.E.cb hb) ci' cj' (R h.E hb) (root_mono (-1) cm' cm im' (by omega)) (root_mono 1 h.E.cb h.F.cb hb u)).grow
    · have hx : sqrtI a b = (9218868437227405312, 18442240474082181120) := by
        have : flt b 0 = true := by rw [(flt0 h.E.cb).1]; simp; omega
        unfold sqrtI; rw [this]; simp
      rw [hx, E']
      have x := ends_eq ci' cj' (R h.F hb')
      exact Grow.none (right_of x.2.1).1 ⟨x.1.ca.lt, x.1.cb.lt⟩
  · have f1 : flt b 0 = true := by rw [(flt0 h.E.cb).1]; simp; omega
    have f2 : flt b' 0 = true := by rw [(flt0 h.F.cb).1]; simp; omega
    unfold sqrtI
    rw [f1, f2]
    simp only [Bool.or_true, if_true]
    exact Grow.e

theorem grow_meet {a b c d a' b' : Nat} (hc : c < 18446744073709551616) (hd : d < 18446744073709551616) (h : Sub a b a' b') : Grow (meetI a b c d) (meetI a' b' c d) := by
  cases n : noneB c d
  · have l := h.lo
    have u := h.hi
    rcases meet_or h.E.ca.lt h.E.cb.lt hc hd h.n n with ⟨i, e, m, i1, i2, c1, c2⟩ | ⟨i, e⟩
    · rcases meet_or h.F.ca.lt h.F.cb.lt hc hd h.m n with ⟨j, e', m', j1, j2, d1, d2⟩ | ⟨j, e'⟩
      · rw [e, e']
        exact (Sub.mk (ends_of c1.lt c2.lt m) (ends_of d1.lt d2.lt m') m m' (by omega) (by omega)).grow
      · omega
    · rw [e]
      rcases meet_or h.F.ca.lt h.F.cb.lt hc hd h.m n with ⟨j, e', m', j1, j2, d1, d2⟩ | ⟨j, e'⟩
      · rw [e']; exact Grow.none (right_of m').1 ⟨d1.lt, d2.lt⟩
      · rw [e']; exact Grow.e
  · rw [meet_e (Or.inr n), meet_e (Or.inr n)]; exact Grow.e

/-! ### Quotients -/
theorem div_sides {p q : Nat} (np : nan p = false) (nq : nan q = false) (hq : 0 < idx q) (x : nan (divS p q (-1)) = false) : idx (divS p q (-1)) ≤ idx (divS p q 1) := by
  obtain ⟨a1, a2, a3, a4⟩ := div_pos (-1) np nq hq
  obtain ⟨b1, b2, b3, b4⟩ := div_pos 1 np nq hq
  cases fp : finB p <;> cases fq : finB q
  · rw [a4 fp fq] at x; cases x
  · rw [a3 fp fq, b3 fp fq]; exact Int.le_refl _
  · rw [a2 fp fq, b2 fp fq]; exact Int.le_refl _
  · rw [(a1 fp fq).2, (b1 fp fq).2]
    have := plc_sides (val p * (pw 1074 : Nat)) (G (rung q))
    omega

/-- A quotient of what lies within, by what is above nought. -/
theorem div_within2 {a b c d p q : Nat} (E : Ends a b) (F : Ends c d) (np : nan p = false) (nq : nan q = false) (l : idx a ≤ idx p) (u : idx p ≤ idx b) (l2 : idx c ≤ idx q) (u2 : idx q ≤ idx d) (hc : 0 < idx c)
    (npq : ∀ dir, nan (divS p q dir) = false) : idx (loD a b c d) ≤ idx (divS p q (-1)) ∧ idx (divS p q 1) ≤ idx (hiD a b c d) := by
  have hq : 0 < idx q := by omega
  have hd : 0 < idx d := by omega
  have fc : finB c = true := fin_of_idx F.ca.num (by omega) F.up
  have nn : ∀ x y dir, nan x = false → nan y = false → 0 < idx y → (finB x = true ∨ finB y = true) → nan (divS x y dir) = false := fun x y dir nx ny hy hf => by
    rw [div_nan_iff _ nx ny hy]; rcases hf with hf | hf <;> rw [hf] <;> simp
  have npc := fun dir => nn p c dir np F.ca.num hc (Or.inr fc)
  have nac := fun dir => nn a c dir E.ca.num F.ca.num hc (Or.inr fc)
  have nbc := fun dir => nn b c dir E.cb.num F.ca.num hc (Or.inr fc)
  have L := loD_le a b c d
  have U := hiD_ge a b c d
  have iL := idx_le (can_loD a b c d).num
  have iU := idx_le (can_hiD a b c d).num
  have inf : finB p = false → finB q = true ∧ ∀ dir, idx (divS p q dir) = idx p := fun fp => by
    have h := npq (-1)
    rw [div_nan_iff _ np nq hq, fp] at h
    have fq : finB q = true := by simpa using h
    refine ⟨fq, fun dir => ?_⟩
    rw [(div_pos dir np nq hq).2.2.1 fp fq, idx_infW, ← idx_inf_of np fp]
  constructor
  · by_cases hp : idx p ≤ 0
    · have m1 := L.1 (nac (-1))
      have m2 := div_mono_p (-1) E.ca.num np F.ca.num hc l (nac (-1)) (npc (-1))
      have m3 := (div_mono_q (-1) np F.ca.num nq hc l2 (npc (-1)) (npq (-1))).1 hp
      omega
    · cases fp : finB p
      · have i := (inf fp).2 (-1)
        rcases inf_cases np fp with ⟨j, _, _⟩ | ⟨j, _, _⟩ <;> omega
      · have npd := fun dir => nn p d dir np F.cb.num hd (Or.inl fp)
        by_cases ha : 0 ≤ idx a
        · have fa : finB a = true := fin_of_idx E.ca.num (by omega) E.up
          have nad := nn a d (-1) E.ca.num F.cb.num hd (Or.inl fa)
          have m1 := L.2.1 nad
          have m2 := div_mono_p (-1) E.ca.num np F.cb.num hd l nad (npd (-1))
          have m3 := (div_mono_q (-1) np nq F.cb.num hq u2 (npq (-1)) (npd (-1))).2 (by omega)
          omega
        · have m1 := L.1 (nac (-1))
          have m2 := (div_sign (-1) E.ca.num F.ca.num hc (nac (-1))).1 (by omega)
          have m3 := (div_sign (-1) np nq hq (npq (-1))).2 (by omega)
          omega
  · by_cases hp : 0 ≤ idx p
    · have m1 := U.2.2.1 (nbc 1)
      have m2 := div_mono_p 1 np E.cb.num F.ca.num hc u (npc 1) (nbc 1)
      have m3 := (div_mono_q 1 np F.ca.num nq hc l2 (npc 1) (npq 1)).2 hp
      omega
    · cases fp : finB p
      · have i := (inf fp).2 1
        rcases inf_cases np fp with ⟨j, _, _⟩ | ⟨j, _, _⟩ <;> omega
      · have npd := fun dir => nn p d dir np F.cb.num hd (Or.inl fp)
        by_cases hb : idx b ≤ 0
        · have fb : finB b = true := fin_of_idx E.cb.num E.dn (by omega)
          have nbd := nn b d 1 E.cb.num F.cb.num hd (Or.inl fb)
          have m1 := U.2.2.2 nbd
          have m2 := div_mono_p 1 np E.cb.num F.cb.num hd u (npd 1) nbd
          have m3 := (div_mono_q 1 np nq F.cb.num hq u2 (npq 1) (npd 1)).1 (by omega)
          omega
        · have m1 := U.2.2.1 (nbc 1)
          have m2 := (div_sign 1 E.cb.num F.ca.num hc (nbc 1)).2 (by omega)
          have m3 := (div_sign 1 np nq hq (npq 1)).1 (by omega)
          omega

theorem clneg2 {x : Nat} (h : Can x) : cl (fneg (cl (fneg x))) = x := by
  refine (can_neg (can_neg h.num).num).inj h ?_
  rw [idx_clneg, idx_clneg]; omega

theorem quot_sym {a b c d : Nat} (E : Ends a b) (F : Ends c d) (n : noneB a b = false) (m : noneB c d = false) : quotI (cl (fneg b)) (cl (fneg a)) (cl (fneg d)) (cl (fneg c)) = quotI a b c d := by
  obtain ⟨a1, a2, a3, a4⟩ := flt0 E.ca
  obtain ⟨b1, b2, b3, b4⟩ := flt0 E.cb
  obtain ⟨c1, c2, c3, c4⟩ := flt0 F.ca
  obtain ⟨d1, d2, d3, d4⟩ := flt0 F.cb
  obtain ⟨E', n'⟩ := ends_neg1 E n
  obtain ⟨F', m'⟩ := ends_neg1 F m
  obtain ⟨x1, x2, x3, x4⟩ := flt0 E'.ca
  obtain ⟨y1, y2, y3, y4⟩ := flt0 E'.cb
  obtain ⟨z1, z2, z3, z4⟩ := flt0 F'.ca
  obtain ⟨w1, w2, w3, w4⟩ := flt0 F'.cb
  have i1 := idx_clneg a
  have i2 := idx_clneg b
  have i3 := idx_clneg c
  have i4 := idx_clneg d
  have o := F.le
  unfold quotI
  rw [n, m, n', m']
  have e1 : eqI (cl (fneg d)) (cl (fneg c)) 0 0 = eqI c d 0 0 := by
    unfold eqI; rw [z4, w4, c4, d4, i3, i4, Bool.eq_iff_iff]; simp; omega
  have e2 : eqI (cl (fneg b)) (cl (fneg a)) 0 0 = eqI a b 0 0 := by
    unfold eqI; rw [x4, y4, a4, b4, i1, i2, Bool.eq_iff_iff]; simp; omega
  have e3 : (flt 0 (cl (fneg d)) || flt (cl (fneg c)) 0) = (flt 0 c || flt d 0) := by
    rw [z2, w1, c2, d1, i3, i4, Bool.eq_iff_iff]; simp; omega
  have e4 : ((flt (cl (fneg d)) 0 && flt 0 (cl (fneg c))) || (flt (cl (fneg b)) 0 && flt 0 (cl (fneg a)))) = ((flt c 0 && flt 0 d) || (flt a 0 && flt 0 b)) := by
    rw [z1, w2, x1, y2, c1, d2, a1, b2, i1, i2, i3, i4, Bool.eq_iff_iff]; simp; omega
  rw [e1, e2, e3, e4]
  simp only [Bool.or_self, Bool.false_eq_true, if_false]
  split
  · rfl
  · rename_i h1
    split
    · rfl
    · split
      · rename_i h3
        have hcd : idx c ≠ 0 ∧ idx d ≠ 0 := by
          rw [c2, d1] at h3
          simp at h3
          omega
        rw [lo_sym E.ca.num E.cb.num F.ca.num F.cb.num (fun hh => by have := (idx_zero_iff c).2 hh; omega) (fun hh => by have := (idx_zero_iff d).2 hh; omega), hi_sym E.ca.num E.cb.num F.ca.num F.cb.num (fun hh => by have := (idx_zero_iff c).2 hh; omega) (fun hh => by have := (idx_zero_iff d).2 hh; omega)]
      · rename_i h3
        split
        · rfl
        · rename_i h4
          have hz : ¬ (idx c = 0 ∧ idx d = 0) := by
            intro hh
            apply h1
            unfold eqI
            rw [c4, d4, hh.1, hh.2]; rfl
          have q3 : ¬ (0 < idx c ∨ idx d < 0) := by
            intro hh
            apply h3
            rw [c2, d1]; simpa using hh
          have q4 : ¬ (idx c < 0 ∧ 0 < idx d) := by
            intro hh
            apply h4
            rw [c1, d2]; simp [hh]
          by_cases hc : idx c < 0
          · have k1 : flt c 0 = true := by rw [c1]; simpa using hc
            have k2 : flt (cl (fneg d)) 0 = false := by rw [z1, i4]; simp; omega
            rw [k1, k2, if_neg Bool.false_ne_true, if_pos rfl]
          · have k1 : flt c 0 = false := by rw [c1]; simpa using hc
            have k2 : flt (cl (fneg d)) 0 = true := by rw [z1, i4]; simp; omega
            rw [k1, k2, if_neg Bool.false_ne_true, if_pos rfl, clneg2 E.ca, clneg2 E.cb, clneg2 F.cb]

/-- What a quotient by what goes above nought is. -/
theorem quot_or {a b c d : Nat} (E : Ends a b) (F : Ends c d) (n : noneB a b = false) (m : noneB c d = false) (hd : 0 < idx d) (hx : ¬ (idx a = 0 ∧ idx b = 0)) :
    (0 < idx c → quotI a b c d = endsI (loD a b c d) (hiD a b c d)) ∧ (idx c < 0 ∨ (idx c ≤ 0 ∧ idx a < 0 ∧ 0 < idx b) → quotI a b c d = (18442240474082181120, 9218868437227405312)) ∧
    (idx c = 0 → ¬ (idx a < 0 ∧ 0 < idx b) → quotI a b c d = quotB a b d) := by
  obtain ⟨a1, a2, a3, a4⟩ := flt0 E.ca
  obtain ⟨b1, b2, b3, b4⟩ := flt0 E.cb
  obtain ⟨c1, c2, c3, c4⟩ := flt0 F.ca
  obtain ⟨d1, d2, d3, d4⟩ := flt0 F.cb
  have h1 : eqI c d 0 0 = false := by unfold eqI; rw [c4, d4]; simp; omega
  have h2 : eqI a b 0 0 = false := by unfold eqI; rw [a4, b4]; simp; omega
  unfold quotI
  rw [n, m, h1, h2]
  simp only [Bool.or_self, Bool.false_eq_true, if_false]
  refine ⟨fun hc => ?_, fun hc => ?_, fun hc hs => ?_⟩
  · rw [if_pos (by rw [c2]; simp [hc])]
  · rw [if_neg (by rw [c2, d1]; simp; omega), if_pos (by rw [c1, d2, a1, b2]; simp; omega)]
  · rw [if_neg (by rw [c2, d1]; simp; omega), if_neg (by rw [c1, d2, a1, b2]; simp; omega), if_neg (by rw [c1]; simp; omega)]
theorem quot_00 {c d : Nat} (F : Ends c d) (m : noneB c d = false) (hd : 0 < idx d) {a b : Nat} (E : Ends a b) (n : noneB a b = false) (hx : idx a = 0 ∧ idx b = 0) : quotI a b c d = (0, 0) := by
  obtain ⟨a1, a2, a3, a4⟩ := flt0 E.ca
  obtain ⟨b1, b2, b3, b4⟩ := flt0 E.cb
  obtain ⟨c1, c2, c3, c4⟩ := flt0 F.ca
  obtain ⟨d1, d2, d3, d4⟩ := flt0 F.cb
  have h1 : eqI c d 0 0 = false := by unfold eqI; rw [c4, d4]; simp; omega
  have h2 : eqI a b 0 0 = true := by unfold eqI; rw [a4, b4]; simp [hx]
  unfold quotI
  rw [n, m, h1, h2]
  rfl

theorem ends_whole : Ends 18442240474082181120 9218868437227405312 ∧ noneB 18442240474082181120 9218868437227405312 = false := by
  have n : noneB 18442240474082181120 9218868437227405312 = false := none_can can_ninf can_pinf (by decide) (by decide) (by decide)
  exact ⟨ends_of (by decide) (by decide) n, n⟩

/-- What a quotient holds. -/
structure Hq (z : Nat × Nat) (a b c d : Nat) : Prop where
  E : Ends z.1 z.2
  n : noneB z.1 z.2 = false
  has : ∀ p q, nan p = false → nan q = false → idx a ≤ idx p → idx p ≤ idx b → idx c ≤ idx q → idx q ≤ idx d → 0 < idx q → (∀ dir, nan (divS p q dir) = false) → idx z.1 ≤ idx (divS p q (-1)) ∧ idx (divS p q 1) ≤ idx z.2

theorem quot_has {a b c d : Nat} (E : Ends a b) (F : Ends c d) (n : noneB a b = false) (m : noneB c d = false) (hd : 0 < idx d) (hx : ¬ (idx a = 0 ∧ idx b = 0)) : Hq (quotI a b c d) a b c d := by
  obtain ⟨q1, q2, q3⟩ := quot_or E F n m hd hx
  have o := E.le
  have o2 := F.le
  by_cases hc : 0 < idx c
  · rw [q1 hc]
    have fc : finB c = true := fin_of_idx F.ca.num (by omega) F.up
    have nac : ∀ dir, nan (divS a c dir) = false := fun dir => by rw [div_nan_iff _ E.ca.num F.ca.num hc, fc]; simp
    have w := div_within2 E F E.ca.num F.ca.num (Int.le_refl _) o (Int.le_refl _) o2 hc nac
    have s := div_sides E.ca.num F.ca.num hc (nac (-1))
    obtain ⟨E', n', l', u'⟩ := ends_eq (can_loD a b c d) (can_hiD a b c d) (by omega)
    refine ⟨E', n', fun p q np nq h1 h2 h3 h4 h5 h6 => ?_⟩
    have := div_within2 E F np nq h1 h2 h3 h4 hc h6
    omega
  · by_cases hw : idx c < 0 ∨ (idx c ≤ 0 ∧ idx a < 0 ∧ 0 < idx b)
    · rw [q2 hw]
      refine ⟨ends_whole.1, ends_whole.2, fun p q np nq h1 h2 h3 h4 h5 h6 => ?_⟩
      have i1 := idx_le (h6 (-1))
      have i2 := idx_le (h6 1)
      rw [idx_pinf, idx_ninf]
      omega
    · have hc0 : idx c = 0 := by omega
      rw [q3 hc0 (by omega)]
      unfold quotB
      by_cases ha : 0 ≤ idx a
      · rw [if_pos (by rw [(flt0 E.ca).2.2.1]; simpa using ha)]
        have fa : finB a = true := fin_of_idx E.ca.num (by omega) E.up
        have nad := fun (y : Nat) (ny : nan y = false) (hy : 0 < idx y) => show nan (divS a y (-1)) = false by rw [div_nan_iff _ E.ca.num ny hy, fa]; simp
        have cd := can_div (-1) (nad d F.cb.num hd)
        have il := idx_le cd.num
        obtain ⟨E', n', l', u'⟩ := ends_eq cd can_pinf (by rw [idx_pinf]; omega)
        refine ⟨E', n', fun p q np nq h1 h2 h3 h4 h5 h6 => ?_⟩
        have m3 := (div_mono_q (-1) E.ca.num nq F.cb.num h5 h4 (nad q nq h5) (nad d F.cb.num hd)).2 ha
        have m2 := div_mono_p (-1) E.ca.num np nq h5 h1 (nad q nq h5) (h6 (-1))
        have i2 := idx_le (h6 1)
        rw [idx_pinf] at u'
        omega
      · rw [if_neg (by rw [(flt0 E.ca).2.2.1]; simpa using ha)]
        have hb : idx b ≤ 0 := by omega
        have fb : finB b = true := fin_of_idx E.cb.num E.dn (by omega)
        have nbd := fun (y : Nat) (ny : nan y = false) (hy : 0 < idx y) => show nan (divS b y 1) = false by rw [div_nan_iff _ E.cb.num ny hy, fb]; simp
        have cd := can_div 1 (nbd d F.cb.num hd)
        have il := idx_le cd.num
        obtain ⟨E', n', l', u'⟩ := ends_eq can_ninf cd (by rw [idx_ninf]; omega)
        refine ⟨E', n', fun p q np nq h1 h2 h3 h4 h5 h6 => ?_⟩
        have m3 := (div_mono_q 1 E.cb.num nq F.cb.num h5 h4 (nbd q nq h5) (nbd d F.cb.num hd)).1 hb
        have m2 := div_mono_p 1 np E.cb.num nq h5 h2 (h6 1) (nbd q nq h5)
        have i2 := idx_le (h6 (-1))
        rw [idx_ninf] at l'
        omega

theorem idx0 : idx 0 = 0 := by decide
theorem none00' : noneB 0 0 = false := none_can can_zero can_zero (by decide) (by decide) (by decide)
theorem ends00 : Ends 0 0 ∧ noneB 0 0 = false := ⟨ends_of (by decide) (by decide) none00', none00'⟩

/-- Quotients by what goes above nought. -/
theorem quot_up {a b c d a' b' c' d' : Nat} (h : Sub a b a' b') (k : Sub c d c' d') (hd : 0 < idx d) : Sub (quotI a b c d).1 (quotI a b c d).2 (quotI a' b' c' d').1 (quotI a' b' c' d').2 := by
  have l := h.lo
  have u := h.hi
  have l2 := k.lo
  have u2 := k.hi
  have o := h.E.le
  have o2 := k.E.le
  have hd' : 0 < idx d' := by omega
  by_cases hx : idx a = 0 ∧ idx b = 0
  · rw [quot_00 k.E k.n hd h.E h.n hx]
    by_cases hx' : idx a' = 0 ∧ idx b' = 0
    · rw [quot_00 k.F k.m hd' h.F h.m hx']
      exact Sub.self ends00.1 ends00.2
    · have T := quot_has h.F k.F h.m k.m hd' hx'
      have f0 : finB 0 = true := by decide
      have nn : ∀ dir, nan (divS 0 d dir) = false := fun dir => by rw [div_nan_iff _ (by decide) k.E.cb.num hd, f0]; simp
      have t := T.has 0 d (by decide) k.E.cb.num (by rw [idx0]; omega) (by rw [idx0]; omega) (by omega) (by omega) hd nn
      have s1 := div_sign (-1) (by decide : nan 0 = false) k.E.cb.num hd (nn _)
      have s2 := div_sign 1 (by decide : nan 0 = false) k.E.cb.num hd (nn _)
      have z1 := s1.1 (by rw [idx0]; omega)
      have z2 := s2.2 (by rw [idx0]; omega)
      exact ⟨ends00.1, T.E, ends00.2, T.n, by rw [idx0]; omega, by rw [idx0]; omega⟩
  · have hx' : ¬ (idx a' = 0 ∧ idx b' = 0) := by omega
    have Z := quot_has h.E k.E h.n k.n hd hx
    have T := quot_has h.F k.F h.m k.m hd' hx'
    obtain ⟨q1, q2, q3⟩ := quot_or h.E k.E h.n k.n hd hx
    obtain ⟨t1, t2, t3⟩ := quot_or h.F k.F h.m k.m hd' hx'
    refine ⟨Z.E, T.E, Z.n, T.n, ?_, ?_⟩
    all_goals
      have TH := T.has
      have tu := T.E.up
      have td := T.E.dn
      have tl := idx_le T.E.ca.num
      have tr := idx_le T.E.cb.num
      by_cases hc : 0 < idx c
      · rw [q1 hc]
        have nn : ∀ (x y : Nat), nan x = false → nan y = false → 0 < idx y → nan (divS x y (-1)) = false → ∀ dir, nan (divS x y dir) = false := fun x y _ _ _ hh dir => by rw [nan_div x y dir (-1)]; exact hh
        have C := fun (x y : Nat) (nx : nan x = false) (ny : nan y = false) (h1 : idx a ≤ idx x) (h2 : idx x ≤ idx b) (h3 : idx c ≤ idx y) (h4 : idx y ≤ idx d) (hh : nan (divS x y (-1)) = false) => TH x y nx ny (by omega) (by omega) (by omega) (by omega) (by omega) (nn x y nx ny (by omega) hh)
        have c1 := C a c h.E.ca.num k.E.ca.num (by omega) (by omega) (by omega) (by omega)
        have c2 := C a d h.E.ca.num k.E.cb.num (by omega) (by omega) (by omega) (by omega)
        have c3 := C b c h.E.cb.num k.E.ca.num (by omega) (by omega) (by omega) (by omega)
        have c4 := C b d h.E.cb.num k.E.cb.num (by omega) (by omega) (by omega) (by omega)
        have fc : finB c = true := fin_of_idx k.E.ca.num (by omega) k.E.up
        have nac : ∀ dir, nan (divS a c dir) = false := fun dir => by rw [div_nan_iff _ h.E.ca.num k.E.ca.num hc, fc]; simp
        have w := div_within2 h.E k.E h.E.ca.num k.E.ca.num (Int.le_refl _) o (Int.le_refl _) o2 hc nac
        have s := div_sides h.E.ca.num k.E.ca.num hc (nac (-1))
        obtain ⟨_, _, l', u'⟩ := ends_eq (can_loD a b c d) (can_hiD a b c d) (by omega)
        first
          | (rw [l', loD_idx]
             simp only []
             clear l' u' w s TH C T Z
             cases x1 : nan (divS a c (-1)) <;> cases x2 : nan (divS a d (-1)) <;> cases x3 : nan (divS b c (-1)) <;> cases x4 : nan (divS b d (-1)) <;> rw [x1] at c1 <;> rw [x2] at c2 <;> rw [x3] at c3 <;> rw [x4] at c4 <;> simp only [Bool.false_eq_true, if_false, if_true, true_imp_iff, forall_const, false_imp_iff, Bool.true_eq_false] at * <;> omega)
          | (rw [u', hiD_idx]
             simp only []
             clear l' u' w s TH C T Z
             cases x1 : nan (divS a c (-1)) <;> cases x2 : nan (divS a d (-1)) <;> cases x3 : nan (divS b c (-1)) <;> cases x4 : nan (divS b d (-1)) <;> rw [x1] at c1 <;> rw [x2] at c2 <;> rw [x3] at c3 <;> rw [x4] at c4 <;> simp only [Bool.false_eq_true, if_false, if_true, true_imp_iff, forall_const, false_imp_iff, Bool.true_eq_false] at * <;> omega)
      · by_cases hw : idx c < 0 ∨ (idx c ≤ 0 ∧ idx a < 0 ∧ 0 < idx b)
        · rw [q2 hw, t2 (by omega)]
          first | exact Int.le_refl _
        · have hc0 : idx c = 0 := by omega
          rw [q3 hc0 (by omega)]
          by_cases hw' : idx c' < 0 ∨ (idx c' ≤ 0 ∧ idx a' < 0 ∧ 0 < idx b')
          · rw [q3 hc0 (by omega)] at Z
            have i1 := idx_le Z.E.ca.num
            have i2 := idx_le Z.E.cb.num
            rw [t2 hw']
            first
              | (rw [show (18442240474082181120, 9218868437227405312).1 = 18442240474082181120 from rfl, idx_ninf]; omega)
              | (rw [show (18442240474082181120, 9218868437227405312).2 = 9218868437227405312 from rfl, idx_pinf]; omega)
          · have hc0' : idx c' = 0 := by omega
            have t4 := t3 hc0' (by omega)
            have nsp : ∀ x dir, nan x = false → finB x = true → nan (divS x d dir) = false := fun x dir nx fx => by rw [div_nan_iff _ nx k.E.cb.num hd, fx]; simp
            unfold quotB
            by_cases ha : 0 ≤ idx a
            · rw [if_pos (by rw [(flt0 h.E.ca).2.2.1]; simpa using ha)]
              have fa : finB a = true := fin_of_idx h.E.ca.num (by omega) h.E.up
              have nad := fun dir => nsp a dir h.E.ca.num fa
              have cd := can_div (-1) (nad (-1))
              have il := idx_le cd.num
              obtain ⟨E', n', l', u'⟩ := ends_eq cd can_pinf (by rw [idx_pinf]; omega)
              have t := TH a d h.E.ca.num k.E.cb.num (by omega) (by omega) (by omega) (by omega) hd nad
              have ha' : 0 ≤ idx a' := by omega
              have e2 : (quotI a' b' c' d').2 = (endsI (divS a' d' (-1)) 9218868437227405312).2 := by
                rw [t4]; unfold quotB; rw [if_pos (by rw [(flt0 h.F.ca).2.2.1]; simpa using ha')]
              have fa' : finB a' = true := fin_of_idx h.F.ca.num (by omega) h.F.up
              have nad' : nan (divS a' d' (-1)) = false := by rw [div_nan_iff _ h.F.ca.num k.F.cb.num hd', fa']; simp
              have cd' := can_div (-1) nad'
              have il' := idx_le cd'.num
              obtain ⟨_, _, _, v'⟩ := ends_eq cd' can_pinf (by rw [idx_pinf]; omega)
              first
                | (rw [l']; omega)
                | (rw [u', e2, v']; exact Int.le_refl _)
            · rw [if_neg (by rw [(flt0 h.E.ca).2.2.1]; simpa using ha)]
              have hb : idx b ≤ 0 := by omega
              have fb : finB b = true := fin_of_idx h.E.cb.num h.E.dn (by omega)
              have nbd := fun dir => nsp b dir h.E.cb.num fb
              have cd := can_div 1 (nbd 1)
              have il := idx_le cd.num
              obtain ⟨E', n', l', u'⟩ := ends_eq can_ninf cd (by rw [idx_ninf]; omega)
              have t := TH b d h.E.cb.num k.E.cb.num (by omega) (by omega) (by omega) (by omega) hd nbd
              have ha' : ¬ 0 ≤ idx a' := by omega
              have hb' : idx b' ≤ 0 := by omega
              have e2 : (quotI a' b' c' d').1 = (endsI 18442240474082181120 (divS b' d' 1)).1 := by
                rw [t4]; unfold quotB; rw [if_neg (by rw [(flt0 h.F.ca).2.2.1]; simpa using ha')]
              have fb' : finB b' = true := fin_of_idx h.F.cb.num h.F.dn (by omega)
              have nbd' : nan (divS b' d' 1) = false := by rw [div_nan_iff _ h.F.cb.num k.F.cb.num hd', fb']; simp
              have cd' := can_div 1 nbd'
              have il' := idx_le cd'.num
              obtain ⟨_, _, v', _⟩ := ends_eq can_ninf cd' (by rw [idx_ninf]; omega)
              first
                | (rw [u']; omega)
                | (rw [l', e2, v']; exact Int.le_refl _)

theorem quot_sub {a b c d a' b' c' d' : Nat} (h : Sub a b a' b') (k : Sub c d c' d') (hz : ¬ (idx c = 0 ∧ idx d = 0)) : Sub (quotI a b c d).1 (quotI a b c d).2 (quotI a' b' c' d').1 (quotI a' b' c' d').2 := by
  by_cases hd : 0 < idx d
  · exact quot_up h k hd
  · have o := k.E.le
    rw [← quot_sym h.E k.E h.n k.n, ← quot_sym h.F k.F h.m k.m]
    refine quot_up h.neg k.neg ?_
    rw [idx_clneg]; omega
/-- The quotient may be, whatever it is of. -/
theorem quot_right {a b c d : Nat} (ha : a < 18446744073709551616) (hb : b < 18446744073709551616) (hc : c < 18446744073709551616) (hd : d < 18446744073709551616) : rightB (quotI a b c d).1 (quotI a b c d).2 = true ∧ ((quotI a b c d).1 < 18446744073709551616 ∧ (quotI a b c d).2 < 18446744073709551616) := by
  have X : rightB 9218868437227405312 18442240474082181120 = true ∧ ((9218868437227405312 : Nat) < 18446744073709551616 ∧ (18442240474082181120 : Nat) < 18446744073709551616) := ⟨right_e, by decide, by decide⟩
  cases n : noneB a b
  · cases m : noneB c d
    · have E := ends_of ha hb n
      have F := ends_of hc hd m
      by_cases hz : idx c = 0 ∧ idx d = 0
      · have h1 : eqI c d 0 0 = true := by unfold eqI; rw [(flt0 F.ca).2.2.2, (flt0 F.cb).2.2.2]; simp [hz]
        unfold quotI
        rw [n, m, h1]; exact X
      · have g := (quot_sub (Sub.self E n) (Sub.self F m) hz).grow
        exact ⟨g.r1, g.w1⟩
    · unfold quotI; rw [m]; simp only [Bool.or_true, if_true]; exact X
  · unfold quotI; rw [n]; simp only [Bool.true_or, if_true]; exact X
theorem grow_quot {a b c d a' b' c' d' : Nat} (h : Sub a b a' b') (k : Sub c d c' d') : Grow (quotI a b c d) (quotI a' b' c' d') := by
  by_cases hz : idx c = 0 ∧ idx d = 0
  · have h1 : eqI c d 0 0 = true := by unfold eqI; rw [(flt0 k.E.ca).2.2.2, (flt0 k.E.cb).2.2.2]; simp [hz]
    have e : quotI a b c d = (9218868437227405312, 18442240474082181120) := by unfold quotI; rw [h.n, k.n, h1]; rfl
    rw [e]
    have x := quot_right h.F.ca.lt h.F.cb.lt k.F.ca.lt k.F.cb.lt
    exact Grow.none x.1 x.2
  · exact (quot_sub h k hz).grow
theorem grow_over {a b c d a' b' : Nat} (hc : c < 18446744073709551616) (hd : d < 18446744073709551616) (h : Sub a b a' b') : Grow (quotI a b c d) (quotI a' b' c d) := by
  cases n : noneB c d
  · exact grow_quot h (Sub.self (ends_of hc hd n) n)
  · have e : ∀ x y, quotI x y c d = (9218868437227405312, 18442240474082181120) := fun x y => by unfold quotI; rw [n]; simp
    rw [e, e]; exact Grow.e
theorem grow_by {a b c d a' b' : Nat} (hc : c < 18446744073709551616) (hd : d < 18446744073709551616) (h : Sub a b a' b') : Grow (quotI c d a b) (quotI c d a' b') := by
  cases n : noneB c d
  · exact grow_quot (Sub.self (ends_of hc hd n) n) h
  · have e : ∀ x y, quotI c d x y = (9218868437227405312, 18442240474082181120) := fun x y => by unfold quotI; rw [n]; simp
    rw [e, e]; exact Grow.e

/-! ### Powers -/
theorem odd_idx {v : Nat} (c : Can v) (dir : Int) (k : Nat) : idx (oddR v dir k) = if idx v < 0 then - idx (powS (cl (fneg v)) (-dir) k) else idx (powS v dir k) := by
  unfold oddR
  rw [(flt0 c).1]
  simp only [decide_eq_true_eq]
  split
  · rw [idx_clneg]
  · rfl
theorem odd_mono {x y : Nat} (d1 d2 : Int) (hd : d1 = d2 ∧ (d1 = 1 ∨ d1 = -1) ∨ (d1 = -1 ∧ d2 = 1)) (cx : Can x) (cy : Can y) (h : idx x ≤ idx y) (k : Nat) : idx (oddR x d1 k) ≤ idx (oddR y d2 k) := by
  rw [odd_idx cx, odd_idx cy]
  have i1 := idx_clneg x
  have i2 := idx_clneg y
  have n1 := can_neg cx.num
  have n2 := can_neg cy.num
  split
  · rename_i hx
    have px := (pow_nn (-d1) (-d1) n1 n1 (Or.inl rfl) (by omega) (Int.le_refl _) k).1
    split
    · have := (pow_nn (-d2) (-d1) n2 n1 (by omega) (by omega) (by omega) k).2
      omega
    · have := (pow_nn d2 d2 cy cy (Or.inl rfl) (by omega) (Int.le_refl _) k).1
      omega
  · rename_i hx
    rw [if_neg (by omega)]
    exact (pow_nn d1 d2 cx cy (by omega) (by omega) h k).2
theorem powP_sub {a b a' b' : Nat} (k : Nat) (h : Sub a b a' b') : Sub (powP a b k).1 (powP a b k).2 (powP a' b' k).1 (powP a' b' k).2 := by
  unfold powP
  split
  · exact even_sub k h
  · have o := fun {v : Nat} (c : Can v) dir => (odd_cl c dir k).2.2.2
    exact ends_sub (o h.E.ca _) (o h.E.cb _) (o h.F.ca _) (o h.F.cb _) (odd_mono _ _ (Or.inr ⟨rfl, rfl⟩) h.E.ca h.E.cb h.E.le k) (odd_mono _ _ (Or.inl ⟨rfl, Or.inr rfl⟩) h.F.ca h.E.ca h.lo k) (odd_mono _ _ (Or.inl ⟨rfl, Or.inl rfl⟩) h.E.cb h.F.cb h.hi k)
theorem grow_pow {a b a' b' : Nat} (n : Int) (h : Sub a b a' b') : Grow (powI a b n) (powI a' b' n) := by
  unfold powI
  rw [h.n, h.m]
  simp only [Bool.false_eq_true, if_false]
  have n1 : noneB 4607182418800017408 4607182418800017408 = false := none_can can_one can_one (by decide) (by decide) (by decide)
  have S1 := Sub.self (ends_of (by decide) (by decide) n1) n1
  split
  · exact S1.grow
  · split
    · exact (Sub.self ends_whole.1 ends_whole.2).grow
    · split
      · exact grow_quot S1 (powP_sub _ h)
      · exact (powP_sub _ h).grow

theorem hull_sub {a b e f : Nat} (ha : a < 18446744073709551616) (hb : b < 18446744073709551616) (he : e < 18446744073709551616) (hf : f < 18446744073709551616) (n : noneB a b = false) :
    Sub a b (hullI a b e f).1 (hullI a b e f).2 := by
  have E1 := ends_of ha hb n
  cases m : noneB e f
  · have E2 := ends_of he hf m
    have l1 := E1.le
    have u1 := E1.up
    have v1 := E1.dn
    have l2 := E2.le
    have u2 := E2.up
    have v2 := E2.dn
    have e' : hullI a b e f = (minF a e, maxF b f) := by unfold hullI; rw [n, m]; rfl
    rw [e']
    have i1 := minF_idx E1.ca.num E2.ca.num
    have i2 := maxF_idx E1.cb.num E2.cb.num
    have c1 := can_min E1.ca E2.ca
    have c2 := can_max E1.cb E2.cb
    have k := none_can c1 c2 (by omega) (by omega) (by omega)
    exact ⟨E1, ends_of c1.lt c2.lt k, n, k, by show idx (minF a e) ≤ _; omega, by show _ ≤ idx (maxF b f); omega⟩
  · have e' : hullI a b e f = (a, b) := by unfold hullI; rw [n, m]; rfl
    rw [e']
    exact Sub.self E1 n
theorem grow_sizes {a b a' b' : Nat} (h : Sub a b a' b') : fle (widI a b) (widI a' b') = true ∧ fle (magI a b) (magI a' b') = true ∧ fle (migI a' b') (migI a b) = true := by
  obtain ⟨c1, c2⟩ := can_mag h.n
  obtain ⟨c3, c4⟩ := can_mag h.m
  obtain ⟨m1, m2, m3, m4, m5, m6⟩ := mag_mono h
  have e1 : widI a b = subS b a 1 := by unfold widI; rw [h.n]; rfl
  have e2 : widI a' b' = subS b' a' 1 := by unfold widI; rw [h.m]; rfl
  refine ⟨?_, fle_can c1.num c3.num m1, fle_can c4.num c2.num m2⟩
  rw [e1, e2]
  refine fle_can (wid_num h.n) (wid_num h.m) ?_
  have i1 := idx_fneg a
  have i2 := idx_fneg a'
  have l := h.lo
  have u := h.hi
  have x1 := h.E.up
  have x2 := h.E.dn
  unfold subS
  exact add_high_mono 1 h.E.cb.num (by rw [nan_fneg]; exact h.E.ca.num) h.F.cb.num (by rw [nan_fneg]; exact h.F.ca.num) (by omega) (by omega) u (by omega)
end Go.Proofs.Ytjdccbigaahkeaa
