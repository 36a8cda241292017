/- Plain: hulls and meets, and what they hold; what is taken off itself, what is divided by itself. -/
import Derived.Test.YtjdccbigaahkeaaW42
import Derived.Test.YtjdccbigaahkeaaW45
namespace Go.Proofs.Ytjdccbigaahkeaa
set_option linter.unusedSimpArgs false
set_option linter.unusedVariables false
open Go.RowKit
open Fl

theorem fle_can {x y : Nat} (hx : nan x = false) (hy : nan y = false) (h : idx x ≤ idx y) : fle x y = true := fle_true.2 ⟨hx, hy, h⟩

theorem inside_hull {a b c d : Nat} (ha : a < 18446744073709551616) (hb : b < 18446744073709551616) (hc : c < 18446744073709551616) (hd : d < 18446744073709551616) :
    insideB a b (hullI a b c d).1 (hullI a b c d).2 = true ∧ insideB c d (hullI a b c d).1 (hullI a b c d).2 = true := by
  unfold insideB
  cases h0 : noneB a b
  · have E1 := ends_of ha hb h0
    have l1 := E1.le
    have u1 := E1.up
    have v1 := E1.dn
    cases h1 : noneB c d
    · have E2 := ends_of hc hd h1
      have l2 := E2.le
      have u2 := E2.up
      have v2 := E2.dn
      have e : hullI a b c d = (minF a c, maxF b d) := by unfold hullI; rw [h0, h1]; rfl
      rw [e]
      have i1 := minF_idx E1.ca.num E2.ca.num
      have i2 := maxF_idx E1.cb.num E2.cb.num
      have c1 := can_min E1.ca E2.ca
      have c2 := can_max E1.cb E2.cb
      have n := none_can c1 c2 (by omega) (by omega) (by omega)
      simp only []
      rw [n, fle_can c1.num E1.ca.num (by omega), fle_can E1.cb.num c2.num (by omega), fle_can c1.num E2.ca.num (by omega), fle_can E2.cb.num c2.num (by omega)]
      exact ⟨rfl, rfl⟩
    · have e : hullI a b c d = (a, b) := by unfold hullI; rw [h0, h1]; rfl
      rw [e]
      simp only []
      rw [h0, fle_can E1.ca.num E1.ca.num (Int.le_refl _), fle_can E1.cb.num E1.cb.num (Int.le_refl _)]
      exact ⟨rfl, rfl⟩
  · cases h1 : noneB c d
    · have E2 := ends_of hc hd h1
      have e : hullI a b c d = (c, d) := by unfold hullI; rw [h0, h1]; rfl
      rw [e]
      simp only []
      rw [h1, fle_can E2.ca.num E2.ca.num (Int.le_refl _), fle_can E2.cb.num E2.cb.num (Int.le_refl _)]
      exact ⟨rfl, rfl⟩
    · exact ⟨rfl, rfl⟩

theorem meet_or {a b c d : Nat} (ha : a < 18446744073709551616) (hb : b < 18446744073709551616) (hc : c < 18446744073709551616) (hd : d < 18446744073709551616) (h0 : noneB a b = false) (h1 : noneB c d = false) :
    (max (idx a) (idx c) ≤ min (idx b) (idx d) ∧ meetI a b c d = (maxF a c, minF b d) ∧ noneB (maxF a c) (minF b d) = false ∧ idx (maxF a c) = max (idx a) (idx c) ∧ idx (minF b d) = min (idx b) (idx d) ∧ Can (maxF a c) ∧ Can (minF b d)) ∨
    (¬ max (idx a) (idx c) ≤ min (idx b) (idx d) ∧ meetI a b c d = (9218868437227405312, 18442240474082181120)) := by
  have E1 := ends_of ha hb h0
  have E2 := ends_of hc hd h1
  have l1 := E1.le
  have u1 := E1.up
  have v1 := E1.dn
  have l2 := E2.le
  have u2 := E2.up
  have v2 := E2.dn
  have i1 := maxF_idx E1.ca.num E2.ca.num
  have i2 := minF_idx E1.cb.num E2.cb.num
  have c1 := can_max E1.ca E2.ca
  have c2 := can_min E1.cb E2.cb
  have e : meetI a b c d = makeI (maxF a c) (minF b d) := by unfold meetI; rw [h0, h1]; rfl
  rw [e]
  by_cases h : max (idx a) (idx c) ≤ min (idx b) (idx d)
  · exact Or.inl ⟨h, make_can c1 c2 (by omega) (by omega) (by omega), none_can c1 c2 (by omega) (by omega) (by omega), i1, i2, c1, c2⟩
  · refine Or.inr ⟨h, ?_⟩
    unfold makeI
    rw [can_cl c1, can_cl c2]
    split
    · rename_i hr
      unfold rightB at hr
      have f1 : fle (maxF a c) (minF b d) = false := by
        unfold fle
        rw [c1.num, c2.num]; simp; omega
      have f2 : eqI (maxF a c) (minF b d) 9218868437227405312 18442240474082181120 = false := by
        unfold eqI
        have : feq (maxF a c) 9218868437227405312 = false := by unfold feq; rw [c1.num, nan_pinf, idx_pinf]; simp; omega
        rw [this]; rfl
      rw [f1, f2] at hr
      simp at hr
    · rfl
theorem none_e : noneB 9218868437227405312 18442240474082181120 = true := by decide
theorem meet_e {a b c d : Nat} (h : noneB a b = true ∨ noneB c d = true) : meetI a b c d = (9218868437227405312, 18442240474082181120) := by
  unfold meetI
  rcases h with h | h <;> rw [h] <;> simp

theorem inside_meet {a b c d : Nat} (ha : a < 18446744073709551616) (hb : b < 18446744073709551616) (hc : c < 18446744073709551616) (hd : d < 18446744073709551616) :
    insideB (meetI a b c d).1 (meetI a b c d).2 a b = true ∧ insideB (meetI a b c d).1 (meetI a b c d).2 c d = true := by
  unfold insideB
  cases h0 : noneB a b
  · cases h1 : noneB c d
    · have E1 := ends_of ha hb h0
      have E2 := ends_of hc hd h1
      rcases meet_or ha hb hc hd h0 h1 with ⟨_, e, n, i1, i2, c1, c2⟩ | ⟨_, e⟩
      · rw [e]
        simp only []
        rw [n, fle_can E1.ca.num c1.num (by omega), fle_can c2.num E1.cb.num (by omega), fle_can E2.ca.num c1.num (by omega), fle_can c2.num E2.cb.num (by omega)]
        exact ⟨rfl, rfl⟩
      · rw [e]; simp only []; rw [none_e]; exact ⟨rfl, rfl⟩
    · rw [meet_e (Or.inr h1)]; simp only []; rw [none_e]; exact ⟨rfl, rfl⟩
  · rw [meet_e (Or.inl h0)]; simp only []; rw [none_e]; exact ⟨rfl, rfl⟩

theorem has_meet {a b c d v : Nat} (ha : a < 18446744073709551616) (hb : b < 18446744073709551616) (hc : c < 18446744073709551616) (hd : d < 18446744073709551616) :
    hasB (meetI a b c d).1 (meetI a b c d).2 v = (hasB a b v && hasB c d v) := by
  cases h0 : noneB a b
  · cases h1 : noneB c d
    · have E1 := ends_of ha hb h0
      have E2 := ends_of hc hd h1
      rcases meet_or ha hb hc hd h0 h1 with ⟨_, e, n, i1, i2, c1, c2⟩ | ⟨hn, e⟩
      · rw [e]
        unfold hasB
        simp only []
        rw [n, h0, h1]
        unfold fle
        rw [c1.num, c2.num, E1.ca.num, E1.cb.num, E2.ca.num, E2.cb.num, i1, i2]
        cases nan v <;> cases infinB v <;> simp
        rw [Bool.eq_iff_iff]
        simp
        omega
      · rw [e]
        unfold hasB
        simp only []
        rw [none_e, h0, h1]
        unfold fle
        rw [E1.ca.num, E1.cb.num, E2.ca.num, E2.cb.num]
        cases nan v <;> cases infinB v <;> simp
        omega
    · rw [meet_e (Or.inr h1)]; unfold hasB; rw [none_e, h1]; simp
  · rw [meet_e (Or.inl h0)]; unfold hasB; rw [none_e, h0]; simp

theorem can_add {p q : Nat} (dir : Int) (cp : Can p) (cq : Can q) (h : nan (addS p q dir) = false) : Can (addS p q dir) := by
  unfold addS at h ⊢
  split
  · exact can_rnd _ _ _
  · rename_i h1
    rw [if_neg h1] at h
    split
    · rename_i h2; rw [if_pos h2] at h; exact absurd h (by decide)
    · rename_i h2
      rw [if_neg h2] at h
      split
      · exact cq
      · rename_i h3
        rw [if_neg h3] at h
        split
        · exact cp
        · rename_i h4
          rw [if_neg h4] at h
          split
          · exact cp
          · rename_i h5; rw [if_neg h5] at h; exact absurd h (by decide)

/-- A sum's sign, by its parts' order. -/
theorem add_sign {p q : Nat} (dir : Int) (cp : Can p) (cq : Can q) (h : nan (addS p q dir) = false) :
    (idx p ≤ - idx q → idx (addS p q dir) ≤ 0 ∨ (idx p = 9218868437227405312 ∨ idx q = 9218868437227405312)) ∧ (- idx q ≤ idx p → 0 ≤ idx (addS p q dir) ∨ (idx p = -9218868437227405312 ∨ idx q = -9218868437227405312)) := by
  have hv : ∀ x : Nat, val (cl (fneg x)) = - val x := val_clneg
  have o1 : idx p ≤ - idx q → val p + val q ≤ 0 := fun h => by
    have := val_le (a := p) (b := cl (fneg q))
    rw [hv, idx_clneg] at this
    have := this.2 h
    omega
  have o2 : - idx q ≤ idx p → 0 ≤ val p + val q := fun h => by
    have := val_le (a := cl (fneg q)) (b := p)
    rw [hv, idx_clneg] at this
    have := this.2 h
    omega
  unfold addS at h ⊢
  cases fp : finB p
  · have ip := idx_inf_of cp.num fp
    cases fq : finB q
    · rw [fp, fq] at h
      simp only [Bool.and_self, Bool.false_eq_true, if_false, cp.num, cq.num, Bool.or_self] at h ⊢
      constructor
      · intro hh
        split
        · split at ip <;> omega
        · rename_i h5; rw [if_neg h5] at h; exact absurd h (by decide)
      · intro hh
        split
        · split at ip <;> omega
        · rename_i h5; rw [if_neg h5] at h; exact absurd h (by decide)
    · simp only [Bool.false_and, Bool.false_eq_true, if_false, cp.num, cq.num, Bool.or_self, if_true]
      constructor <;> intro hh <;> split at ip <;> omega
  · cases fq : finB q
    · have iq := idx_inf_of cq.num fq
      simp only [Bool.and_false, Bool.false_eq_true, if_false, cp.num, cq.num, Bool.or_self, if_true]
      constructor <;> intro hh <;> split at iq <;> omega
    · simp only [Bool.and_self, if_true]
      rw [rnd_eq]
      have b := nan_bits (plc_le (val p + val q) 1 dir).1 (plc_le (val p + val q) 1 dir).2
      rw [b.2.1]
      exact ⟨fun hh => Or.inl (plc_np (by decide) (o1 hh) dir), fun hh => Or.inl (plc_nn (o2 hh) dir)⟩

theorem has_of {x y v : Nat} (hn : noneB x y = false) (hx : nan x = false) (hy : nan y = false) (hv : nan v = false) (h1 : idx x ≤ idx v) (h2 : idx v ≤ idx y) (hi : infinB v = false) : hasB x y v = true := by
  unfold hasB
  rw [hn, fle_can hx hv h1, fle_can hv hy h2, hi]; rfl

/-- Ends on both sides of a number. -/
theorem ends_has {lo hi v : Nat} (c1 : Can lo) (c2 : Can hi) (hv : nan v = false) (h1 : idx lo ≤ idx v) (h2 : idx v ≤ idx hi) (hi' : infinB v = false) (l : -9218868437227405311 ≤ idx v) (u : idx v ≤ 9218868437227405311) : hasB (endsI lo hi).1 (endsI lo hi).2 v = true := by
  have m1 : Can 9218868437227405311 := ⟨by decide, by decide, by decide⟩
  have m2 : Can 18442240474082181119 := ⟨by decide, by decide, by decide⟩
  have i1 : idx (minF lo 9218868437227405311) = min (idx lo) 9218868437227405311 := by rw [minF_idx c1.num (by decide)]; rfl
  have i2 : idx (maxF hi 18442240474082181119) = max (idx hi) (-9218868437227405311) := by rw [maxF_idx c2.num (by decide)]; rfl
  have k1 := can_min c1 m1
  have k2 := can_max c2 m2
  unfold endsI
  rw [make_can k1 k2 (by omega) (by omega) (by omega)]
  show hasB (minF lo 9218868437227405311) (maxF hi 18442240474082181119) v = true
  exact has_of (none_can k1 k2 (by omega) (by omega) (by omega)) k1.num k2.num hv (by omega) (by omega) hi'

theorem has_diff {a b : Nat} (ha : a < 18446744073709551616) (hb : b < 18446744073709551616) (h0 : noneB a b = false) : hasB (diffI a b a b).1 (diffI a b a b).2 0 = true := by
  have E1 := ends_of ha hb h0
  obtain ⟨m1, m2⟩ := neg_facts ha hb h0
  have l := E1.le
  have u := E1.up
  have d := E1.dn
  have i1 := idx_clneg a
  have i2 := idx_clneg b
  have ca := can_neg E1.ca.num
  have cb := can_neg E1.cb.num
  have z : idx 0 = 0 := by decide
  unfold diffI sumI
  rw [m1]
  simp only []
  rw [h0, m2]
  simp only [Bool.or_self, Bool.false_eq_true, if_false]
  have sg : ∀ x, Can x → finB x = false → (sgn x = true ↔ idx x < 0) := fun x cx fx => by
    have := idx_inf_of cx.num fx
    cases hs : sgn x <;> rw [hs] at this <;> simp at this ⊢ <;> omega
  have n1 : nan (addS a (cl (fneg b)) (-1)) = false := addS_num _ E1.ca.num cb.num fun f1 f2 => by
    have s1 := (sg a E1.ca f1)
    have s2 := (sg _ cb f2)
    have e1 := idx_inf_of E1.ca.num f1
    have e2 := idx_inf_of cb.num f2
    rw [Bool.eq_iff_iff, s1, s2]
    split at e1 <;> split at e2 <;> omega
  have n2 : nan (addS b (cl (fneg a)) 1) = false := addS_num _ E1.cb.num ca.num fun f1 f2 => by
    have s1 := (sg b E1.cb f1)
    have s2 := (sg _ ca f2)
    have e1 := idx_inf_of E1.cb.num f1
    have e2 := idx_inf_of ca.num f2
    rw [Bool.eq_iff_iff, s1, s2]
    split at e1 <;> split at e2 <;> omega
  have g1 := (add_sign (-1) E1.ca cb n1).1 (by omega)
  have g2 := (add_sign 1 E1.cb ca n2).2 (by omega)
  exact ends_has (can_add _ E1.ca cb n1) (can_add _ E1.cb ca n2) (by decide) (by omega) (by omega) (by decide) (by decide) (by decide)

/-- A number by itself is one. -/
theorem div_self {p : Nat} (dir : Int) (np : nan p = false) (fp : finB p = true) (h : rung p ≠ 0) : divS p p dir = 4607182418800017408 := by
  unfold divS
  rw [np, fp, if_neg (by simp), if_neg h]
  simp only [Bool.and_self, if_true]
  have hv : val p * (if sgn p = true then -1 else 1) = (G (rung p) : Nat) := by
    unfold val
    cases sgn p <;> simp
  rw [hv]
  have hG : 0 < G (rung p) := G_pos (by omega)
  have : rnd (((G (rung p) : Nat) : Int) * ((pw 1074 : Nat) : Int)) (G (rung p)) dir = rnd ((pw 1074 : Nat) : Int) 1 dir := rnd_ratio dir hG (by decide) (by rw [Int.mul_comm]; simp [Int.mul_comm])
  rw [this]
  have hG1 : G 4607182418800017408 = pw 1074 := by
    have h := G_normal' (K := 1022) (m := 0) (by decide)
    rw [show (1022 + 1) * BIN + 0 = 4607182418800017408 by decide] at h
    rw [h, show BIN + 0 = pw 52 from (pw_eq 52).symm, ← pw_add]
  rw [rnd_eq]
  unfold plc
  rw [if_neg (by omega), Int.natAbs_natCast, ← hG1, rungOf_exact1 (by decide)]
  decide

theorem has_one {a b : Nat} (ha : a < 18446744073709551616) (hb : b < 18446744073709551616) (h0 : noneB a b = false) (hx : (feq a 0 && feq b 0) = false) : hasB (quotI a b a b).1 (quotI a b a b).2 4607182418800017408 = true := by
  have E1 := ends_of ha hb h0
  obtain ⟨a1, a2, a3, a4⟩ := flt0 E1.ca
  obtain ⟨b1, b2, b3, b4⟩ := flt0 E1.cb
  have le := E1.le
  have up := E1.up
  have dn := E1.dn
  have one : idx 4607182418800017408 = 4607182418800017408 := by decide
  have hz : ¬ (idx a = 0 ∧ idx b = 0) := by rw [a4, b4] at hx; simpa using hx
  unfold quotI
  have e0 : eqI a b 0 0 = false := hx
  rw [h0, e0]
  simp only [Bool.or_self, Bool.false_eq_true, if_false]
  have rz : ∀ x, idx x ≠ 0 → rung x ≠ 0 := fun x h hh => h ((idx_zero_iff x).2 hh)
  by_cases h1 : 0 < idx a ∨ idx b < 0
  · rw [if_pos (by rw [a2, b1]; simpa using h1)]
    have l1 := loD_idx a b a b
    have l2 := hiD_idx a b a b
    have key : (divS a a (-1) = 4607182418800017408 ∧ divS a a 1 = 4607182418800017408) ∨ (divS b b (-1) = 4607182418800017408 ∧ divS b b 1 = 4607182418800017408) := by
      rcases h1 with h1 | h1
      · have f := fin_of_idx E1.ca.num (by omega) up
        exact Or.inl ⟨div_self _ E1.ca.num f (rz a (by omega)), div_self _ E1.ca.num f (rz a (by omega))⟩
      · have f := fin_of_idx E1.cb.num dn (by omega)
        exact Or.inr ⟨div_self _ E1.cb.num f (rz b (by omega)), div_self _ E1.cb.num f (rz b (by omega))⟩
    have n1 : nan 4607182418800017408 = false := by decide
    have b1 : idx (loD a b a b) ≤ 4607182418800017408 := by
      rw [l1]
      simp only []
      rcases key with ⟨k1, _⟩ | ⟨k1, _⟩ <;> rw [k1, n1, one] <;> simp only [Bool.false_eq_true, if_false]
      · cases nan (divS a b (-1)) <;> cases nan (divS b a (-1)) <;> cases nan (divS b b (-1)) <;> simp only [Bool.false_eq_true, if_false, if_true] <;> omega
      · omega
    have b2 : 4607182418800017408 ≤ idx (hiD a b a b) := by
      rw [l2]
      simp only []
      rcases key with ⟨k1, k2⟩ | ⟨k1, k2⟩ <;> rw [k1, k2, n1, one] <;> simp only [Bool.false_eq_true, if_false]
      · cases nan (divS a b (-1)) <;> cases nan (divS b a (-1)) <;> cases nan (divS b b (-1)) <;> simp only [Bool.false_eq_true, if_false, if_true] <;> omega
      · omega
    exact ends_has (can_loD _ _ _ _) (can_hiD _ _ _ _) n1 (by omega) (by omega) (by decide) (by decide) (by decide)
  · rw [if_neg (by rw [a2, b1]; simp; omega)]
    by_cases h2 : idx a < 0 ∧ 0 < idx b
    · rw [if_pos (by rw [a1, b2]; simpa using h2)]
      decide
    · rw [if_neg (by rw [a1, b2]; simpa using h2)]
      have q0 : ∀ d, Can d → 0 < idx d → hasB (quotB 0 d d).1 (quotB 0 d d).2 4607182418800017408 = true := fun d cd hd => by
        unfold quotB
        rw [if_pos (by decide)]
        have z : divS 0 d (-1) = 0 := by
          obtain ⟨x1, x2, x3, x4⟩ := div_pos (p := 0) (-1) (by decide) cd.num hd
          cases fd : finB d
          · exact x2 (by decide) fd
          · obtain ⟨y1, y2⟩ := x1 (by decide) fd
            have hG := G_rung_pos hd
            refine (can_div _ y1).zero ?_
            rw [y2, show val 0 = 0 from rfl, Int.zero_mul, plc_zero _ hG.1]
        rw [z]
        exact ends_has can_zero can_pinf (by decide) (by decide) (by decide) (by decide) (by decide) (by decide)
      by_cases h3 : idx a < 0
      · rw [if_pos (by rw [a1]; simpa using h3)]
        have hb0 : b = 0 := E1.cb.zero (by omega)
        rw [hb0, show cl (fneg 0) = 0 by decide]
        exact q0 _ (can_neg E1.ca.num) (by rw [idx_clneg]; omega)
      · rw [if_neg (by rw [a1]; simpa using h3)]
        have ha0 : a = 0 := E1.ca.zero (by omega)
        rw [ha0]
        exact q0 b E1.cb (by omega)

theorem neg_neg {a b : Nat} (ha : a < 18446744073709551616) (hb : b < 18446744073709551616) (h0 : noneB a b = false) : negI (negI a b).1 (negI a b).2 = (a, b) := by
  have E1 := ends_of ha hb h0
  obtain ⟨m1, m2⟩ := neg_facts ha hb h0
  rw [m1]
  simp only []
  rw [(neg_facts (cl_lt (fneg_lt b)) (cl_lt (fneg_lt a)) m2).1]
  have e : ∀ x, Can x → cl (fneg (cl (fneg x))) = x := fun x cx => (can_neg (can_neg cx.num).num).inj cx (by rw [idx_clneg, idx_clneg]; omega)
  rw [e a E1.ca, e b E1.cb]
theorem inside_self {a b : Nat} (ha : a < 18446744073709551616) (hb : b < 18446744073709551616) (h0 : noneB a b = false) : insideB a b a b = true := by
  have E1 := ends_of ha hb h0
  unfold insideB
  rw [h0, fle_can E1.ca.num E1.ca.num (Int.le_refl _), fle_can E1.cb.num E1.cb.num (Int.le_refl _)]; rfl
theorem mig_mag {a b : Nat} (h0 : noneB a b = false) : fle (migI a b) (magI a b) = true := by
  obtain ⟨c1, c2⟩ := can_mag h0
  obtain ⟨n1, n2⟩ := nums_of h0
  refine fle_can c2.num c1.num ?_
  have z : idx 0 = 0 := by decide
  have i : ∀ x, nan x = false → nan (rung x) = false := fun x h => by rw [nan_rung]; exact h
  have g : idx (magI a b) = max (idx (rung a)) (idx (rung b)) := by
    unfold magI
    rw [h0, if_neg Bool.false_ne_true, maxF_idx (i a n1) (i b n2)]
  rw [g]
  unfold migI
  split
  · rw [z, idx_rung, idx_rung]; omega
  · rw [minF_idx (i a n1) (i b n2)]; omega
end Go.Proofs.Ytjdccbigaahkeaa
