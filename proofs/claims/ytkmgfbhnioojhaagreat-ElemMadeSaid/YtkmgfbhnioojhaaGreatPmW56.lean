/- Contracts: the reference's quotients are the same. -/
import Derived.Test.YtkmgfbhnioojhaaGreatPmW45
import Derived.Test.YtkmgfbhnioojhaaGreatPmW53x
import Derived.Test.YtkmgfbhnioojhaaGreatPmW54
import Derived.Test.YtkmgfbhnioojhaaGreatPmW51
namespace Go.Proofs.YtkmgfbhnioojhaaGreat
set_option linter.unusedSimpArgs false
set_option linter.unusedVariables false
open Go.RowKit
open Fl

theorem over_ok {a b c d : Nat} (E1 : Ends a b) (E2 : Ends c d) (hd : 0 < idx d) :
    (flt 0 b = true → nan (leastF (cl (fneg b)) (lowF c)) = false) ∧ (flt 0 b = false → nan (greatF (cl (fneg b)) d (-1)) = false) := by
  have nb := (can_neg E1.cb.num).num
  have ib := idx_clneg b
  obtain ⟨c1, c2, c3, c4⟩ := flt0 E2.ca
  refine ⟨fun h => ?_, fun h => ?_⟩
  · unfold leastF
    split
    · decide
    · rename_i hh
      have hh : (feq (lowF c) 0 || feq (cl (fneg b)) 18442240474082181120) = false := by simpa using hh
      rw [Bool.or_eq_false_iff] at hh
      have hc : 0 < idx c := by
        apply Int.lt_of_not_ge
        intro hge
        have : lowF c = 0 := by
          unfold lowF
          by_cases h0 : idx c = 0
          · rw [E2.ca.zero h0]; decide
          · rw [if_pos (by rw [c1]; simp; omega)]
        rw [this] at hh
        exact absurd hh.1 (by decide)
      have lc : lowF c = c := by unfold lowF; rw [if_neg (by rw [c1]; simp; omega)]
      rw [lc]
      have fc : finB c = true := fin_of_idx E2.ca.num (by omega) E2.up
      rw [div_nan_iff _ nb E2.ca.num hc, fc]; simp
  · unfold greatF
    split
    · decide
    · have hb : ¬ 0 < idx b := by rw [(flt0 E1.cb).2.1] at h; simpa using h
      have fb : finB (cl (fneg b)) = true := fin_of_idx nb (by omega) (by have := E1.dn; omega)
      rw [div_nan_iff _ nb E2.cb.num hd, fb]; simp

theorem over_of {a b c d : Nat} (E1 : Ends a b) (E2 : Ends c d) (hd : 0 < idx d) : Gives 115 #[(.agg #[.float .f64 a, .float .f64 b]), (.agg #[.float .f64 c, .float .f64 d])] (.agg #[.float .f64 ((overI a b c d).1), .float .f64 ((overI a b c d).2)]) := by
  obtain ⟨k1, k2⟩ := over_ok E1 E2 hd
  exact over_any a b c d E1.ca.lt E1.cb.lt E2.ca.lt E2.cb.lt E1.cb.num k1 k2

/-- Nothing else than an interval, or the empty one. -/
theorem over_none {a b c d : Nat} (E1 : Ends a b) (h : noneB (overI a b c d).1 (overI a b c d).2 = true) (hx : ¬ (idx a = 0 ∧ idx b = 0)) : overI a b c d = (9218868437227405312, 18442240474082181120) := by
  have e : overI a b c d = endsI (overLo a c d) (overHi b c d) := by
    unfold overI
    rw [if_neg (by rw [(flt0 E1.ca).2.2.2, (flt0 E1.cb).2.2.2]; simpa using hx)]
  rw [e] at h ⊢
  exact ends_none (overLo_lt _ _ _) (overHi_lt _ _ _) h

theorem over_pos {a b c d : Nat} (E1 : Ends a b) (E2 : Ends c d) (h1 : noneB a b = false) (h2 : noneB c d = false) (hc : 0 < idx c) (hx : ¬ (idx a = 0 ∧ idx b = 0)) : overI a b c d = endsI (loD a b c d) (hiD a b c d) := by
  unfold overI
  rw [if_neg (by rw [(flt0 E1.ca).2.2.2, (flt0 E1.cb).2.2.2]; simpa using hx), lo_div h1 h2 E1.ca.lt E1.cb.lt E2.ca.lt E2.cb.lt hc, hi_div h1 h2 E1.ca.lt E1.cb.lt E2.ca.lt E2.cb.lt hc]

theorem low_np {c : Nat} (h : Can c) (hc : idx c ≤ 0) : lowF c = 0 := by
  unfold lowF
  by_cases h0 : idx c = 0
  · rw [h.zero h0]; decide
  · rw [if_pos (by rw [(flt0 h).1]; simp; omega)]

theorem least0 (p : Nat) : leastF p 0 = 18442240474082181120 := by unfold leastF; rw [show feq 0 0 = true by decide]; rfl

/-- By a part that begins at nought, or goes on below it: three ways. -/
theorem over_low {a b c d : Nat} (E1 : Ends a b) (E2 : Ends c d) (hc : idx c ≤ 0) (hd : 0 < idx d) (hx : ¬ (idx a = 0 ∧ idx b = 0)) :
    (idx a < 0 → 0 < idx b → overI a b c d = (18442240474082181120, 9218868437227405312)) ∧
    (0 ≤ idx a → overI a b c d = endsI (divS a d (-1)) 9218868437227405312) ∧ (idx b ≤ 0 → overI a b c d = endsI 18442240474082181120 (divS b d 1)) := by
  have e : overI a b c d = endsI (overLo a c d) (overHi b c d) := by
    unfold overI
    rw [if_neg (by rw [(flt0 E1.ca).2.2.2, (flt0 E1.cb).2.2.2]; simpa using hx)]
  have l := low_np E2.ca hc
  have le := E1.le
  have lo1 : idx a < 0 → overLo a c d = 18442240474082181120 := fun h => by
    unfold overLo; rw [if_pos (by rw [(flt0 E1.ca).1]; simpa using h), l, least0]
  have hi1 : 0 < idx b → overHi b c d = 9218868437227405312 := fun h => by
    unfold overHi; rw [if_pos (by rw [(flt0 E1.cb).2.1]; simpa using h), l, least0]; decide
  refine ⟨fun h1 h2 => ?_, fun h1 => ?_, fun h1 => ?_⟩
  · rw [e, lo1 h1, hi1 h2]; decide
  · have hb : 0 < idx b := by omega
    rw [e, hi1 hb]
    have fa : finB a = true := fin_of_idx E1.ca.num (by omega) E1.up
    have : overLo a c d = divS a d (-1) := by
      unfold overLo greatF
      rw [if_neg (by rw [(flt0 E1.ca).1]; simp; omega)]
      split
      · rename_i hi
        have := pinf_of E2.cb.lt hi
        subst this
        rw [(div_pos (-1) E1.ca.num E2.cb.num hd).2.1 fa (by decide)]
      · rfl
    rw [this]
  · have ha : idx a < 0 := by omega
    rw [e, lo1 ha]
    have fb : finB b = true := fin_of_idx E1.cb.num E1.dn (by omega)
    have y4 : nan (divS b d 1) = false := by rw [div_nan_iff _ E1.cb.num E2.cb.num hd, fb]; simp
    have nb := (can_neg E1.cb.num).num
    have ib := idx_clneg b
    have : overHi b c d = divS b d 1 := by
      unfold overHi
      rw [if_neg (by rw [(flt0 E1.cb).2.1]; simp; omega)]
      have nn : nan (greatF (cl (fneg b)) d (-1)) = false := (over_ok E1 E2 hd).2 (by rw [(flt0 E1.cb).2.1]; simp; omega)
      refine (can_neg nn).inj (can_div _ y4) ?_
      rw [idx_clneg]
      unfold greatF
      split
      · rename_i hi
        have := pinf_of E2.cb.lt hi
        subst this
        rw [(div_pos 1 E1.cb.num E2.cb.num hd).2.1 fb (by decide)]; decide
      · rw [div_fneg E1.cb.num E2.cb.num hd y4]; omega
    rw [this]

theorem over_half {a b c d : Nat} (E1 : Ends a b) (E2 : Ends c d) (hc : idx c ≤ 0) (hd : 0 < idx d) (hx : ¬ (idx a = 0 ∧ idx b = 0)) (hs : ¬ (idx a < 0 ∧ 0 < idx b)) : overI a b c d = quotB a b d := by
  obtain ⟨k1, k2, k3⟩ := over_low E1 E2 hc hd hx
  have le := E1.le
  unfold quotB
  by_cases h : 0 ≤ idx a
  · rw [k2 h, if_pos (by rw [(flt0 E1.ca).2.2.1]; simpa using h)]
  · rw [k3 (by omega), if_neg (by rw [(flt0 E1.ca).2.2.1]; simpa using h)]

/-- Two halves without end make all. -/
theorem hull_low {a b c d : Nat} (E1 : Ends a b) (E2 : Ends c d) (hc : idx c ≤ 0) (hd : 0 < idx d) (hx : ¬ (idx a = 0 ∧ idx b = 0)) :
    ∃ p1 p2, overI a b c d = (p1, p2) ∧ noneB p1 p2 = false ∧ nan p1 = false ∧ nan p2 = false ∧ (idx a < 0 → p1 = 18442240474082181120) ∧ (0 < idx b → p2 = 9218868437227405312) := by
  obtain ⟨k1, k2, k3⟩ := over_low E1 E2 hc hd hx
  have le := E1.le
  by_cases h : 0 ≤ idx a
  · have fa : finB a = true := fin_of_idx E1.ca.num (by omega) E1.up
    have nn : nan (divS a d (-1)) = false := by rw [div_nan_iff _ E1.ca.num E2.cb.num hd, fa]; simp
    obtain ⟨e1, e2, e3⟩ := ends_pinf (can_div _ nn)
    exact ⟨_, _, by rw [k2 h, e1], e2, e3.num, by decide, fun h' => by omega, fun _ => rfl⟩
  · by_cases h2 : 0 < idx b
    · exact ⟨_, _, k1 (by omega) h2, by decide, by decide, by decide, fun _ => rfl, fun _ => rfl⟩
    · have fb : finB b = true := fin_of_idx E1.cb.num E1.dn (by omega)
      have y4 : nan (divS b d 1) = false := by rw [div_nan_iff _ E1.cb.num E2.cb.num hd, fb]; simp
      obtain ⟨e1, e2, e3⟩ := ends_ninf (can_div _ y4)
      exact ⟨_, _, by rw [k3 (by omega), e1], e2, by decide, e3.num, fun _ => rfl, fun h' => by omega⟩
theorem hull_whole {p1 p2 s1 s2 : Nat} (h1 : noneB p1 p2 = false) (h2 : noneB s1 s2 = false) (n1 : nan p1 = false) (n2 : nan p2 = false) (n3 : nan s1 = false) (n4 : nan s2 = false)
    (l : p1 = 18442240474082181120 ∨ s1 = 18442240474082181120) (u : p2 = 9218868437227405312 ∨ s2 = 9218868437227405312) (c1 : Can p1) (c2 : Can p2) (c3 : Can s1) (c4 : Can s2) : hullI p1 p2 s1 s2 = (18442240474082181120, 9218868437227405312) := by
  unfold hullI
  rw [h1, h2]
  simp only [Bool.and_self, Bool.false_eq_true, if_false]
  have m1 : minF p1 s1 = 18442240474082181120 := by
    refine (can_min c1 c3).inj can_ninf ?_
    rw [minF_idx n1 n3, idx_ninf]
    have := idx_le n1
    have := idx_le n3
    rcases l with rfl | rfl <;> rw [idx_ninf] at * <;> omega
  have m2 : maxF p2 s2 = 9218868437227405312 := by
    refine (can_max c2 c4).inj can_pinf ?_
    rw [maxF_idx n2 n4, idx_pinf]
    have := idx_le n2
    have := idx_le n4
    rcases u with rfl | rfl <;> rw [idx_pinf] at * <;> omega
  rw [m1, m2]

theorem overI_lt {a b c d : Nat} (ha : a < 18446744073709551616) (hb : b < 18446744073709551616) : (overI a b c d).1 < 18446744073709551616 ∧ (overI a b c d).2 < 18446744073709551616 := by
  unfold overI
  split
  · exact ⟨ha, hb⟩
  · exact makeI_lt (minF_lt (overLo_lt _ _ _) (by decide)) (maxF_lt (overHi_lt _ _ _) (by decide))
theorem hullI_lt {a b c d : Nat} (ha : a < 18446744073709551616) (hb : b < 18446744073709551616) (hc : c < 18446744073709551616) (hd : d < 18446744073709551616) : (hullI a b c d).1 < 18446744073709551616 ∧ (hullI a b c d).2 < 18446744073709551616 := by
  unfold hullI
  split
  · exact ⟨by decide, by decide⟩
  · split
    · exact ⟨hc, hd⟩
    · split
      · exact ⟨ha, hb⟩
      · exact ⟨minF_lt ha hc, maxF_lt hb hd⟩

theorem hull_e {a b : Nat} (ha : a < 18446744073709551616) (hb : b < 18446744073709551616) : Gives 114 #[(.agg #[.float .f64 9218868437227405312, .float .f64 18442240474082181120]), (.agg #[.float .f64 a, .float .f64 b])] (.agg #[.float .f64 ((hullI 9218868437227405312 18442240474082181120 a b).1), .float .f64 ((hullI 9218868437227405312 18442240474082181120 a b).2)]) :=
  hull_ref_any _ _ a b (by decide) (by decide) ha hb

section
variable {a b c d : Nat}
theorem ref_up (E1 : Ends a b) (E2 : Ends c d) (nx : noneB a b = false) (ny : noneB c d = false) (hd : 0 < idx d) (hc : 0 ≤ idx c) :
    Gives 45 #[(.agg #[.float .f64 a, .float .f64 b]), (.agg #[.float .f64 c, .float .f64 d])] (.agg #[.float .f64 ((hullI 9218868437227405312 18442240474082181120 (overI a b c d).1 (overI a b c d).2).1), .float .f64 ((hullI 9218868437227405312 18442240474082181120 (overI a b c d).1 (overI a b c d).2).2)]) := by
  have n1 := none_ref_any a b E1.ca.lt E1.cb.lt
  have n2 := none_ref_any c d E2.ca.lt E2.cb.lt
  rw [nx] at n1
  rw [ny] at n2
  have l := overI_lt (c := c) (d := d) E1.ca.lt E1.cb.lt
  exact divref_up a b c d _ _ _ _ n1 n2 (by rw [(flt0 E2.cb).2.1]; simpa using hd) (by rw [(flt0 E2.ca).1]; simp; omega) (over_of E1 E2 hd) (hull_e l.1 l.2)
theorem ref_no (E1 : Ends a b) (E2 : Ends c d) (nx : noneB a b = false) (ny : noneB c d = false) (hd : idx d ≤ 0) (hc : 0 ≤ idx c) :
    Gives 45 #[(.agg #[.float .f64 a, .float .f64 b]), (.agg #[.float .f64 c, .float .f64 d])] (.agg #[.float .f64 9218868437227405312, .float .f64 18442240474082181120]) := by
  have n1 := none_ref_any a b E1.ca.lt E1.cb.lt
  have n2 := none_ref_any c d E2.ca.lt E2.cb.lt
  rw [nx] at n1
  rw [ny] at n2
  exact divref_no a b c d n1 n2 (by rw [(flt0 E2.cb).2.1]; simp; omega) (by rw [(flt0 E2.ca).1]; simp; omega)
theorem ref_neg (E1 : Ends a b) (nx : noneB a b = false) : Gives 43 #[(.agg #[.float .f64 a, .float .f64 b])] (.agg #[.float .f64 (cl (fneg b)), .float .f64 (cl (fneg a))]) := by
  have N := neg_ref_any a b E1.ca.lt E1.cb.lt
  rw [(neg_facts E1.ca.lt E1.cb.lt nx).1] at N
  exact N
theorem ends_neg (E1 : Ends a b) (nx : noneB a b = false) : Ends (cl (fneg b)) (cl (fneg a)) ∧ noneB (cl (fneg b)) (cl (fneg a)) = false :=
  ⟨ends_of (cl_lt (fneg_lt b)) (cl_lt (fneg_lt a)) (neg_facts E1.ca.lt E1.cb.lt nx).2, (neg_facts E1.ca.lt E1.cb.lt nx).2⟩
theorem ref_down (E1 : Ends a b) (E2 : Ends c d) (nx : noneB a b = false) (ny : noneB c d = false) (hd : idx d ≤ 0) (hc : idx c < 0) {p : Nat × Nat} (hp : overI (cl (fneg b)) (cl (fneg a)) (cl (fneg d)) (cl (fneg c)) = p) :
    Gives 45 #[(.agg #[.float .f64 a, .float .f64 b]), (.agg #[.float .f64 c, .float .f64 d])] (.agg #[.float .f64 ((hullI 9218868437227405312 18442240474082181120 p.1 p.2).1), .float .f64 ((hullI 9218868437227405312 18442240474082181120 p.1 p.2).2)]) := by
  subst hp
  have n1 := none_ref_any a b E1.ca.lt E1.cb.lt
  have n2 := none_ref_any c d E2.ca.lt E2.cb.lt
  rw [nx] at n1
  rw [ny] at n2
  have l := overI_lt (c := cl (fneg d)) (d := cl (fneg c)) (ends_neg E1 nx).1.ca.lt (ends_neg E1 nx).1.cb.lt
  exact divref_down a b c d _ _ _ _ _ _ _ _ n1 n2 (by rw [(flt0 E2.cb).2.1]; simp; omega) (by rw [(flt0 E2.ca).1]; simpa using hc) (ref_neg E1 nx) (ref_neg E2 ny) (over_of (ends_neg E1 nx).1 (ends_neg E2 ny).1 (by rw [idx_clneg]; omega)) (hull_e l.1 l.2)
theorem ref_both (E1 : Ends a b) (E2 : Ends c d) (nx : noneB a b = false) (ny : noneB c d = false) (hd : 0 < idx d) (hc : idx c < 0) {p s t : Nat × Nat} (hp : hullI 9218868437227405312 18442240474082181120 (overI a b c d).1 (overI a b c d).2 = p)
    (hs : overI (cl (fneg b)) (cl (fneg a)) (cl (fneg d)) (cl (fneg c)) = s) (ht : hullI p.1 p.2 s.1 s.2 = t) :
    Gives 45 #[(.agg #[.float .f64 a, .float .f64 b]), (.agg #[.float .f64 c, .float .f64 d])] (.agg #[.float .f64 t.1, .float .f64 t.2]) := by
  subst hp hs ht
  have n1 := none_ref_any a b E1.ca.lt E1.cb.lt
  have n2 := none_ref_any c d E2.ca.lt E2.cb.lt
  rw [nx] at n1
  rw [ny] at n2
  have l := overI_lt (c := c) (d := d) E1.ca.lt E1.cb.lt
  have l2 := overI_lt (c := cl (fneg d)) (d := cl (fneg c)) (ends_neg E1 nx).1.ca.lt (ends_neg E1 nx).1.cb.lt
  have l3 := hullI_lt (a := 9218868437227405312) (b := 18442240474082181120) (by decide) (by decide) l.1 l.2
  exact divref_both a b c d _ _ _ _ _ _ _ _ _ _ _ _ n1 n2 (by rw [(flt0 E2.cb).2.1]; simpa using hd) (by rw [(flt0 E2.ca).1]; simpa using hc) (over_of E1 E2 hd) (hull_e l.1 l.2) (ref_neg E1 nx) (ref_neg E2 ny) (over_of (ends_neg E1 nx).1 (ends_neg E2 ny).1 (by rw [idx_clneg]; omega)) (hull_ref_any _ _ _ _ l3.1 l3.2 l2.1 l2.2)
end

theorem none00 : noneB 0 0 = false := none_can can_zero can_zero (by decide) (by decide) (by decide)
theorem hull_e0 : hullI 9218868437227405312 18442240474082181120 0 0 = (0, 0) := hull_none (z := (0, 0)) (fun h => by rw [show noneB (0, 0).1 (0, 0).2 = noneB 0 0 from rfl, none00] at h; cases h)
theorem hull_00 : hullI 0 0 0 0 = (0, 0) := by unfold hullI; rw [none00]; rfl
theorem over_zero (c d : Nat) : overI 0 0 c d = (0, 0) := by
  unfold overI
  rw [show feq 0 0 = true by decide]; rfl

set_option maxHeartbeats 2000000 in
theorem quot_ref_any (a b c d : Nat) (ha : a < 18446744073709551616) (hb : b < 18446744073709551616) (hc : c < 18446744073709551616) (hd : d < 18446744073709551616) : Gives 45 #[(.agg #[.float .f64 a, .float .f64 b]), (.agg #[.float .f64 c, .float .f64 d])] (.agg #[.float .f64 ((quotI a b c d).1), .float .f64 ((quotI a b c d).2)]) := by
  unfold quotI
  cases h0 : noneB a b || noneB c d
  · have h0' := h0
    rw [Bool.or_eq_false_iff] at h0'
    obtain ⟨nx, ny⟩ := h0'
    have E1 := ends_of ha hb nx
    have E2 := ends_of hc hd ny
    obtain ⟨a1, a2, a3, a4⟩ := flt0 E1.ca
    obtain ⟨b1, b2, b3, b4⟩ := flt0 E1.cb
    obtain ⟨c1, c2, c3, c4⟩ := flt0 E2.ca
    obtain ⟨d1, d2, d3, d4⟩ := flt0 E2.cb
    have le1 := E1.le
    have le2 := E2.le
    have i1 := idx_clneg a
    have i2 := idx_clneg b
    have i3 := idx_clneg c
    have i4 := idx_clneg d
    obtain ⟨E3, nx'⟩ := ends_neg E1 nx
    obtain ⟨E4, ny'⟩ := ends_neg E2 ny
    simp only [Bool.false_eq_true, if_false]
    cases h1 : eqI c d 0 0
    · simp only [Bool.false_eq_true, if_false]
      have hz1 : ¬ (idx c = 0 ∧ idx d = 0) := by unfold eqI at h1; rw [c4, d4] at h1; simpa using h1
      cases h2 : eqI a b 0 0
      · simp only [Bool.false_eq_true, if_false]
        have hz2 : ¬ (idx a = 0 ∧ idx b = 0) := by unfold eqI at h2; rw [a4, b4] at h2; simpa using h2
        have hz3 : ¬ (idx (cl (fneg b)) = 0 ∧ idx (cl (fneg a)) = 0) := by omega
        by_cases h3 : 0 < idx c
        · rw [if_pos (by rw [c2, d1]; simp [h3])]
          have R := ref_up E1 E2 nx ny (by omega) (by omega)
          rw [hull_none (fun h => over_none E1 h hz2), over_pos E1 E2 nx ny h3 hz2] at R
          exact R
        · by_cases h4 : idx d < 0
          · rw [if_pos (by rw [c2, d1]; simp [h4])]
            have R := ref_down E1 E2 nx ny (by omega) (by omega) rfl
            rw [hull_none (fun h => over_none E3 h hz3), over_pos E3 E4 nx' ny' (by omega) hz3] at R
            rw [lo_sym E1.ca.num E1.cb.num E2.ca.num E2.cb.num (fun h => by have := (idx_zero_iff c).2 h; omega) (fun h => by have := (idx_zero_iff d).2 h; omega), hi_sym E1.ca.num E1.cb.num E2.ca.num E2.cb.num (fun h => by have := (idx_zero_iff c).2 h; omega) (fun h => by have := (idx_zero_iff d).2 h; omega)] at R
            exact R
          · rw [if_neg (by rw [c2, d1]; simp; omega)]
            by_cases h5 : (idx c < 0 ∧ 0 < idx d) ∨ (idx a < 0 ∧ 0 < idx b)
            · rw [if_pos (by rw [c1, d2, a1, b2]; simpa using h5)]
              by_cases h6 : idx c < 0 ∧ 0 < idx d
              · obtain ⟨p1, p2, q1, q2, q3, q4, q5, q6⟩ := hull_low E1 E2 (by omega) h6.2 hz2
                obtain ⟨s1, s2, r1, r2, r3, r4, r5, r6⟩ := hull_low E3 E4 (by omega) (by omega) hz3
                have e1 : hullI 9218868437227405312 18442240474082181120 (overI a b c d).1 (overI a b c d).2 = (p1, p2) := by
                  rw [hull_none (fun h => over_none E1 h hz2), q1]
                have lp := overI_lt (c := c) (d := d) ha hb
                rw [q1] at lp
                have ls := overI_lt (c := cl (fneg d)) (d := cl (fneg c)) E3.ca.lt E3.cb.lt
                rw [r1] at ls
                have cp := can_ends lp.1 lp.2 q2
                have cs := can_ends ls.1 ls.2 r2
                exact ref_both E1 E2 nx ny h6.2 h6.1 e1 r1 (hull_whole q2 r2 q3 q4 r3 r4 (by
                  by_cases hh : idx a < 0
                  · exact Or.inl (q5 hh)
                  · exact Or.inr (r5 (by omega))) (by
                  by_cases hh : 0 < idx b
                  · exact Or.inl (q6 hh)
                  · exact Or.inr (r6 (by omega))) cp.1 cp.2 cs.1 cs.2)
              · have hx : idx a < 0 ∧ 0 < idx b := by omega
                by_cases h7 : idx c < 0
                · have R := ref_down E1 E2 nx ny (by omega) h7 ((over_low E3 E4 (by omega) (by omega) hz3).1 (by omega) (by omega))
                  rw [show hullI 9218868437227405312 18442240474082181120 18442240474082181120 9218868437227405312 = (18442240474082181120, 9218868437227405312) by decide] at R
                  exact R
                · have R := ref_up E1 E2 nx ny (by omega) (by omega)
                  rw [(over_low E1 E2 (by omega) (by omega) hz2).1 hx.1 hx.2] at R
                  rw [show hullI 9218868437227405312 18442240474082181120 18442240474082181120 9218868437227405312 = (18442240474082181120, 9218868437227405312) by decide] at R
                  exact R
            · rw [if_neg (by rw [c1, d2, a1, b2]; simpa using h5)]
              by_cases h7 : idx c < 0
              · rw [if_pos (by rw [c1]; simpa using h7)]
                have R := ref_down E1 E2 nx ny (by omega) h7 rfl
                rw [hull_none (fun h => over_none E3 h hz3), over_half E3 E4 (by omega) (by omega) hz3 (by omega)] at R
                exact R
              · rw [if_neg (by rw [c1]; simpa using h7)]
                have R := ref_up E1 E2 nx ny (by omega) (by omega)
                rw [hull_none (fun h => over_none E1 h hz2), over_half E1 E2 (by omega) (by omega) hz2 (by omega)] at R
                exact R
      · simp only [if_true]
        have hz : idx a = 0 ∧ idx b = 0 := by unfold eqI at h2; rw [a4, b4] at h2; simpa using h2
        have za := E1.ca.zero hz.1
        have zb := E1.cb.zero hz.2
        subst za zb
        have zz : cl (fneg 0) = 0 := by decide
        by_cases h3 : 0 < idx d
        · by_cases h4 : idx c < 0
          · exact ref_both E1 E2 nx ny h3 h4 (p := (0, 0)) (s := (0, 0)) (t := (0, 0)) (by rw [over_zero]; exact hull_e0) (by rw [zz]; exact over_zero _ _) hull_00
          · have R := ref_up E1 E2 nx ny h3 (by omega)
            rw [over_zero, hull_e0] at R
            exact R
        · have R := ref_down E1 E2 nx ny (by omega) (by omega) (p := (0, 0)) (by rw [zz]; exact over_zero _ _)
          rw [hull_e0] at R
          exact R
    · simp only [if_true]
      have hz : idx c = 0 ∧ idx d = 0 := by unfold eqI at h1; rw [c4, d4] at h1; simpa using h1
      exact ref_no E1 E2 nx ny (by omega) (by omega)
  · intro w
    have nx := none_ref_any a b ha hb
    have ny := none_ref_any c d hc hd
    clear ha hb hc hd
    simp only [if_true]
    have h0' : noneB a b = true ∨ (noneB a b = false ∧ noneB c d = true) := by
      cases h : noneB a b
      · rw [h] at h0; exact Or.inr ⟨rfl, by simpa using h0⟩
      · exact Or.inl rfl
    clear h0
    rcases h0' with h0 | ⟨h0, h1⟩
    · rw [h0] at nx
      go_enter Tryz.func45, Tryz.ntmps45
      go_wp2_with (first | (go_at_call 15; (with_reducible refine (nx.go _).mono ?_); rintro _ _ ⟨n, rfl, rfl⟩) | (go_at_call 17; refine (empty2_any.go _).mono ?_; rintro _ _ ⟨n, rfl, rfl⟩))
      go_returns
      exact ⟨rfl, by (repeat' first | (with_reducible first | exact Below.refl _ _ | assumption | refine Later.belowOf _ ?_ ?_ | refine Below.alloc ?_ ?_ _ | refine Below.setCell ?_ ?_ _ | refine Below.drewN' _ ?_ | refine Below.drew ?_ | exact Ge.le) | go_size)⟩
    · rw [h0] at nx
      rw [h1] at ny
      go_enter Tryz.func45, Tryz.ntmps45
      go_wp2_with (first | (go_at_call 15; first | ((with_reducible refine (nx.go _).mono ?_); rintro _ _ ⟨n, rfl, rfl⟩) | ((with_reducible refine (ny.go _).mono ?_); rintro _ _ ⟨n, rfl, rfl⟩)) | (go_at_call 17; refine (empty2_any.go _).mono ?_; rintro _ _ ⟨n, rfl, rfl⟩))
      go_returns
      exact ⟨rfl, by (repeat' first | (with_reducible first | exact Below.refl _ _ | assumption | refine Later.belowOf _ ?_ ?_ | refine Below.alloc ?_ ?_ _ | refine Below.setCell ?_ ?_ _ | refine Below.drewN' _ ?_ | refine Below.drew ?_ | exact Ge.le) | go_size)⟩
end Go.Proofs.YtkmgfbhnioojhaaGreat

/- Contracts: the reference's powers of intervals, of whatever exponent. -/
namespace Go.Proofs.YtkmgfbhnioojhaaGreat
set_option linter.unusedSimpArgs false
set_option linter.unusedVariables false
open Go.RowKit
open Fl

end Go.Proofs.YtkmgfbhnioojhaaGreat
