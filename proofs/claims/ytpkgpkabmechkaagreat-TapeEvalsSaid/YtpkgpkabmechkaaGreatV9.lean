/- Contracts: the law's value of a tape's operation; bounded ones. -/
import Derived.Test.YtpkgpkabmechkaaGreatV8
namespace Go.Proofs.YtpkgpkabmechkaaGreat
set_option linter.unusedSimpArgs false
set_option linter.unusedVariables false
open Go.RowKit
open Fl

theorem lvalue_c {o : OpT} {w : World} {vv vx : Value} {vs xs : Nat → Nat × Nat} {nv nx : Nat} (hv : IvsAt w vv vs nv) (hx : IvsAt w vx xs nx) (ho : opR o nv nx) (hlo : o.lo < 18446744073709551616) (hhi : o.hi < 18446744073709551616) :
    Calls Tryz.prog 87 #[(.agg #[.int .i64 o.K, .int .i64 o.A, .int .i64 o.B, .int .i64 o.N, .float .f64 o.lo, .float .f64 o.hi]), vv, vx] w (Val2 w (valY o (vs o.A.toNat) (vs o.B.toNat) (xs o.N.toNat)) (valB o (vs o.A.toNat) (vs o.B.toNat))) := by
  have ks := op_kinds2 ho
  obtain ⟨K, A, B, N, lo, hi⟩ := o
  simp only at ks
  unfold valY valB
  simp only
  rcases ks with h | ⟨h, h3, h4⟩ | ⟨h, h3, h4, h5, h6⟩ | ⟨h, h3, h4, _⟩ | ⟨h, h3, h4⟩
  · subst h
    exact lvalue_1 w A B N lo hi vv vx _ _ _ fun W hW => basic_1 W A B N lo hi vx 0 0 0 0
  · subst h
    obtain ⟨i, rfl⟩ := Int.eq_ofNat_of_zero_le h3
    obtain ⟨A', c, rfl, hn, hc⟩ := hx
    obtain ⟨b, q, rfl, l, c0, c1⟩ := hc i (by omega)
    exact lvalue_2 w A B i lo hi vv _ _ _ _ fun W hW => basic_2 W A B lo hi i b q c nx _ _ 0 0 0 0 (by omega) (cellBelow hW c0) (cellBelow hW c1)
  · obtain ⟨ia, rfl⟩ := Int.eq_ofNat_of_zero_le h3
    obtain ⟨ib, rfl⟩ := Int.eq_ofNat_of_zero_le h5
    obtain ⟨A', c, rfl, hn, hc⟩ := hv
    obtain ⟨b, q, rfl, la, a0, a1⟩ := hc ia (by omega)
    obtain ⟨b', q', e, lb, b0, b1⟩ := hc ib (by omega)
    cases e
    rcases h with rfl | rfl | rfl | rfl
    · exact lvalue_3 w N lo hi vx ia ib b q c nv _ _ _ _ (by omega) a0 a1 (by omega) b0 b1 _ _ _ fun W hW => basic_3 W ia ib N lo hi vx _ _ _ _ _ _ (addR la lb)
    · exact lvalue_4 w N lo hi vx ia ib b q c nv _ _ _ _ (by omega) a0 a1 (by omega) b0 b1 _ _ _ fun W hW => basic_4 W ia ib N lo hi vx _ _ _ _ _ _ (subR la lb)
    · exact lvalue_5 w N lo hi vx ia ib b q c nv _ _ _ _ (by omega) a0 a1 (by omega) b0 b1 _ _ _ fun W hW => basic_5 W ia ib N lo hi vx _ _ _ _ _ _ (mulR la lb)
    · exact lvalue_6 w N lo hi vx ia ib b q c nv _ _ _ _ (by omega) a0 a1 (by omega) b0 b1 _ _ _ fun W hW => basic_6 W ia ib N lo hi vx _ _ _ _ _ _ _ (has_ref_any _ _ 0 lb.1 lb.2) (divR la lb)
  · subst h
    obtain ⟨ia, rfl⟩ := Int.eq_ofNat_of_zero_le h3
    obtain ⟨A', c, rfl, hn, hc⟩ := hv
    obtain ⟨b, q, rfl, la, a0, a1⟩ := hc ia (by omega)
    by_cases hN : 0 ≤ N
    · simp only [if_pos hN]
      exact lvalue_8 w B N lo hi vx ia b q c nv _ _ (by omega) a0 a1 _ _ _ fun W hW => basic_8p W ia B N lo hi vx _ _ 0 0 _ _ hN (powR la N)
    · simp only [if_neg hN]
      exact lvalue_8 w B N lo hi vx ia b q c nv _ _ (by omega) a0 a1 _ _ _ fun W hW => basic_8m W ia B N lo hi vx _ _ 0 0 _ _ (by omega) _ (has_ref_any _ _ 0 la.1 la.2) (powR la N)
  · obtain ⟨ia, rfl⟩ := Int.eq_ofNat_of_zero_le h3
    obtain ⟨A', c, rfl, hn, hc⟩ := hv
    obtain ⟨b, q, rfl, la, a0, a1⟩ := hc ia (by omega)
    rcases h with rfl | rfl | rfl | rfl | rfl | rfl | rfl
    · exact lvalue_7 w B N lo hi vx ia b q c nv _ _ (by omega) a0 a1 _ _ _ fun W hW => basic_7 W ia B N lo hi vx _ _ 0 0 _ _ (negR la)
    · exact lvalue_9 w B N lo hi vx ia b q c nv _ _ (by omega) a0 a1 _ _ _ fun W hW => basic_9 W ia B N lo hi vx _ _ 0 0 _ _ (rootR la)
    · exact lvalue_10 w B N lo hi vx ia b q c nv _ _ _ _ (by omega) a0 a1 (Exp_c la)
    · exact lvalue_11 w B N lo hi vx ia b q c nv _ _ _ _ (by omega) a0 a1 (Log_c la)
    · exact lvalue_12 w B N lo hi vx ia b q c nv _ _ _ _ (by omega) a0 a1 (Sin_c la)
    · exact lvalue_13 w B N lo hi vx ia b q c nv _ _ _ _ (by omega) a0 a1 (Cos_c la)
    · exact lvalue_14 w B N lo hi vx ia b q c nv _ _ _ _ (by omega) a0 a1 (Atan_c la)

/-! ### What may be -/
theorem right_e2 : rightB 9218868437227405312 18442240474082181120 = true := by decide
theorem right_all : rightB 18442240474082181120 9218868437227405312 = true := by decide
theorem right_00 : rightB 0 0 = true := by unfold rightB; rw [plusB_eq (x := 0) (by decide)]; decide
theorem right_ends {p q : Nat} : rightB (endsI p q).1 (endsI p q).2 = true := right_make
theorem right_sum (a b c d : Nat) : rightB (sumI a b c d).1 (sumI a b c d).2 = true := by unfold sumI; split; exact right_e2; exact right_ends
theorem right_quotB {a b d : Nat} : rightB (quotB a b d).1 (quotB a b d).2 = true := by unfold quotB; split <;> exact right_ends
theorem right_quot (a b c d : Nat) : rightB (quotI a b c d).1 (quotI a b c d).2 = true := by
  unfold quotI; split
  · exact right_e2
  · split
    · exact right_e2
    · split
      · exact right_00
      · split
        · exact right_ends
        · split
          · exact right_all
          · split <;> exact right_quotB
theorem right_meetP (x y : Nat × Nat) : rightB (meetP x y).1 (meetP x y).2 = true := by unfold meetP meetI; split; exact right_e2; exact right_make
theorem right_powP (a b k : Nat) : rightB (powP a b k).1 (powP a b k).2 = true := by unfold powP; split <;> exact right_ends
theorem right_roundP (x : Nat × Nat) (on : Int) : rightB (roundP x on).1 (roundP x on).2 = true := by
  unfold roundP
  rcases fot (noneB x.1 x.2) with hn | hn
  · rw [hn, if_neg Bool.false_ne_true]
    rcases fot (flt 4652007308841189376 (magI x.1 x.2)) with hm | hm
    · rw [hm, if_neg Bool.false_ne_true]; exact right_meetP _ _
    · rw [hm, if_pos rfl]; show rightB 13830554455654793216 4607182418800017408 = true; decide
  · rw [hn, if_pos rfl]; exact right_e2
theorem right_logP (x : Nat × Nat) : rightB (logP x).1 (logP x).2 = true := by unfold logP; split; exact right_e2; exact right_rise _ _
theorem right_powsP (x : Nat × Nat) (n : Int) : rightB (powsP x n).1 (powsP x n).2 = true := by
  unfold powsP powI
  by_cases h1 : noneB x.1 x.2 = true
  · rw [if_pos h1]; exact right_e2
  · rw [if_neg h1]
    by_cases h2 : n = 0
    · rw [if_pos h2]; show rightB 4607182418800017408 4607182418800017408 = true; decide
    · rw [if_neg h2]
      by_cases h3 : 64 < n ∨ n < -64
      · rw [if_pos h3]; exact right_all
      · rw [if_neg h3]
        by_cases h4 : n < 0
        · rw [if_pos h4]; exact right_quot _ _ _ _
        · rw [if_neg h4]; exact right_powP _ _ _
theorem right_val {o : OpT} {a b x : Nat × Nat} {i : Nat} {V : Int} (ho : opR o i V) (hx : 0 ≤ o.N → o.N < V → rightB x.1 x.2 = true) : rightB (valY o a b x).1 (valY o a b x).2 = true := by
  have ho1 := ho
  unfold valY
  rcases op_kinds2 ho with h | ⟨h, h3, h4⟩ | ⟨h, h3, h4, h5, h6⟩ | ⟨h, h3, h4, _⟩ | ⟨h, h3, h4⟩
  · rw [if_pos h]
    rcases ho1 with h' | h' | h' | h' | h'
    · exact (right_of h'.2).1
    all_goals omega
  · rw [if_neg (by omega), if_pos h]; exact hx h3 h4
  · rcases h with h | h | h | h <;> simp only [h] <;> simp
    · exact right_sum _ _ _ _
    · exact right_sum _ _ _ _
    · unfold mulP prodI; split; exact right_e2; exact right_ends
    · exact right_quot _ _ _ _
  · simp only [h]; simp
    exact right_powsP _ _
  · rcases h with h | h | h | h | h | h | h <;> simp only [h] <;> simp
    · unfold negP negI; split; exact right_e2; exact right_make
    · unfold rootP sqrtI; split; exact right_e2; exact right_ends
    · exact right_rise _ _
    · exact right_logP _
    · exact right_roundP _ _
    · exact right_roundP _ _
    · exact right_rise _ _

def boundB (x : Nat × Nat) : Bool := !noneB x.1 x.2 && (!feq x.1 18442240474082181120 && !feq x.2 9218868437227405312)
theorem inf_rung {v : Nat} (h : nan v = false) : flt 9218868437227405311 (rung v) = true ↔ rung v = 9218868437227405312 := by
  have n := nan_false.1 h
  unfold INFR at n
  rw [flt_true, idx_rung, show idx 9218868437227405311 = 9218868437227405311 by decide, nan_rung]
  constructor
  · intro hh; omega
  · intro hh; exact ⟨by decide, h, by omega⟩
/-- Too wide, or bounded. -/
theorem wide_bound {x : Nat × Nat} (hx : Lt x) (hr : rightB x.1 x.2 = true) : wideB x = !boundB x := by
  unfold wideB boundB
  have hn : noneB x.1 x.2 = eqI x.1 x.2 9218868437227405312 18442240474082181120 := by unfold noneB; rw [hr]; rfl
  rw [hn]
  rcases fot (eqI x.1 x.2 9218868437227405312 18442240474082181120) with he | he
  · rw [he] at hn ⊢
    obtain ⟨n1, n2⟩ := nums_of hn
    obtain ⟨c1, c2⟩ := can_of hx hn
    obtain ⟨s1, s2⟩ := sides_of hn
    have u1 := (flt_true.1 s1).2.2
    have u2 := (flt_true.1 s2).2.2
    rw [idx_pinf] at u1
    rw [idx_ninf] at u2
    have w1 := word_of c1.lt
    have w2 := word_of c2.lt
    have e1 : flt 9218868437227405311 (rung x.1) = feq x.1 18442240474082181120 := by
      rw [Bool.eq_iff_iff, inf_rung n1, feq_true, idx_ninf]
      constructor
      · intro h
        refine ⟨n1, by decide, ?_⟩
        unfold idx at u1 ⊢
        rw [h] at u1 ⊢
        cases hs : sgn x.1
        · rw [hs] at u1; simp at u1
        · rfl
      · intro h
        have h := h.2.2
        unfold idx at h
        cases hs : sgn x.1 <;> rw [hs] at h <;> simp at h <;> omega
    have e2 : flt 9218868437227405311 (rung x.2) = feq x.2 9218868437227405312 := by
      rw [Bool.eq_iff_iff, inf_rung n2, feq_true, idx_pinf]
      constructor
      · intro h
        refine ⟨n2, by decide, ?_⟩
        unfold idx at u2 ⊢
        rw [h] at u2 ⊢
        cases hs : sgn x.2
        · rfl
        · rw [hs] at u2; simp at u2
      · intro h
        have h := h.2.2
        unfold idx at h
        cases hs : sgn x.2 <;> rw [hs] at h <;> simp at h <;> omega
    rw [e1, e2]
    cases feq x.1 18442240474082181120 <;> cases feq x.2 9218868437227405312 <;> rfl
  · rw [he]; rfl

set_option maxHeartbeats 1000000 in
theorem bounded_c {x : Nat × Nat} (hx : Lt x) : Gives 88 #[(.agg #[.float .f64 x.1, .float .f64 x.2])] (.bool (boundB x)) := by
  intro w
  have N := none_ref_any x.1 x.2 hx.1 hx.2
  unfold boundB
  obtain ⟨a, b⟩ := x
  simp only at *
  generalize noneB a b = nn at *
  clear hx
  rcases fot (feq a 18442240474082181120) with h1 | h1 <;> cases nn
  all_goals
    rw [h1]
    go_enter Tryz.func88, Tryz.ntmps88
    go_wp2_with (fail)
    refine wp_region_later (by kernel_rfl) (by kernel_rfl) ?_
    repeat (go_big_quiet_step (first | (go_at_call 68; (with_reducible exact N.later _)) | (go_at_call 132; first | (with_reducible exact inf2_pos.later _) | (with_reducible exact inf2_neg.later _))))
    (refine wpQuiet_nil ?_; rintro _ ⟨nq, rfl⟩)
    go_wp2
    go_ret
    exact ⟨ret_bool (by simp), by (repeat' (first | (with_reducible exact Below.refl _ _) | (with_reducible assumption) | (with_reducible refine Later.belowOf _ ?_ ?_) | (with_reducible refine Below.alloc ?_ ?_ _) | (with_reducible refine Below.setCell ?_ ?_ _) | (with_reducible refine Below.drewN' _ ?_) | (with_reducible refine Below.drew ?_) | (with_reducible exact Ge.le) | go_size))⟩
end Go.Proofs.YtpkgpkabmechkaaGreat
