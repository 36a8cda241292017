/- Contracts: intervals' sums. -/
import Derived.Test.YtpkgpkabmechkaaGreatW38
import Derived.Test.YtpkgpkabmechkaaGreatW32
namespace Go.Proofs.YtpkgpkabmechkaaGreat
set_option linter.unusedSimpArgs false
set_option linter.unusedVariables false
open Go.RowKit
open Fl

theorem addS_lt {a b : Nat} (dir : Int) (ha : a < 18446744073709551616) (hb : b < 18446744073709551616) : addS a b dir < 18446744073709551616 := by
  unfold addS
  repeat' split
  all_goals first | exact rnd_lt _ _ _ | decide | assumption

/-- A sum. -/
def sumI (a b c d : Nat) : Nat × Nat := if noneB a b || noneB c d then (9218868437227405312, 18442240474082181120) else endsI (addS a c (-1)) (addS b d 1)

set_option maxHeartbeats 1000000 in
theorem sumI_any (a b c d : Nat) (ha : a < 18446744073709551616) (hb : b < 18446744073709551616) (hc : c < 18446744073709551616) (hd : d < 18446744073709551616)
    (hn : noneB a b = false → noneB c d = false → nan (addS a c (-1)) = false ∧ nan (addS b d 1) = false) : Gives 80 #[(.agg #[.float .f64 a, .float .f64 b]), (.agg #[.float .f64 c, .float .f64 d])] (.agg #[.float .f64 ((sumI a b c d).1), .float .f64 ((sumI a b c d).2)]) := by
  intro w
  have A1 := add_any a c (-1) ha hc
  have A2 := add_any b d 1 hb hd
  unfold sumI
  cases h0 : noneB a b || noneB c d
  · have h0' := h0
    rw [Bool.or_eq_false_iff] at h0'
    have hn' := hn h0'.1 h0'.2
    have en := ends_any _ _ (addS_lt (-1) ha hc) (addS_lt 1 hb hd) hn'.1 hn'.2
    have A1 := A1.num hn'.1
    have A2 := A2.num hn'.2
    generalize endsI (addS a c (-1)) (addS b d 1) = r at *
    generalize addS a c (-1) = s1 at *
    generalize addS b d 1 = s2 at *
    clear ha hb hc hd hn hn' h0'
    simp only [h0, ite_true, Bool.false_eq_true, ite_false]
    go_enter Tryz.func80, Tryz.ntmps80
    go_wp2_with (go_at_call 106; refine Calls.mono (none2_any a b c d _ _ inferInstance (by simp [go_sem]) (by simp [go_sem]) (by simp [go_sem]) (by simp [go_sem])) ?_; rintro _ _ ⟨n, rfl, rfl⟩)
    go_region_held3 (fun w' => w'.cell? ⟨w.heap.size, 0, none⟩ = some (.float .f64 a) ∧ w'.cell? ⟨w.heap.size, 1, none⟩ = some (.float .f64 b) ∧ w'.cell? ⟨w.heap.size + 1, 0, none⟩ = some (.float .f64 c) ∧ w'.cell? ⟨w.heap.size + 1, 1, none⟩ = some (.float .f64 d))
      (first | (go_simp; done) | go_keep)
      ((first | (go_at_call 160; first | ((with_reducible refine (A1.go _).mono ?_); rintro _ _ ⟨n, rfl, rfl⟩) | ((with_reducible refine (A2.go _).mono ?_); rintro _ _ ⟨n, rfl, rfl⟩)) | (go_at_call 148; (with_reducible refine (en.go _).mono ?_); rintro _ _ ⟨n, rfl, rfl⟩)))
    all_goals
      rename_i hHeld
      clear hHeld
      go_wp2
      go_returns
      exact ⟨rfl, by (repeat' (first | (with_reducible exact Below.refl _ _) | (with_reducible assumption) | (with_reducible refine Later.belowOf _ ?_ ?_) | (with_reducible refine Below.alloc ?_ ?_ _) | (with_reducible refine Below.setCell ?_ ?_ _) | (with_reducible refine Below.drewN' _ ?_) | (with_reducible refine Below.drew ?_) | (with_reducible exact Ge.le) | go_size))⟩
  · clear ha hb hc hd A1 A2 hn
    simp only [h0, ite_true, Bool.false_eq_true, ite_false]
    go_enter Tryz.func80, Tryz.ntmps80
    go_wp2_with (first | (go_at_call 106; refine Calls.mono (none2_any a b c d _ _ inferInstance (by simp [go_sem]) (by simp [go_sem]) (by simp [go_sem]) (by simp [go_sem])) ?_; rintro _ _ ⟨n, rfl, rfl⟩) | (go_at_call 135; refine (empty_any.go _).mono ?_; rintro _ _ ⟨n, rfl, rfl⟩))
    go_returns
    exact ⟨rfl, by (repeat' (first | (with_reducible exact Below.refl _ _) | (with_reducible assumption) | (with_reducible refine Later.belowOf _ ?_ ?_) | (with_reducible refine Below.alloc ?_ ?_ _) | (with_reducible refine Below.setCell ?_ ?_ _) | (with_reducible refine Below.drewN' _ ?_) | (with_reducible refine Below.drew ?_) | (with_reducible exact Ge.le) | go_size))⟩

theorem nan_rnd (S : Int) (D : Nat) (dir : Int) : nan (rnd S D dir) = false := by
  have h := rungOf_le S.natAbs D (if S < 0 then -dir else dir)
  unfold INFR at h
  unfold rnd
  refine (nan_bits ?_ ?_).1 <;> split <;> omega
theorem inf_sgn {a : Nat} (na : nan a = false) (hf : finB a = false) : rung a = 9218868437227405312 := by
  have h1 := nan_false.1 na
  have h2 := finB_false.1 hf
  unfold INFR at *
  omega
theorem addS_num {a b : Nat} (dir : Int) (na : nan a = false) (nb : nan b = false) (h : finB a = false → finB b = false → sgn a = sgn b) : nan (addS a b dir) = false := by
  unfold addS
  cases fa : finB a <;> cases fb : finB b <;> simp only [Bool.and_true, Bool.and_false, Bool.and_self, if_true, if_false, Bool.false_eq_true, na, nb, Bool.or_self]
  all_goals first | exact nan_rnd _ _ _ | exact na | exact nb | (rw [if_pos (h fa fb)]; exact na)
theorem sgn_low {a : Nat} (h : flt a 9218868437227405312 = true) (hf : finB a = false) (na : nan a = false) : sgn a = true := by
  have e := inf_sgn na hf
  unfold flt at h
  simp only [Bool.and_eq_true, decide_eq_true_eq] at h
  have h := h.2
  rw [idx_pinf] at h
  unfold idx at h
  cases hs : sgn a
  · rw [hs, e] at h; simp at h
  · rfl
theorem sgn_high {a : Nat} (h : flt 18442240474082181120 a = true) (hf : finB a = false) (na : nan a = false) : sgn a = false := by
  have e := inf_sgn na hf
  unfold flt at h
  simp only [Bool.and_eq_true, decide_eq_true_eq] at h
  have h := h.2
  rw [idx_ninf] at h
  unfold idx at h
  cases hs : sgn a
  · rfl
  · rw [hs, e] at h; simp at h

theorem add_ival_any (a b c d : Nat) (ha : a < 18446744073709551616) (hb : b < 18446744073709551616) (hc : c < 18446744073709551616) (hd : d < 18446744073709551616) : Gives 80 #[(.agg #[.float .f64 a, .float .f64 b]), (.agg #[.float .f64 c, .float .f64 d])] (.agg #[.float .f64 ((sumI a b c d).1), .float .f64 ((sumI a b c d).2)]) := by
  refine sumI_any a b c d ha hb hc hd fun h1 h2 => ?_
  obtain ⟨n1, n2⟩ := nums_of h1
  obtain ⟨n3, n4⟩ := nums_of h2
  obtain ⟨s1, s2⟩ := sides_of h1
  obtain ⟨s3, s4⟩ := sides_of h2
  exact ⟨addS_num _ n1 n3 fun f1 f2 => by rw [sgn_low s1 f1 n1, sgn_low s3 f2 n3], addS_num _ n2 n4 fun f1 f2 => by rw [sgn_high s2 f1 n2, sgn_high s4 f2 n4]⟩

theorem makeI_lt {a b : Nat} (ha : a < 18446744073709551616) (hb : b < 18446744073709551616) : (makeI a b).1 < 18446744073709551616 ∧ (makeI a b).2 < 18446744073709551616 := by
  unfold makeI; split
  · exact ⟨cl_lt ha, cl_lt hb⟩
  · exact ⟨by decide, by decide⟩
theorem negI_lt {a b : Nat} (ha : a < 18446744073709551616) (hb : b < 18446744073709551616) : (negI a b).1 < 18446744073709551616 ∧ (negI a b).2 < 18446744073709551616 := by
  unfold negI; split
  · exact ⟨by decide, by decide⟩
  · exact makeI_lt (fneg_lt b) (fneg_lt a)

/-- A difference. -/
def diffI (a b c d : Nat) : Nat × Nat := sumI a b (negI c d).1 (negI c d).2

set_option maxHeartbeats 1000000 in
theorem sub_ival_any (a b c d : Nat) (ha : a < 18446744073709551616) (hb : b < 18446744073709551616) (hc : c < 18446744073709551616) (hd : d < 18446744073709551616) : Gives 75 #[(.agg #[.float .f64 a, .float .f64 b]), (.agg #[.float .f64 c, .float .f64 d])] (.agg #[.float .f64 ((diffI a b c d).1), .float .f64 ((diffI a b c d).2)]) := by
  intro w
  have N := neg_any c d hc hd
  have A := add_ival_any a b _ _ ha hb (negI_lt hc hd).1 (negI_lt hc hd).2
  unfold diffI
  generalize sumI a b (negI c d).1 (negI c d).2 = r at *
  generalize negI c d = q at *
  clear ha hb hc hd
  go_enter Tryz.func75, Tryz.ntmps75
  go_wp2_with (fail)
  go_region_held3 (fun w' => w'.cell? ⟨w.heap.size, 0, none⟩ = some (.float .f64 a) ∧ w'.cell? ⟨w.heap.size, 1, none⟩ = some (.float .f64 b) ∧ w'.cell? ⟨w.heap.size + 1, 0, none⟩ = some (.float .f64 c) ∧ w'.cell? ⟨w.heap.size + 1, 1, none⟩ = some (.float .f64 d))
    (first | (go_simp; done) | go_keep)
    ((first | (go_at_call 76; (with_reducible refine (N.go _).mono ?_); rintro _ _ ⟨n, rfl, rfl⟩) | (go_at_call 80; (with_reducible refine (A.go _).mono ?_); rintro _ _ ⟨n, rfl, rfl⟩)))
  all_goals
    rename_i hHeld
    clear hHeld
    go_wp2
    go_returns
    exact ⟨rfl, by (repeat' (first | (with_reducible exact Below.refl _ _) | (with_reducible assumption) | (with_reducible refine Later.belowOf _ ?_ ?_) | (with_reducible refine Below.alloc ?_ ?_ _) | (with_reducible refine Below.setCell ?_ ?_ _) | (with_reducible refine Below.drewN' _ ?_) | (with_reducible refine Below.drew ?_) | (with_reducible exact Ge.le) | go_size))⟩

set_option maxHeartbeats 1000000 in
theorem ends_ref_any (lo hi : Nat) (hl : lo < 18446744073709551616) (hh : hi < 18446744073709551616) : Gives 79 #[(.float .f64 lo), (.float .f64 hi)] (.agg #[.float .f64 ((endsI lo hi).1), .float .f64 ((endsI lo hi).2)]) := by
  intro w
  have mk := make2_any (minF lo 9218868437227405311) (maxF hi 18442240474082181119) (minF_lt hl (by decide)) (maxF_lt hh (by decide))
  unfold endsI
  generalize makeI (minF lo 9218868437227405311) (maxF hi 18442240474082181119) = r at *
  clear hl hh
  unfold minF maxF at mk
  rcases fot (flt 9218868437227405311 lo) with h0 | h0 <;> rcases fot (flt hi 18442240474082181119) with h1 | h1
  all_goals
    simp only [h0, h1, ite_true, Bool.false_eq_true, ite_false] at mk
    go_enter Tryz.func79, Tryz.ntmps79
    go_wp2_with (go_at_call 18; refine (mk.go _).mono ?_; rintro _ _ ⟨n, rfl, rfl⟩)
    go_returns
    exact ⟨rfl, by (repeat' (first | (with_reducible exact Below.refl _ _) | (with_reducible assumption) | (with_reducible refine Later.belowOf _ ?_ ?_) | (with_reducible refine Below.alloc ?_ ?_ _) | (with_reducible refine Below.setCell ?_ ?_ _) | (with_reducible refine Below.drewN' _ ?_) | (with_reducible refine Below.drew ?_) | (with_reducible exact Ge.le) | go_size))⟩

set_option maxHeartbeats 1000000 in
theorem add_ref_any (a b c d : Nat) (ha : a < 18446744073709551616) (hb : b < 18446744073709551616) (hc : c < 18446744073709551616) (hd : d < 18446744073709551616) : Gives 30 #[(.agg #[.float .f64 a, .float .f64 b]), (.agg #[.float .f64 c, .float .f64 d])] (.agg #[.float .f64 ((sumI a b c d).1), .float .f64 ((sumI a b c d).2)]) := by
  intro w
  have A1 := add1_any a c (-1) ha hc
  have A2 := add1_any b d 1 hb hd
  have nx := none_ref_any a b ha hb
  have ny := none_ref_any c d hc hd
  have en := ends_ref_any _ _ (addS_lt (-1) ha hc) (addS_lt 1 hb hd)
  unfold sumI
  generalize endsI (addS a c (-1)) (addS b d 1) = r at *
  generalize addS a c (-1) = s1 at *
  generalize addS b d 1 = s2 at *
  clear ha hb hc hd
  rcases fot (noneB a b) with h0 | h0 <;> rcases fot (noneB c d) with h1 | h1
  all_goals
    rw [h0] at nx
    rw [h1] at ny
    simp only [h0, h1, Bool.or_false, Bool.or_true, Bool.or_self, ite_true, Bool.false_eq_true, ite_false]
    go_enter Tryz.func30, Tryz.ntmps30
    go_wp2_with (first | (go_at_call 68; first | ((with_reducible refine (nx.go _).mono ?_); rintro _ _ ⟨n, rfl, rfl⟩) | ((with_reducible refine (ny.go _).mono ?_); rintro _ _ ⟨n, rfl, rfl⟩)) | (go_at_call 65; refine (empty2_any.go _).mono ?_; rintro _ _ ⟨n, rfl, rfl⟩))
    first
      | (go_returns; exact ⟨rfl, by (repeat' (first | (with_reducible exact Below.refl _ _) | (with_reducible assumption) | (with_reducible refine Later.belowOf _ ?_ ?_) | (with_reducible refine Below.alloc ?_ ?_ _) | (with_reducible refine Below.setCell ?_ ?_ _) | (with_reducible refine Below.drewN' _ ?_) | (with_reducible refine Below.drew ?_) | (with_reducible exact Ge.le) | go_size))⟩)
      | (go_region_held3 (fun w' => w'.cell? ⟨w.heap.size, 0, none⟩ = some (.float .f64 a) ∧ w'.cell? ⟨w.heap.size, 1, none⟩ = some (.float .f64 b) ∧ w'.cell? ⟨w.heap.size + 1, 0, none⟩ = some (.float .f64 c) ∧ w'.cell? ⟨w.heap.size + 1, 1, none⟩ = some (.float .f64 d))
          (first | (go_simp; done) | go_keep)
          ((first | (go_at_call 81; first | ((with_reducible refine (A1.go _).mono ?_); rintro _ _ ⟨n, rfl, rfl⟩) | ((with_reducible refine (A2.go _).mono ?_); rintro _ _ ⟨n, rfl, rfl⟩)) | (go_at_call 79; (with_reducible refine (en.go _).mono ?_); rintro _ _ ⟨n, rfl, rfl⟩)))
         all_goals
           rename_i hHeld
           clear hHeld
           go_wp2
           go_returns
           exact ⟨rfl, by (repeat' (first | (with_reducible exact Below.refl _ _) | (with_reducible assumption) | (with_reducible refine Later.belowOf _ ?_ ?_) | (with_reducible refine Below.alloc ?_ ?_ _) | (with_reducible refine Below.setCell ?_ ?_ _) | (with_reducible refine Below.drewN' _ ?_) | (with_reducible refine Below.drew ?_) | (with_reducible exact Ge.le) | go_size))⟩)

set_option maxHeartbeats 1000000 in
theorem sub_ref_any (a b c d : Nat) (ha : a < 18446744073709551616) (hb : b < 18446744073709551616) (hc : c < 18446744073709551616) (hd : d < 18446744073709551616) : Gives 28 #[(.agg #[.float .f64 a, .float .f64 b]), (.agg #[.float .f64 c, .float .f64 d])] (.agg #[.float .f64 ((diffI a b c d).1), .float .f64 ((diffI a b c d).2)]) := by
  intro w
  have N := neg_ref_any c d hc hd
  have A := add_ref_any a b _ _ ha hb (negI_lt hc hd).1 (negI_lt hc hd).2
  unfold diffI
  generalize sumI a b (negI c d).1 (negI c d).2 = r at *
  generalize negI c d = q at *
  clear ha hb hc hd
  go_enter Tryz.func28, Tryz.ntmps28
  go_wp2_with (fail)
  go_region_held3 (fun w' => w'.cell? ⟨w.heap.size, 0, none⟩ = some (.float .f64 a) ∧ w'.cell? ⟨w.heap.size, 1, none⟩ = some (.float .f64 b) ∧ w'.cell? ⟨w.heap.size + 1, 0, none⟩ = some (.float .f64 c) ∧ w'.cell? ⟨w.heap.size + 1, 1, none⟩ = some (.float .f64 d))
    (first | (go_simp; done) | go_keep)
    ((first | (go_at_call 20; (with_reducible refine (N.go _).mono ?_); rintro _ _ ⟨n, rfl, rfl⟩) | (go_at_call 30; (with_reducible refine (A.go _).mono ?_); rintro _ _ ⟨n, rfl, rfl⟩)))
  all_goals
    rename_i hHeld
    clear hHeld
    go_wp2
    go_returns
    exact ⟨rfl, by (repeat' (first | (with_reducible exact Below.refl _ _) | (with_reducible assumption) | (with_reducible refine Later.belowOf _ ?_ ?_) | (with_reducible refine Below.alloc ?_ ?_ _) | (with_reducible refine Below.setCell ?_ ?_ _) | (with_reducible refine Below.drewN' _ ?_) | (with_reducible refine Below.drew ?_) | (with_reducible exact Ge.le) | go_size))⟩
end Go.Proofs.YtpkgpkabmechkaaGreat
