/- Contracts: the reference's quotients. -/
import Derived.Test.YtkmgfbhnioojhaaGreatPmW44
namespace Go.Proofs.YtkmgfbhnioojhaaGreat
set_option linter.unusedSimpArgs false
set_option linter.unusedVariables false
open Go.RowKit
open Fl

set_option maxHeartbeats 1000000 in
theorem least_any (p q : Nat) (hp : p < 18446744073709551616) (hq : q < 18446744073709551616) : Gives 194 #[(.float .f64 p), (.float .f64 q)] (.float .f64 (leastF p q)) := by
  intro w
  have D := div1_any p q (-1) hp hq
  unfold leastF
  generalize divS p q (-1) = r at *
  clear hp hq
  rcases fot (feq q 0) with h0 | h0 <;> rcases fot (feq p 18442240474082181120) with h1 | h1
  all_goals
    simp only [h0, h1, Bool.or_false, Bool.or_true, Bool.or_self, ite_true, Bool.false_eq_true, ite_false]
    go_enter Tryz.func194, Tryz.ntmps194
    go_wp2_with (first | (go_at_call 86; refine (inf2_neg.go _).mono ?_; rintro _ _ ⟨n, rfl, rfl⟩) | (go_at_call 260; refine (D.go _).mono ?_; rintro _ _ ⟨n, rfl, rfl⟩))
    go_ret
    exact ⟨rfl, by (repeat' first | (with_reducible first | exact Below.refl _ _ | assumption | refine Later.belowOf _ ?_ ?_ | refine Below.alloc ?_ ?_ _ | refine Below.setCell ?_ ?_ _ | refine Below.drewN' _ ?_ | refine Below.drew ?_ | exact Ge.le) | go_size)⟩

set_option maxHeartbeats 1000000 in
theorem great_any (p q : Nat) (dir : Int) (hp : p < 18446744073709551616) (hq : q < 18446744073709551616) : Gives 195 #[(.float .f64 p), (.float .f64 q), .int .i64 dir] (.float .f64 (greatF p q dir)) := by
  intro w
  have D := div1_any p q dir hp hq
  unfold greatF
  generalize divS p q dir = r at *
  clear hp hq
  rcases fot (feq q 9218868437227405312) with h0 | h0
  all_goals
    simp only [h0, ite_true, Bool.false_eq_true, ite_false]
    go_enter Tryz.func195, Tryz.ntmps195
    go_wp2_with (first | (go_at_call 86; refine (inf2_pos.go _).mono ?_; rintro _ _ ⟨n, rfl, rfl⟩) | (go_at_call 260; refine (D.go _).mono ?_; rintro _ _ ⟨n, rfl, rfl⟩))
    go_ret
    exact ⟨rfl, by (repeat' first | (with_reducible first | exact Below.refl _ _ | assumption | refine Later.belowOf _ ?_ ?_ | refine Below.alloc ?_ ?_ _ | refine Below.setCell ?_ ?_ _ | refine Below.drewN' _ ?_ | refine Below.drew ?_ | exact Ge.le) | go_size)⟩

/-- What is over the part of a divisor above nought. -/
def overI (a b c d : Nat) : Nat × Nat := if feq a 0 && feq b 0 then (a, b) else endsI (overLo a c d) (overHi b c d)

theorem leastF_lt (p q : Nat) : leastF p q < 18446744073709551616 := by
  unfold leastF
  split
  · decide
  · unfold divS
    repeat' split
    all_goals first | exact rnd_lt _ _ _ | decide | exact infW_lt _
theorem greatF_lt (p q : Nat) (dir : Int) : greatF p q dir < 18446744073709551616 := by
  unfold greatF
  split
  · decide
  · unfold divS
    repeat' split
    all_goals first | exact rnd_lt _ _ _ | decide | exact infW_lt _
theorem lowF_lt {c : Nat} (hc : c < 18446744073709551616) : lowF c < 18446744073709551616 := by unfold lowF; split; decide; exact hc
theorem overLo_lt (a c d : Nat) : overLo a c d < 18446744073709551616 := by unfold overLo; split; exact leastF_lt _ _; exact greatF_lt _ _ _
theorem overHi_lt (b c d : Nat) : overHi b c d < 18446744073709551616 := by unfold overHi; split <;> exact cl_lt (fneg_lt _)

set_option maxHeartbeats 4000000 in
theorem over_any (a b c d : Nat) (ha : a < 18446744073709551616) (hb : b < 18446744073709551616) (hc : c < 18446744073709551616) (hd : d < 18446744073709551616) (nb : nan b = false)
    (nl : flt 0 b = true → nan (leastF (cl (fneg b)) (lowF c)) = false) (ng : flt 0 b = false → nan (greatF (cl (fneg b)) d (-1)) = false) :
    Gives 115 #[(.agg #[.float .f64 a, .float .f64 b]), (.agg #[.float .f64 c, .float .f64 d])] (.agg #[.float .f64 ((overI a b c d).1), .float .f64 ((overI a b c d).2)]) := by
  intro w
  have L1 := least_any a (lowF c) ha (lowF_lt hc)
  have L2 := least_any (cl (fneg b)) (lowF c) (cl_lt (fneg_lt b)) (lowF_lt hc)
  have G1 := great_any a d (-1) ha hd
  have G2 := great_any (cl (fneg b)) d (-1) (cl_lt (fneg_lt b)) hd
  have en := ends_ref_any _ _ (overLo_lt a c d) (overHi_lt b c d)
  have z1 := fun w => (fop_zero_sub w nb).1
  have z2 := (fop_zero_sub w nb).2
  have z3 := fun h w => (fop_zero_sub w (nl h)).1
  have z4 := fun h => (fop_zero_sub w (nl h)).2
  have z5 := fun h w => (fop_zero_sub w (ng h)).1
  have z6 := fun h => (fop_zero_sub w (ng h)).2
  have em : overI a b c d = if feq a 0 && feq b 0 then (a, b) else endsI (overLo a c d) (overHi b c d) := rfl
  rw [em]
  clear em ha hb hc hd nb nl ng
  have el : lowF c = if flt c 0 then 0 else c := rfl
  have e1 : overLo a c d = if flt a 0 then leastF a (lowF c) else greatF a d (-1) := rfl
  have e2 : overHi b c d = if flt 0 b then cl (fneg (leastF (cl (fneg b)) (lowF c))) else cl (fneg (greatF (cl (fneg b)) d (-1))) := rfl
  rcases fot (feq a 0 && feq b 0) with h0 | h0
  · have h0' : feq a 0 = false ∨ (feq a 0 = true ∧ feq b 0 = false) := by cases h : feq a 0; exact Or.inl rfl; rw [h] at h0; exact Or.inr ⟨rfl, by simpa using h0⟩
    rcases fot (flt c 0) with h1 | h1 <;> rcases fot (flt a 0) with h2 | h2 <;> rcases fot (flt 0 b) with h3 | h3
    all_goals
      first
        | (have z3 := z3 h3; have z4 := z4 h3; clear z5 z6)
        | (have z5 := z5 h3; have z6 := z6 h3; clear z3 z4)
      rw [h1] at el
      rw [h2] at e1
      rw [h3] at e2
      simp only [ite_true, Bool.false_eq_true, ite_false] at el e1 e2
      rw [el] at L1 L2
      try rw [el] at e1
      try rw [el] at e2
      try rw [el] at z3
      try rw [el] at z4
      rw [e1, e2] at en
      rw [e1, e2]
      simp only [h0, Bool.false_eq_true, ite_false]
      generalize endsI _ _ = r at *
      generalize leastF a _ = s1 at *
      generalize greatF a d (-1) = s2 at *
      generalize leastF (cl (fneg b)) _ = s3 at *
      generalize greatF (cl (fneg b)) d (-1) = s4 at *
      clear el e1 e2 h0
      rcases h0' with h0 | ⟨h0, h4⟩
      all_goals
        go_enter Tryz.func115, Tryz.ntmps115
        go_wp2_with (first | (go_at_call 194; first | ((with_reducible refine (L1.go _).mono ?_); rintro _ _ ⟨n, rfl, rfl⟩) | ((with_reducible refine (L2.go _).mono ?_); rintro _ _ ⟨n, rfl, rfl⟩)) | (go_at_call 195; first | ((with_reducible refine (G1.go _).mono ?_); rintro _ _ ⟨n, rfl, rfl⟩) | ((with_reducible refine (G2.go _).mono ?_); rintro _ _ ⟨n, rfl, rfl⟩)) | (go_at_call 120; (with_reducible refine (en.go _).mono ?_); rintro _ _ ⟨n, rfl, rfl⟩))
        go_returns
        exact ⟨rfl, by (repeat' first | (with_reducible first | exact Below.refl _ _ | assumption | refine Later.belowOf _ ?_ ?_ | refine Below.alloc ?_ ?_ _ | refine Below.setCell ?_ ?_ _ | refine Below.drewN' _ ?_ | refine Below.drew ?_ | exact Ge.le) | go_size)⟩
  · have h0' : feq a 0 = true ∧ feq b 0 = true := by simpa using h0
    obtain ⟨h1, h2⟩ := h0'
    simp only [h0, ite_true]
    clear el e1 e2 h0 z3 z4 z5 z6 en L1 L2 G1 G2 z1 z2
    go_enter Tryz.func115, Tryz.ntmps115
    go_wp2
    go_returns
    exact ⟨rfl, by (repeat' first | (with_reducible first | exact Below.refl _ _ | assumption | refine Later.belowOf _ ?_ ?_ | refine Below.alloc ?_ ?_ _ | refine Below.setCell ?_ ?_ _ | refine Below.drewN' _ ?_ | refine Below.drew ?_ | exact Ge.le) | go_size)⟩
end Go.Proofs.YtkmgfbhnioojhaaGreat

/- Contracts: the reference's quotients, walked. -/
namespace Go.Proofs.YtkmgfbhnioojhaaGreat
set_option linter.unusedSimpArgs false
set_option linter.unusedVariables false
open Go.RowKit
open Fl

theorem two_cells0 {V X : World} {l q : Nat} (l' q' : Nat) (h : Below (V.alloc (Obj.cells #[(.float .f64 l), (.float .f64 q)] 24)).heap.size (V.alloc (Obj.cells #[(.float .f64 l), (.float .f64 q)] 24)) X) :
    ∃ k : Later (V.alloc (Obj.cells #[(.float .f64 l'), (.float .f64 q')] 24)), (X.setCell ⟨V.heap.size, 0, none⟩ (.float .f64 l')).setCell ⟨V.heap.size, 1, none⟩ (.float .f64 q') = k.val := by
  have hs : (V.alloc (Obj.cells #[(.float .f64 l'), (.float .f64 q')] 24)).heap.size = (V.alloc (Obj.cells #[(.float .f64 l), (.float .f64 q)] 24)).heap.size := by simp
  refine ⟨⟨(X.setCell ⟨V.heap.size, 0, none⟩ (.float .f64 l')).setCell ⟨V.heap.size, 1, none⟩ (.float .f64 q'), ⟨h.os, h.tape, h.output, ?_, ?_⟩⟩, rfl⟩
  · have := h.size
    rw [hs]; simpa using this
  · intro k hk
    have hb := h.block k (by rw [← hs]; exact hk)
    unfold World.setCell
    simp only [Array.getElem?_modify]
    by_cases e : V.heap.size = k
    · subst e
      have e1 : (V.alloc (Obj.cells #[(.float .f64 l), (.float .f64 q)] 24)).heap[V.heap.size]? = some (Obj.cells #[(.float .f64 l), (.float .f64 q)] 24) := by
        unfold World.alloc
        simp
      have e2 : (V.alloc (Obj.cells #[(.float .f64 l'), (.float .f64 q')] 24)).heap[V.heap.size]? = some (Obj.cells #[(.float .f64 l'), (.float .f64 q')] 24) := by
        unfold World.alloc
        simp
      rw [hb, e1, e2]
      simp
    · simp only [e, if_false]
      rw [hb]
      unfold World.alloc
      simp only [Array.getElem?_push]
      split
      · omega
      · rfl

set_option maxHeartbeats 8000000 in
theorem divref_no (a b c d : Nat) (nx : Gives 15 #[(.agg #[.float .f64 a, .float .f64 b])] (.bool false)) (ny : Gives 15 #[(.agg #[.float .f64 c, .float .f64 d])] (.bool false)) (h1 : flt 0 d = false) (h2 : flt c 0 = false) :
    Gives 45 #[(.agg #[.float .f64 a, .float .f64 b]), (.agg #[.float .f64 c, .float .f64 d])] (.agg #[.float .f64 9218868437227405312, .float .f64 18442240474082181120]) := by
  intro w
  go_enter Tryz.func45, Tryz.ntmps45
  go_wp2_with (first | (go_at_call 15; first | ((with_reducible refine (nx.go _).mono ?_); rintro _ _ ⟨n, rfl, rfl⟩) | ((with_reducible refine (ny.go _).mono ?_); rintro _ _ ⟨n, rfl, rfl⟩)) | (go_at_call 17; refine (empty2_any.go _).mono ?_; rintro _ _ ⟨n, rfl, rfl⟩))
  go_returns
  exact ⟨rfl, by (repeat' first | (with_reducible first | exact Below.refl _ _ | assumption | refine Later.belowOf _ ?_ ?_ | refine Below.alloc ?_ ?_ _ | refine Below.setCell ?_ ?_ _ | refine Below.drewN' _ ?_ | refine Below.drew ?_ | exact Ge.le) | go_size)⟩

set_option maxHeartbeats 8000000 in
theorem divref_up (a b c d p1 p2 o1 o2 : Nat) (nx : Gives 15 #[(.agg #[.float .f64 a, .float .f64 b])] (.bool false)) (ny : Gives 15 #[(.agg #[.float .f64 c, .float .f64 d])] (.bool false)) (h1 : flt 0 d = true) (h2 : flt c 0 = false)
    (V1 : Gives 115 #[(.agg #[.float .f64 a, .float .f64 b]), (.agg #[.float .f64 c, .float .f64 d])] (.agg #[.float .f64 p1, .float .f64 p2])) (U1 : Gives 114 #[(.agg #[.float .f64 9218868437227405312, .float .f64 18442240474082181120]), (.agg #[.float .f64 p1, .float .f64 p2])] (.agg #[.float .f64 o1, .float .f64 o2])) :
    Gives 45 #[(.agg #[.float .f64 a, .float .f64 b]), (.agg #[.float .f64 c, .float .f64 d])] (.agg #[.float .f64 o1, .float .f64 o2]) := by
  intro w
  go_enter Tryz.func45, Tryz.ntmps45
  go_wp2_with (go_at_call 15; first | ((with_reducible refine (nx.go _).mono ?_); rintro _ _ ⟨n, rfl, rfl⟩) | ((with_reducible refine (ny.go _).mono ?_); rintro _ _ ⟨n, rfl, rfl⟩))
  go_at_call 17
  refine (empty2_any.go _).mono ?_
  rintro _ _ ⟨nE, rfl, rfl⟩
  go_wp2_with (fail)
  go_region_with (first | (go_at_call 115; (with_reducible refine (V1.go _).mono ?_); rintro _ _ ⟨n, rfl, rfl⟩) | (go_at_call 114; (with_reducible refine (U1.go _).mono ?_); rintro _ _ ⟨n, rfl, rfl⟩))
  all_goals
    go_wp2
    go_returns
    exact ⟨rfl, by (repeat' first | (with_reducible first | exact Below.refl _ _ | assumption | refine Later.belowOf _ ?_ ?_ | refine Below.alloc ?_ ?_ _ | refine Below.setCell ?_ ?_ _ | refine Below.drewN' _ ?_ | refine Below.drew ?_ | exact Ge.le) | go_size)⟩

end Go.Proofs.YtkmgfbhnioojhaaGreat

/- Contracts: the reference's quotients by what is below nought, walked. -/
namespace Go.Proofs.YtkmgfbhnioojhaaGreat
set_option linter.unusedSimpArgs false
set_option linter.unusedVariables false
open Go.RowKit
open Fl

set_option maxHeartbeats 8000000 in
theorem divref_down (a b c d a' b' c' d' p1 p2 o1 o2 : Nat) (nx : Gives 15 #[(.agg #[.float .f64 a, .float .f64 b])] (.bool false)) (ny : Gives 15 #[(.agg #[.float .f64 c, .float .f64 d])] (.bool false)) (h1 : flt 0 d = false) (h2 : flt c 0 = true)
    (N1 : Gives 43 #[(.agg #[.float .f64 a, .float .f64 b])] (.agg #[.float .f64 a', .float .f64 b'])) (N2 : Gives 43 #[(.agg #[.float .f64 c, .float .f64 d])] (.agg #[.float .f64 c', .float .f64 d']))
    (V1 : Gives 115 #[(.agg #[.float .f64 a', .float .f64 b']), (.agg #[.float .f64 c', .float .f64 d'])] (.agg #[.float .f64 p1, .float .f64 p2])) (U1 : Gives 114 #[(.agg #[.float .f64 9218868437227405312, .float .f64 18442240474082181120]), (.agg #[.float .f64 p1, .float .f64 p2])] (.agg #[.float .f64 o1, .float .f64 o2])) :
    Gives 45 #[(.agg #[.float .f64 a, .float .f64 b]), (.agg #[.float .f64 c, .float .f64 d])] (.agg #[.float .f64 o1, .float .f64 o2]) := by
  intro w
  go_enter Tryz.func45, Tryz.ntmps45
  go_wp2_with (go_at_call 15; first | ((with_reducible refine (nx.go _).mono ?_); rintro _ _ ⟨n, rfl, rfl⟩) | ((with_reducible refine (ny.go _).mono ?_); rintro _ _ ⟨n, rfl, rfl⟩))
  go_at_call 17
  refine (empty2_any.go _).mono ?_
  rintro _ _ ⟨nE, rfl, rfl⟩
  go_wp2_with (fail)
  go_region_with (first | (go_at_call 43; first | ((with_reducible refine (N1.go _).mono ?_); rintro _ _ ⟨n, rfl, rfl⟩) | ((with_reducible refine (N2.go _).mono ?_); rintro _ _ ⟨n, rfl, rfl⟩)) | (go_at_call 115; (with_reducible refine (V1.go _).mono ?_); rintro _ _ ⟨n, rfl, rfl⟩) | (go_at_call 114; (with_reducible refine (U1.go _).mono ?_); rintro _ _ ⟨n, rfl, rfl⟩))
  all_goals
    go_wp2
    go_returns
    exact ⟨rfl, by (repeat' first | (with_reducible first | exact Below.refl _ _ | assumption | refine Later.belowOf _ ?_ ?_ | refine Below.alloc ?_ ?_ _ | refine Below.setCell ?_ ?_ _ | refine Below.drewN' _ ?_ | refine Below.drew ?_ | exact Ge.le) | go_size)⟩

end Go.Proofs.YtkmgfbhnioojhaaGreat
