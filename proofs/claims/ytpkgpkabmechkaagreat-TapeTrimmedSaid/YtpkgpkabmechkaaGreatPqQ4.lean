/- A trimmed tape has the same values and slopes (plain). -/
import Derived.Test.YtpkgpkabmechkaaGreatPqM8x
import Derived.Test.YtpkgpkabmechkaaGreatPqG3x
namespace Go.Proofs.YtpkgpkabmechkaaGreat
set_option linter.unusedSimpArgs false
set_option linter.unusedVariables false
open Go.RowKit
open Fl

theorem subT_K (o : OpT) (ix : Nat → Int) : (subT o ix).K = o.K := rfl
theorem subT_N (o : OpT) (ix : Nat → Int) (h : o.K = 2 ∨ o.K = 8) : (subT o ix).N = o.N := if_pos h
theorem subT_lo (o : OpT) (ix : Nat → Int) (h : o.K = 1) : (subT o ix).lo = o.lo ∧ (subT o ix).hi = o.hi := ⟨if_pos h, if_pos h⟩
theorem valY_sub {o : OpT} {ix : Nat → Int} {i : Nat} {V : Int} {a b a' b' x x' : Nat × Nat} (h : opR o i V) (ha : 0 < needI o.K → a' = a) (hb : 1 < needI o.K → b' = b) (hx : o.K = 2 → x' = x) : valY (subT o ix) a' b' x' = valY o a b x := by
  rcases op_kinds2 h with k | ⟨k, _⟩ | ⟨k, _⟩ | ⟨k, _⟩ | ⟨k, _⟩
  · unfold valY; rw [subT_K, if_pos k, if_pos k, (subT_lo o ix k).1, (subT_lo o ix k).2]
  · unfold valY; rw [subT_K, if_neg (by omega), if_pos k, if_neg (by omega), if_pos k]; exact hx k
  · have e : needI o.K = 2 := by rcases k with k | k | k | k <;> rw [k] <;> decide
    rw [ha (by omega), hb (by omega)]
    unfold valY
    simp only [subT_K]
    rcases k with k | k | k | k <;> simp only [k] <;> simp
  · have e : needI o.K = 1 := by rw [k]; decide
    rw [ha (by omega)]
    unfold valY
    rw [subT_K, subT_N o ix (Or.inr k)]
    simp only [k]; simp
  · have e : needI o.K = 1 := by rcases k with k | k | k | k | k | k | k <;> rw [k] <;> decide
    rw [ha (by omega)]
    unfold valY
    simp only [subT_K]
    rcases k with k | k | k | k | k | k | k <;> simp only [k] <;> simp
theorem valB_sub {o : OpT} {ix : Nat → Int} {i : Nat} {V : Int} {a b a' b' : Nat × Nat} (h : opR o i V) (ha : 0 < needI o.K → a' = a) (hb : 1 < needI o.K → b' = b) : valB (subT o ix) a' b' = valB o a b := by
  rcases op_kinds2 h with k | ⟨k, _⟩ | ⟨k, _⟩ | ⟨k, _⟩ | ⟨k, _⟩
  · unfold valB; simp only [subT_K, k]; simp
  · unfold valB; simp only [subT_K, k]; simp
  · have e : needI o.K = 2 := by rcases k with k | k | k | k <;> rw [k] <;> decide
    rw [ha (by omega), hb (by omega)]
    unfold valB
    simp only [subT_K]
    rcases k with k | k | k | k <;> simp only [k] <;> simp
  · have e : needI o.K = 1 := by rw [k]; decide
    rw [ha (by omega)]
    unfold valB
    rw [subT_K, subT_N o ix (Or.inr k)]
    simp only [k]; simp
  · have e : needI o.K = 1 := by rcases k with k | k | k | k | k | k | k <;> rw [k] <;> decide
    rw [ha (by omega)]
    unfold valB
    simp only [subT_K]
    rcases k with k | k | k | k | k | k | k <;> simp only [k] <;> simp
theorem slopeY_sub {o : OpT} {ix : Nat → Int} {i : Nat} {V j : Int} {v a b a' b' da db da' db' : Nat × Nat} (h : opR o i V) (ha : 0 < needI o.K → a' = a ∧ da' = da) (hb : 1 < needI o.K → b' = b ∧ db' = db) :
    slopeY (subT o ix).K (subT o ix).N j v a' b' da' db' = slopeY o.K o.N j v a b da db := by
  rw [subT_K]
  rcases op_kinds2 h with k | ⟨k, _⟩ | ⟨k, _⟩ | ⟨k, _⟩ | ⟨k, _⟩
  · unfold slopeY; simp only [k]; simp
  · rw [subT_N o ix (Or.inl k)]; unfold slopeY; simp only [k]; simp
  · have e : needI o.K = 2 := by rcases k with k | k | k | k <;> rw [k] <;> decide
    rw [(ha (by omega)).1, (ha (by omega)).2, (hb (by omega)).1, (hb (by omega)).2]
    unfold slopeY
    rcases k with k | k | k | k <;> simp only [k] <;> simp
  · have e : needI o.K = 1 := by rw [k]; decide
    rw [(ha (by omega)).1, (ha (by omega)).2, subT_N o ix (Or.inr k)]
    unfold slopeY; simp only [k]; simp
  · have e : needI o.K = 1 := by rcases k with k | k | k | k | k | k | k <;> rw [k] <;> decide
    rw [(ha (by omega)).1, (ha (by omega)).2]
    unfold slopeY
    rcases k with k | k | k | k | k | k | k <;> simp only [k] <;> simp

section
variable {V : Int} {nO nN : Nat} {ops : Nat → OpT} {outs : Nat → Int}
/-- Where an argument of a needed operation stands. -/
theorem sub_arg {o : OpT} {ix : Nat → Int} : (0 < needI o.K → (subT o ix).A = ix o.A.toNat) ∧ (1 < needI o.K → (subT o ix).B = ix o.B.toNat) := ⟨fun h => if_pos h, fun h => if_pos h⟩
theorem trim_vals (hT : TapeR V nO ops nN outs) (hl : ∀ i, i < nO → (ops i).lo < 18446744073709551616 ∧ (ops i).hi < 18446744073709551616) (xs : Nat → Nat × Nat) (jj : Nat) :
    ∀ j, j < nO → needF ops outs nO nN j = true →
      evF (listF (trimL ops outs nO nN)) xs ((trU (needF ops outs nO nN) ops nO).ix j).toNat = evF ops xs j ∧
      evB (listF (trimL ops outs nO nN)) xs ((trU (needF ops outs nO nN) ops nO).ix j).toNat = evB ops xs j ∧
      slF (listF (trimL ops outs nO nN)) xs ((trU (needF ops outs nO nN) ops nO).ix j).toNat jj = slF ops xs j jj := by
  intro j
  induction j using Nat.strongRecOn with
  | _ j ih =>
    intro hj hu
    have hi := trim_inv hT hl
    obtain ⟨g1, g2, g3⟩ := hi.ixd j hj hu
    have hor := hT.2.2.2.2.1 j hj
    have hr := hi.rgt _ g2
    have g3' : listF (trimL ops outs nO nN) ((trU (needF ops outs nO nN) ops nO).ix j).toNat = subT (ops j) (trU (needF ops outs nO nN) ops nO).ix := g3
    have hr' : opR (listF (trimL ops outs nO nN) ((trU (needF ops outs nO nN) ops nO).ix j).toNat) ((trU (needF ops outs nO nN) ops nO).ix j).toNat V := hr
    obtain ⟨sA, sB⟩ := sub_arg (o := ops j) (ix := (trU (needF ops outs nO nN) ops nO).ix)
    have hA : 0 < needI (ops j).K → _ := fun h => ih (ops j).A.toNat (arg_lt hor (Or.inl ⟨h, rfl⟩)) (by have := arg_lt hor (Or.inl ⟨h, rfl⟩); omega) (need_arg hT hj hu (Or.inl ⟨h, rfl⟩))
    have hB : 1 < needI (ops j).K → _ := fun h => ih (ops j).B.toNat (arg_lt hor (Or.inr ⟨h, rfl⟩)) (by have := arg_lt hor (Or.inr ⟨h, rfl⟩); omega) (need_arg hT hj hu (Or.inr ⟨h, rfl⟩))
    have ev : evF (listF (trimL ops outs nO nN)) xs ((trU (needF ops outs nO nN) ops nO).ix j).toNat = evF ops xs j := by
      rw [evF_eq hr', g3', evF_eq hor]
      exact valY_sub hor (fun h => by rw [sA h]; exact (hA h).1) (fun h => by rw [sB h]; exact (hB h).1) (fun h => by rw [subT_N _ _ (Or.inl h)])
    refine ⟨ev, ?_, ?_⟩
    · unfold evB
      rw [g3']
      exact valB_sub hor (fun h => by rw [sA h]; exact (hA h).1) (fun h => by rw [sB h]; exact (hB h).1)
    · rw [slF_eq hr', ev, g3', slF_eq hor]
      exact slopeY_sub hor (fun h => by rw [sA h]; exact ⟨(hA h).1, (hA h).2.2⟩) (fun h => by rw [sB h]; exact ⟨(hB h).1, (hB h).2.2⟩)
theorem gErr_zero {xs : Nat → Nat × Nat} {m : Nat} : ∀ n, gErr ops xs m n = 0 ↔ ∀ k, k < n → gAt ops xs m k = 0
  | 0 => ⟨fun _ k h => by omega, fun _ => rfl⟩
  | n + 1 => by
    have ih := gErr_zero (xs := xs) (m := m) n
    constructor
    · intro h k hk
      have h0 : gErr ops xs m n = 0 := by
        by_cases e : gErr ops xs m n = 0
        · exact e
        · unfold gErr at h; rw [if_pos e] at h; exact absurd h e
      rcases Nat.lt_succ_iff_lt_or_eq.1 hk with h1 | h1
      · exact ih.1 h0 k h1
      · subst h1
        unfold gErr at h
        rw [if_neg (by simpa using h0)] at h
        exact h
    · intro h
      exact gErr_on (ih.2 fun k hk => h k (by omega)) (h n (by omega))
theorem gAt_vals (xs : Nat → Nat × Nat) (m k : Nat) : gAt ops xs m k = 0 ∨ gAt ops xs m k = 51 ∨ gAt ops xs m k = 5 := by
  unfold gAt; repeat' split
  all_goals simp
theorem gErr_vals (xs : Nat → Nat × Nat) (m : Nat) : ∀ n, gErr ops xs m n = 0 ∨ gErr ops xs m n = 51 ∨ gErr ops xs m n = 5
  | 0 => Or.inl rfl
  | n + 1 => by
    unfold gErr
    split
    · exact gErr_vals xs m n
    · exact gAt_vals xs m n
theorem trim_gAt (hT : TapeR V nO ops nN outs) (hl : ∀ i, i < nO → (ops i).lo < 18446744073709551616 ∧ (ops i).hi < 18446744073709551616) (xs : Nat → Nat × Nat) (m : Nat) {j : Nat} (hj : j < nO) (hu : needF ops outs nO nN j = true) :
    gAt (listF (trimL ops outs nO nN)) xs m ((trU (needF ops outs nO nN) ops nO).ix j).toNat = gAt ops xs m j := by
  obtain ⟨h1, h2, _⟩ := trim_vals hT hl xs 0 j hj hu
  have h3 : slF (listF (trimL ops outs nO nN)) xs ((trU (needF ops outs nO nN) ops nO).ix j).toNat = slF ops xs j := funext fun jj => (trim_vals hT hl xs jj j hj hu).2.2
  obtain ⟨_, _, g3⟩ := (trim_inv hT hl).ixd j hj hu
  have hK : (listF (trimL ops outs nO nN) ((trU (needF ops outs nO nN) ops nO).ix j).toNat).K = (ops j).K := by
    show (listF (trU (needF ops outs nO nN) ops nO).L _).K = _
    rw [g3]; rfl
  unfold gAt
  rw [h1, h2, h3, hK]
theorem start_trim (hT : TapeR V nO ops nN outs) (hl : ∀ i, i < nO → (ops i).lo < 18446744073709551616 ∧ (ops i).hi < 18446744073709551616) (xs : Nat → Nat × Nat) (nx : Nat) :
    startE V (trimL ops outs nO nN).length (listF (trimL ops outs nO nN)) nN (trimO ops outs nO nN) xs nx = startE V nO ops nN outs xs nx := by
  unfold startE
  rw [if_pos hT, if_pos (trim_right hT hl)]
theorem trim_grad (hT : TapeR V nO ops nN outs) (hl : ∀ i, i < nO → (ops i).lo < 18446744073709551616 ∧ (ops i).hi < 18446744073709551616) (xs : Nat → Nat × Nat) (nx : Nat) (h : gradE V nO ops nN outs xs nx = 0) :
    gradE V (trimL ops outs nO nN).length (listF (trimL ops outs nO nN)) nN (trimO ops outs nO nN) xs nx = 0 ∧
    ∀ j, j < nN → outF (listF (trimL ops outs nO nN)) (trimO ops outs nO nN) xs j = outF ops outs xs j ∧ ∀ i, outD (listF (trimL ops outs nO nN)) (trimO ops outs nO nN) xs j i = outD ops outs xs j i := by
  have hs : startE V nO ops nN outs xs nx = 0 := by
    by_cases e : startE V nO ops nN outs xs nx = 0
    · exact e
    · unfold gradE at h; rw [if_pos e] at h; exact absurd h e
  have hg : gErr ops xs nx nO = 0 := by unfold gradE at h; rw [if_neg (by simpa using hs)] at h; exact h
  refine ⟨?_, fun j hj => ?_⟩
  · unfold gradE
    rw [start_trim hT hl, if_neg (by simpa using hs)]
    refine (gErr_zero _).2 fun m hm => ?_
    obtain ⟨j, h1, h2, h3⟩ := (trim_inv hT hl).sur m hm
    have := trim_gAt hT hl xs nx h1 h2
    rw [h3, Int.toNat_natCast] at this
    rw [this]
    exact (gErr_zero _).1 hg j h1
  · obtain ⟨o1, o2⟩ := out_lt hT hj
    have hu := need_out (ops := ops) (nO := nO) (outs := outs) hj
    exact ⟨(trim_vals hT hl xs 0 _ o2 hu).1, fun i => (trim_vals hT hl xs i _ o2 hu).2.2⟩
theorem trim_grad_no (hT : TapeR V nO ops nN outs) (hl : ∀ i, i < nO → (ops i).lo < 18446744073709551616 ∧ (ops i).hi < 18446744073709551616) (xs : Nat → Nat × Nat) (nx : Nat) :
    gradE V (trimL ops outs nO nN).length (listF (trimL ops outs nO nN)) nN (trimO ops outs nO nN) xs nx = 0 ∨ gradE V (trimL ops outs nO nN).length (listF (trimL ops outs nO nN)) nN (trimO ops outs nO nN) xs nx = gradE V nO ops nN outs xs nx ∨
    gradE V (trimL ops outs nO nN).length (listF (trimL ops outs nO nN)) nN (trimO ops outs nO nN) xs nx = 51 ∨ gradE V (trimL ops outs nO nN).length (listF (trimL ops outs nO nN)) nN (trimO ops outs nO nN) xs nx = 5 := by
  unfold gradE
  rw [start_trim hT hl]
  by_cases e : startE V nO ops nN outs xs nx = 0
  · rw [if_neg (by simpa using e), if_neg (by simpa using e)]
    rcases gErr_vals (ops := listF (trimL ops outs nO nN)) xs nx (trimL ops outs nO nN).length with h | h | h
    · exact Or.inl h
    · exact Or.inr (Or.inr (Or.inl h))
    · exact Or.inr (Or.inr (Or.inr h))
  · rw [if_pos e, if_pos e]
    exact Or.inr (Or.inl rfl)
end
end Go.Proofs.YtpkgpkabmechkaaGreat
