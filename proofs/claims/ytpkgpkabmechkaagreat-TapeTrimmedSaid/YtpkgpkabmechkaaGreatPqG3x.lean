/- Slices of slices of intervals: rows of slopes; an operation's slope on them; the rows that a call makes beside its values. -/
import Derived.Test.YtpkgpkabmechkaaGreatPqG2
import Derived.Test.YtpkgpkabmechkaaGreatPqV6x
import Derived.Test.YtpkgpkabmechkaaGreatPqC1
namespace Go.Proofs.YtpkgpkabmechkaaGreat
set_option linter.unusedSimpArgs false
set_option linter.unusedVariables false
open Go.RowKit
open Fl

theorem cell_of_block {w w' : World} {b o : Nat} (h : w'.heap[b]? = w.heap[b]?) : w'.cell? ⟨b, o, none⟩ = w.cell? ⟨b, o, none⟩ := by simp [World.cell?, h]
theorem IvsAt.far {w w' : World} {r : Value} {xs : Nat → Nat × Nat} {m : Nat} (h : IvsAt w r xs m) (hb : ∀ g, r.ownBlock = some g → w'.heap[g]? = w.heap[g]?) : IvsAt w' r xs m := by
  obtain ⟨A, c, rfl, hm, hc⟩ := h
  refine ⟨A, c, rfl, hm, fun i hi => ?_⟩
  obtain ⟨b, o, e, l, c0, c1⟩ := hc i hi
  subst e
  have := hb b rfl
  exact ⟨b, o, rfl, l, (cell_of_block this).trans c0, (cell_of_block this).trans c1⟩
/-- A slice of n rows of m intervals. -/
def RowsAt (w : World) (d : Value) (D : Nat → Nat → Nat × Nat) (n m : Nat) : Prop :=
  ∃ A c, d = .slice A n c ∧ n ≤ 9223372036854775807 ∧ ∀ i, i < n → ∃ b o r, A = some ⟨b, o, none⟩ ∧ w.cell? ⟨b, o + i, none⟩ = some r ∧ IvsAt w r (D i) m
theorem RowsAt.below {w w' : World} {d : Value} {D : Nat → Nat → Nat × Nat} {n m : Nat} (h : RowsAt w d D n m) (hb : Below w.heap.size w w') : RowsAt w' d D n m := by
  obtain ⟨A, c, rfl, hn, hc⟩ := h
  refine ⟨A, c, rfl, hn, fun i hi => ?_⟩
  obtain ⟨b, o, r, e, c0, hr⟩ := hc i hi
  exact ⟨b, o, r, e, cellBelow hb c0, hr.below hb⟩
theorem rows_nil (w : World) (D : Nat → Nat → Nat × Nat) (m : Nat) : RowsAt w (.slice none 0 0) D 0 m := ⟨none, 0, rfl, by decide, fun i hi => by omega⟩

theorem slope_two_irr {K N j : Int} {v a b da db : Nat × Nat} (h : K = 1 ∨ K = 2) : slopeY K N j v a b da db = slopeY K N j v (0, 0) (0, 0) (0, 0) (0, 0) := by
  unfold slopeY
  rcases h with rfl | rfl <;> simp
theorem slope_one_irr {K N j : Int} {v a b da db : Nat × Nat} (h : K = 7 ∨ K = 8 ∨ K = 9 ∨ K = 10 ∨ K = 11 ∨ K = 12 ∨ K = 13 ∨ K = 14) : slopeY K N j v a b da db = slopeY K N j v a (0, 0) da (0, 0) := by
  unfold slopeY
  rcases h with rfl | rfl | rfl | rfl | rfl | rfl | rfl | rfl <;> simp
theorem kind_groups {o : OpT} {i : Nat} {V : Int} (ho : opR o i V) : ((o.K = 1 ∨ o.K = 2) ∨ ((o.K = 7 ∨ o.K = 8 ∨ o.K = 9 ∨ o.K = 10 ∨ o.K = 11 ∨ o.K = 12 ∨ o.K = 13 ∨ o.K = 14) ∧ 0 ≤ o.A ∧ o.A < i) ∨ ((o.K = 3 ∨ o.K = 4 ∨ o.K = 5 ∨ o.K = 6) ∧ 0 ≤ o.A ∧ o.A < i ∧ 0 ≤ o.B ∧ o.B < i)) ∧ (o.K = 8 → -64 ≤ o.N) ∧ (o.K = 8 → o.N ≤ 64) := by
  unfold opR OpR at ho
  rcases ho with ⟨h, _⟩ | ⟨h, _⟩ | h | h | ⟨h, h2⟩
  all_goals refine ⟨?_, fun h8 => by omega, fun h8 => by omega⟩
  · exact Or.inl (Or.inl h)
  · exact Or.inl (Or.inr h)
  · exact Or.inr (Or.inr ⟨by omega, by omega, by omega, by omega, by omega⟩)
  · exact Or.inr (Or.inl ⟨by omega, by omega, by omega⟩)
  · exact Or.inr (Or.inl ⟨by omega, by omega, by omega⟩)

theorem tslope_c {o : OpT} {w : World} {vv vd : Value} {vs : Nat → Nat × Nat} {D : Nat → Nat → Nat × Nat} {k m j : Nat} {V : Int} {y : Nat × Nat} (hv : IvsAt w vv vs k) (hd : RowsAt w vd D k m) (hj : j < m) (ho : opR o k V) (ly : Lt y) :
    Calls Tryz.prog 92 #[(.agg #[.int .i64 o.K, .int .i64 o.A, .int .i64 o.B, .int .i64 o.N, .float .f64 o.lo, .float .f64 o.hi]), .int .i64 j, (.agg #[.float .f64 y.1, .float .f64 y.2]), vv, vd] w (Val1 w (slopeY o.K o.N j y (vs o.A.toNat) (vs o.B.toNat) (D o.A.toNat j) (D o.B.toNat j))) := by
  obtain ⟨ks, n1, n2⟩ := kind_groups ho
  obtain ⟨K, A, B, N, lo, hi⟩ := o
  obtain ⟨y1, y2⟩ := y
  simp only at ks n1 n2
  obtain ⟨Av, cv, rfl, _, hv⟩ := hv
  obtain ⟨Ad, cd, rfl, _, hd⟩ := hd
  rcases ks with h | ⟨h, h3, h4⟩ | ⟨h, h3, h4, h5, h6⟩
  · rw [slope_two_irr h]
    exact tslope_none w K N h A B y1 y2 lo hi j m _ _ ly n1 n2
  · rw [slope_one_irr h]
    obtain ⟨ia, rfl⟩ := Int.eq_ofNat_of_zero_le h3
    obtain ⟨b, q, rfl, la, a0, a1⟩ := hv ia (by omega)
    obtain ⟨b', q', r, rfl, d0, hr⟩ := hd ia (by omega)
    obtain ⟨Ar, cr, rfl, _, hr⟩ := hr
    obtain ⟨br, qr, rfl, lda, e0, e1⟩ := hr j hj
    exact tslope_one w K N h B y1 y2 lo hi j m b q cv k b' q' cd k _ _ _ _ ia br qr cr hj (by omega) a0 a1 (by omega) d0 e0 e1 la lda ly n1 n2
  · obtain ⟨ia, rfl⟩ := Int.eq_ofNat_of_zero_le h3
    obtain ⟨ib, rfl⟩ := Int.eq_ofNat_of_zero_le h5
    obtain ⟨b, q, rfl, la, a0, a1⟩ := hv ia (by omega)
    obtain ⟨_, _, e, lb, b0, b1⟩ := hv ib (by omega)
    cases e
    obtain ⟨b', q', r, rfl, d0, hr⟩ := hd ia (by omega)
    obtain ⟨_, _, s, e, f0, hs⟩ := hd ib (by omega)
    cases e
    obtain ⟨Ar, cr, rfl, _, hr⟩ := hr
    obtain ⟨br, qr, rfl, lda, e0, e1⟩ := hr j hj
    obtain ⟨As, cs, rfl, _, hs⟩ := hs
    obtain ⟨bs, qs, rfl, ldb, g0, g1⟩ := hs j hj
    exact tslope_two w K N h y1 y2 lo hi j m b q cv k b' q' cd k _ _ _ _ ia br qr cr _ _ _ _ ib bs qs cs hj (by omega) a0 a1 (by omega) d0 e0 e1 la lda (by omega) b0 b1 (by omega) f0 g0 g1 lb ldb ly n1 n2
/-! ### What slopes are worked out as -/
def slL (ops : Nat → OpT) (xs : Nat → Nat × Nat) (j : Nat) : Nat → List (Nat × Nat)
  | 0 => []
  | k + 1 => slL ops xs j k ++ [slopeY (ops k).K (ops k).N j (evF ops xs k) (evF ops xs (ops k).A.toNat) (evF ops xs (ops k).B.toNat) ((slL ops xs j k).getD (ops k).A.toNat (0, 0)) ((slL ops xs j k).getD (ops k).B.toNat (0, 0))]
def slF (ops : Nat → OpT) (xs : Nat → Nat × Nat) (k j : Nat) : Nat × Nat := (slL ops xs j (k + 1)).getD k (0, 0)
theorem slL_len (ops : Nat → OpT) (xs : Nat → Nat × Nat) (j k : Nat) : (slL ops xs j k).length = k := by
  induction k with
  | zero => rfl
  | succ k ih => unfold slL; simp [ih]
theorem slL_get (ops : Nat → OpT) (xs : Nat → Nat × Nat) (j : Nat) {i k : Nat} (h : i < k) : (slL ops xs j k).getD i (0, 0) = slF ops xs i j := by
  induction k with
  | zero => omega
  | succ k ih =>
    by_cases e : i = k
    · subst e; rfl
    · rw [← ih (by omega)]
      have l := slL_len ops xs j k
      show (slL ops xs j k ++ _).getD i (0, 0) = _
      simp only [List.getD_eq_getElem?_getD]
      rw [List.getElem?_append_left (by omega)]
theorem slF_eq {ops : Nat → OpT} {xs : Nat → Nat × Nat} {k : Nat} {V : Int} (ho : opR (ops k) k V) (j : Nat) : slF ops xs k j = slopeY (ops k).K (ops k).N j (evF ops xs k) (evF ops xs (ops k).A.toNat) (evF ops xs (ops k).B.toNat) (slF ops xs (ops k).A.toNat j) (slF ops xs (ops k).B.toNat j) := by
  have l := slL_len ops xs j k
  have e : slF ops xs k j = slopeY (ops k).K (ops k).N j (evF ops xs k) (evF ops xs (ops k).A.toNat) (evF ops xs (ops k).B.toNat) ((slL ops xs j k).getD (ops k).A.toNat (0, 0)) ((slL ops xs j k).getD (ops k).B.toNat (0, 0)) := by
    show (slL ops xs j k ++ [_]).getD k (0, 0) = _
    simp only [List.getD_eq_getElem?_getD]
    rw [List.getElem?_append_right (by omega), l]
    simp
  rw [e]
  rcases (kind_groups ho).1 with h | ⟨h, h3, h4⟩ | ⟨h, h3, h4, h5, h6⟩
  · rw [slope_two_irr h, slope_two_irr (da := slF ops xs (ops k).A.toNat j) h]
  · rw [slL_get ops xs j (by omega : (ops k).A.toNat < k), slope_one_irr h, slope_one_irr (db := slF ops xs (ops k).B.toNat j) h]
  · rw [slL_get ops xs j (by omega : (ops k).A.toNat < k), slL_get ops xs j (by omega : (ops k).B.toNat < k)]
theorem lt_slopeY {K N j : Int} {v a b da db : Nat × Nat} (lv : Lt v) (hK : (K = 1 ∨ K = 2) ∨ ((K = 7 ∨ K = 8 ∨ K = 9 ∨ K = 10 ∨ K = 11 ∨ K = 12 ∨ K = 13 ∨ K = 14) ∧ Lt a ∧ Lt da) ∨ ((K = 3 ∨ K = 4 ∨ K = 5 ∨ K = 6) ∧ Lt a ∧ Lt da ∧ Lt b ∧ Lt db)) : Lt (slopeY K N j v a b da db) := by
  rcases hK with h | ⟨h, la, lda⟩ | ⟨h, la, lda, lb, ldb⟩
  · rcases h with rfl | rfl
    · exact lt_whole 0
    · unfold slopeY; simp; split; exact lt_whole 1; exact lt_whole 0
  · rcases h with rfl | rfl | rfl | rfl | rfl | rfl | rfl | rfl
    · exact lt_neg lda
    · unfold slopeY; simp; split; exact lt_whole 0; exact lt_mul (lt_mul (lt_whole N) (lt_pow la (N - 1))) lda
    · exact lt_div
    · exact lt_mul lv lda
    · exact lt_div
    · exact lt_mul (lt_round la) lda
    · exact lt_neg (lt_mul (lt_round la) lda)
    · exact lt_div
  · rcases h with rfl | rfl | rfl | rfl
    · exact lt_add lda ldb
    · exact lt_sub lda ldb
    · exact lt_add (lt_mul lda lb) (lt_mul la ldb)
    · exact lt_div
theorem lt_sl {ops : Nat → OpT} {xs : Nat → Nat × Nat} {n nx : Nat} (ho : ∀ i, i < n → opR (ops i) i nx) (he : ∀ k, k < n → Lt (evF ops xs k)) (j : Nat) : ∀ k, k < n → Lt (slF ops xs k j) := by
  intro k
  induction k using Nat.strongRecOn with
  | _ k ih =>
    intro hk
    rw [slF_eq (ho k hk)]
    refine lt_slopeY (he k hk) ?_
    rcases (kind_groups (ho k hk)).1 with h | ⟨h, h3, h4⟩ | ⟨h, h3, h4, h5, h6⟩
    · exact Or.inl h
    · exact Or.inr (Or.inl ⟨h, he _ (by omega), ih _ (by omega) (by omega)⟩)
    · exact Or.inr (Or.inr ⟨h, he _ (by omega), ih _ (by omega) (by omega), he _ (by omega), ih _ (by omega) (by omega)⟩)

/-- What stops a working out with slopes at an operation. -/
def gAt (ops : Nat → OpT) (xs : Nat → Nat × Nat) (m k : Nat) : Int :=
  if evB ops xs k = false then 51 else if wideB (evF ops xs k) = true then 5 else if (decide ((ops k).K = 9) && hasB (evF ops xs k).1 (evF ops xs k).2 0) = true then 51 else if anyB (slF ops xs k) m wideB = true then 5 else 0
def gErr (ops : Nat → OpT) (xs : Nat → Nat × Nat) (m : Nat) : Nat → Int
  | 0 => 0
  | k + 1 => if gErr ops xs m k ≠ 0 then gErr ops xs m k else gAt ops xs m k
theorem gErr_stop {ops : Nat → OpT} {xs : Nat → Nat × Nat} {m k n : Nat} (h0 : gErr ops xs m k = 0) (h : gAt ops xs m k ≠ 0) (hk : k < n) : gErr ops xs m n = gAt ops xs m k := by
  induction n with
  | zero => omega
  | succ n ih =>
    by_cases e : k = n
    · subst e
      unfold gErr
      rw [if_neg (by simpa using h0)]
    · have := ih (by omega)
      unfold gErr
      rw [this, if_pos h]
theorem gErr_on {ops : Nat → OpT} {xs : Nat → Nat × Nat} {m k : Nat} (h0 : gErr ops xs m k = 0) (h : gAt ops xs m k = 0) : gErr ops xs m (k + 1) = 0 := by
  unfold gErr; rw [if_neg (by simpa using h0)]; exact h
noncomputable def gradE (V : Int) (nO : Nat) (ops : Nat → OpT) (nN : Nat) (outs : Nat → Int) (xs : Nat → Nat × Nat) (nx : Nat) : Int :=
  if startE V nO ops nN outs xs nx ≠ 0 then startE V nO ops nN outs xs nx else gErr ops xs nx nO
def outD (ops : Nat → OpT) (outs : Nat → Int) (xs : Nat → Nat × Nat) (i : Nat) : Nat → Nat × Nat := slF ops xs (outs i).toNat
/-- What Grad, or the law's run with slopes, returns. -/
def GradRes (w : World) (E : Int) (ys : Nat → Nat × Nat) (D : Nat → Nat → Nat × Nat) (n m : Nat) (e : Ending) (w' : World) : Prop :=
  ∃ v d, e = .returned (.tuple #[v, d, .int .i64 E]) ∧ (E ≠ 0 → v = .slice none 0 0 ∧ d = .slice none 0 0) ∧ (E = 0 → IvsAt w' v ys n ∧ RowsAt w' d D n m) ∧ Below w.heap.size w w'

/-! ### Values, and rows of slopes beside them -/
def RowsIn (w : World) (R : Nat → Value) (D : Nat → Nat → Nat × Nat) (q m : Nat) (v d : Value) : Prop :=
  ∀ i, i < q → IvsAt w (R i) (D i) m ∧ ∀ g, (R i).ownBlock = some g → g < w.heap.size ∧ v.ownBlock ≠ some g ∧ d.ownBlock ≠ some g
structure Own3 (base : Nat) (w : World) (v : Value) (xs : Nat → Nat × Nat) (k : Nat) (d : Value) (D : Nat → Nat → Nat × Nat) (q m : Nat) : Prop where
  iv : OwnIv base w v xs k
  ex : ∃ R : Nat → Value, w.ownsRow base 46 1 d q ((List.range q).map R) ∧ RowsIn w R D q m v d
  ne : ∀ g, v.ownBlock = some g → d.ownBlock ≠ some g
theorem own3_nil (base : Nat) (w : World) (xs : Nat → Nat × Nat) (D : Nat → Nat → Nat × Nat) (m : Nat) : Own3 base w (.slice none 0 0) xs 0 (.slice none 0 0) D 0 m :=
  ⟨ownIv_nil _ _ _, ⟨fun _ => .slice none 0 0, World.ownsRow_nil _ _ _ _, fun i hi => by omega⟩, fun g hg => by cases hg⟩
theorem Own3.below {base : Nat} {w w' : World} {v d : Value} {xs : Nat → Nat × Nat} {D : Nat → Nat → Nat × Nat} {k q m : Nat} (h : Own3 base w v xs k d D q m) (hb : Below w.heap.size w w') : Own3 base w' v xs k d D q m := by
  obtain ⟨R, hR, hI⟩ := h.ex
  refine ⟨h.iv.below hb, ⟨R, own_far hR fun g hg => hb.block g (own_lt hR g hg).2, fun i hi => ?_⟩, h.ne⟩
  obtain ⟨h1, h2⟩ := hI i hi
  exact ⟨h1.below hb, fun g hg => ⟨Nat.lt_of_lt_of_le (h2 g hg).1 hb.size, (h2 g hg).2⟩⟩
theorem Own3.rows {base : Nat} {w : World} {v d : Value} {xs : Nat → Nat × Nat} {D : Nat → Nat → Nat × Nat} {k q m : Nat} (h : Own3 base w v xs k d D q m) (hq : q ≤ 9223372036854775807) : RowsAt w d D q m := by
  obtain ⟨R, hR, hI⟩ := h.ex
  have hR2 := hR
  rcases hR.2 with ⟨rfl, rfl⟩ | ⟨g, cap, cur, rfl, hg, hh, hnc, hcm, r⟩
  · exact rows_nil _ _ _
  · refine ⟨_, cap, rfl, hq, fun i hi => ⟨g, 0, R i, rfl, ?_, (hI i hi).1⟩⟩
    rw [Nat.zero_add, World.ownsRow.cellAt hR2 i (by omega)]
    rw [List.getElem?_map, List.getElem?_range hi]; rfl
theorem range_map_succ (R : Nat → Value) (q : Nat) (r : Value) : (List.range (q + 1)).map (fun i => if i = q then r else R i) = (List.range q).map R ++ [r] := by
  rw [List.range_succ, List.map_append]
  congr 1
  · refine List.map_congr_left fun i hi => ?_
    rw [if_neg (by have := List.mem_range.1 hi; omega)]
  · simp
theorem Own3.grow {base : Nat} {w w1 : World} {v d : Value} {xs : Nat → Nat × Nat} {D : Nat → Nat → Nat × Nat} {k m q g cap p p' : Nat} (h : Own3 base w v xs k d D q m)
    (hown : w1.ownsRow base 24 2 (.slice (some ⟨g, 0, none⟩) (k + 1) cap) (k + 1) (ivCells xs k ++ [(.float .f64 p), (.float .f64 p')])) (hg : w.grownBy w1 v.ownBlock) (hat : v.ownBlock = some g ∨ g = w.heap.size) (hpq : xs k = (p, p')) (hl : Lt (p, p')) :
    Own3 base w1 (.slice (some ⟨g, 0, none⟩) (k + 1) cap) xs (k + 1) d D q m := by
  obtain ⟨R, hR, hI⟩ := h.ex
  refine ⟨⟨fun i hi => ?_, by rw [ivCells_succ, hpq]; exact hown⟩, ⟨R, own_far hR fun g' hg' => hg.block g' (own_lt hR g' hg').2 (fun e => h.ne g' e.symm hg'), fun i hi => ?_⟩, fun g' hg' hd => ?_⟩
  · by_cases e : i = k
    · rw [e, hpq]; exact hl
    · exact h.iv.1 i (by omega)
  · obtain ⟨h1, h2⟩ := hI i hi
    refine ⟨h1.far fun g' hg' => hg.block g' (h2 g' hg').1 (fun e => (h2 g' hg').2.1 e.symm), fun g' hg' => ⟨Nat.lt_of_lt_of_le (h2 g' hg').1 hg.size, fun e => ?_, (h2 g' hg').2.2⟩⟩
    obtain rfl : g = g' := by simpa [Value.ownBlock] using e
    rcases hat with e | e
    · exact (h2 _ hg').2.1 e
    · have := (h2 _ hg').1; omega
  · obtain rfl : g = g' := by simpa [Value.ownBlock] using hg'
    rcases hat with e | e
    · exact h.ne _ e hd
    · have := (own_lt hR _ hd).2; omega
theorem Own3.growD {base : Nat} {w w1 : World} {v d r : Value} {xs : Nat → Nat × Nat} {D : Nat → Nat → Nat × Nat} {k m q g cap : Nat} {R : Nat → Value} (h : Own3 base w v xs k d D q m) (hR : w.ownsRow base 46 1 d q ((List.range q).map R)) (hI : RowsIn w R D q m v d) (hr : IvsAt w r (D q) m) (hn : ∀ g, r.ownBlock = some g → g < w.heap.size ∧ v.ownBlock ≠ some g ∧ d.ownBlock ≠ some g)
    (hown : w1.ownsRow base 46 1 (.slice (some ⟨g, 0, none⟩) (q + 1) cap) (q + 1) ((List.range q).map R ++ [r])) (hg : w.grownBy w1 d.ownBlock) (hat : d.ownBlock = some g ∨ g = w.heap.size) :
    Own3 base w1 v xs k (.slice (some ⟨g, 0, none⟩) (q + 1) cap) D (q + 1) m := by
  have ho := hown
  refine ⟨⟨h.iv.1, own_far h.iv.2 fun g' hg' => hg.block g' (own_lt h.iv.2 g' hg').2 (fun e => h.ne g' hg' e.symm)⟩, ⟨fun i => if i = q then r else R i, by rw [range_map_succ]; exact ho, fun i hi => ?_⟩, fun g' hv hd => ?_⟩
  · have key : ∀ (s : Value) (ds : Nat → Nat × Nat), IvsAt w s ds m → (∀ g, s.ownBlock = some g → g < w.heap.size ∧ v.ownBlock ≠ some g ∧ d.ownBlock ≠ some g) → IvsAt w1 s ds m ∧ ∀ g', s.ownBlock = some g' → g' < w1.heap.size ∧ v.ownBlock ≠ some g' ∧ (Value.slice (some ⟨g, 0, none⟩) (q + 1) cap).ownBlock ≠ some g' := fun s ds h1 h2 => by
      refine ⟨h1.far fun g' hg' => hg.block g' (h2 g' hg').1 (fun e => (h2 g' hg').2.2 e.symm), fun g' hg' => ⟨Nat.lt_of_lt_of_le (h2 g' hg').1 hg.size, (h2 g' hg').2.1, fun e => ?_⟩⟩
      obtain rfl : g = g' := by simpa [Value.ownBlock] using e
      rcases hat with e | e
      · exact (h2 _ hg').2.2 e
      · have := (h2 _ hg').1; omega
    show IvsAt w1 (if i = q then r else R i) (D i) m ∧ _
    by_cases e : i = q
    · subst e
      simp only [if_pos]
      exact key r _ hr hn
    · simp only [if_neg e]
      exact key (R i) _ (hI i (by omega)).1 (hI i (by omega)).2
  · obtain rfl : g = g' := by simpa [Value.ownBlock] using hd
    rcases hat with e | e
    · exact h.ne _ hv e
    · have := (own_lt h.iv.2 _ hv).2; omega

section
variable {w : World} {ops : Array Oper} {rest : List Oper} {o : Oper} {a : Act} {Q : Exit → Act → World → Prop} {K : Act → World → Prop} {E : Prop} {s x : Operand} {base : Nat} {v d r : Value} {xs : Nat → Nat × Nat} {D : Nat → Nat → Nat × Nat} {k q m B p p' : Nat} {fr : Nat × Nat}
theorem wpList_append_3 (hgd : o.guard = none) 
    (ho : o.op = .call { callee := .builtin .append, args := #[s, x], argTypes := #[46, 46] })
    (hs : a.eval s = v) (hx : a.eval x = .slice (some ⟨B, 0, none⟩) 1 1) (hB : w.heap[B]? = some (.cells #[(.float .f64 p), (.float .f64 p')] 24 fr)) (hown : Own3 base w v xs k d D q m) (hpq : xs k = (p, p')) (hl : Lt (p, p')) (hL : k ≤ 3000000) (hb : base ≤ w.heap.size)
    (h : ∀ g cap w', Own3 base w' (.slice (some ⟨g, 0, none⟩) (k + 1) cap) xs (k + 1) d D q m → Below base w w' → (v.ownBlock = some g ∨ g = w.heap.size) → w.grownBy w' v.ownBlock → wpList Tryz.prog ops Q rest (a.put o.dst (.slice (some ⟨g, 0, none⟩) (k + 1) cap)) w') :
    wpList Tryz.prog ops Q (o :: rest) a w := by
  obtain ⟨i0, hi, hz0, hz1, hz2⟩ := info_parts info24
  refine wpList_append_lies _ hgd s x 46 ho base 24 i0 (.agg #[.float .f64 0, .float .f64 0]) 2 16 Tryz.underlying46 hi hz0 hz1 hz2 rfl (by decide) v k (ivCells xs k) hs hown.iv.2 ⟨B, 0, none⟩ 1 1 [(.float .f64 p), (.float .f64 p')] hx rfl (World.news_of_block hB) ?_ (by omega) (by unfold maxLen; omega) (by omega) hb w.heap.size rfl ?_
  · intro u hu
    simp at hu
    rcases hu with rfl | rfl <;> rfl
  · intro g cap w1 h1 h2 h3 h4
    exact h g cap w1 (hown.grow h1 h2 h3 hpq hl) (grown_below hown.iv.2 h2 hb) h3 h2
theorem wpList_append_d (hgd : o.guard = none)
    (ho : o.op = .call { callee := .builtin .append, args := #[s, x], argTypes := #[51, 51] })
    (hs : a.eval s = d) (hx : a.eval x = .slice (some ⟨B, 0, none⟩) 1 1) (hB : w.heap[B]? = some (.cells #[r] 46 fr)) (hown : Own3 base w v xs k d D q m) (hr : IvsAt w r (D q) m) (hn : ∀ g, r.ownBlock = some g → g < w.heap.size ∧ v.ownBlock ≠ some g ∧ d.ownBlock ≠ some g) (hL : q ≤ 3000000) (hb : base ≤ w.heap.size)
    (h : ∀ g cap w', Own3 base w' v xs k (.slice (some ⟨g, 0, none⟩) (q + 1) cap) D (q + 1) m → Below base w w' → wpList Tryz.prog ops Q rest (a.put o.dst (.slice (some ⟨g, 0, none⟩) (q + 1) cap)) w') :
    wpList Tryz.prog ops Q (o :: rest) a w := by
  obtain ⟨i0, hi, hz0, hz1, hz2⟩ := info_parts info46
  obtain ⟨R, hR, hI⟩ := hown.ex
  have hro : ∃ A c, r = .slice A m c := by obtain ⟨A, c, e, _⟩ := hr; exact ⟨A, c, e⟩
  refine wpList_append_lies _ hgd s x 51 ho base 46 i0 (.slice none 0 0) 1 24 Tryz.underlying51 hi hz0 hz1 hz2 rfl (by decide) d q ((List.range q).map R) hs hR ⟨B, 0, none⟩ 1 1 [r] hx rfl (World.news_of_block hB) ?_ (by omega) (by unfold maxLen; omega) (by omega) hb w.heap.size rfl ?_
  · intro u hu
    simp at hu
    subst hu
    obtain ⟨A, c, rfl⟩ := hro
    rfl
  · intro g cap w1 h1 h2 h3 h4
    exact h g cap w1 (Own3.growD hown hR hI hr hn h1 h2 h3) (grown_below hR h2 hb)
theorem step_append_3 (hgd : o.guard = none)
    (ho : o.op = .call { callee := .builtin .append, args := #[s, x], argTypes := #[46, 46] })
    (hs : a.eval s = v) (hx : a.eval x = .slice (some ⟨B, 0, none⟩) 1 1) (hB : w.heap[B]? = some (.cells #[(.float .f64 p), (.float .f64 p')] 24 fr)) (hown : Own3 base w v xs k d D q m) (hpq : xs k = (p, p')) (hl : Lt (p, p')) (hL : k ≤ 3000000) (hb : base ≤ w.heap.size)
    (h : ∀ g cap w', Own3 base w' (.slice (some ⟨g, 0, none⟩) (k + 1) cap) xs (k + 1) d D q m → Below base w w' → (v.ownBlock = some g ∨ g = w.heap.size) → w.grownBy w' v.ownBlock → K (a.put o.dst (.slice (some ⟨g, 0, none⟩) (k + 1) cap)) w') :
    if Region.wanted o (yielded ops a.tmps) = true then Oper.wp Tryz.prog o a w K Q else E := by
  obtain ⟨i0, hi, hz0, hz1, hz2⟩ := info_parts info24
  refine step_append_lies _ hgd s x 46 ho base 24 i0 (.agg #[.float .f64 0, .float .f64 0]) 2 16 Tryz.underlying46 hi hz0 hz1 hz2 rfl (by decide) v k (ivCells xs k) hs hown.iv.2 ⟨B, 0, none⟩ 1 1 [(.float .f64 p), (.float .f64 p')] hx rfl (World.news_of_block hB) ?_ (by omega) (by unfold maxLen; omega) (by omega) hb w.heap.size rfl ?_
  · intro u hu
    simp at hu
    rcases hu with rfl | rfl <;> rfl
  · intro g cap w1 h1 h2 h3 h4
    exact h g cap w1 (hown.grow h1 h2 h3 hpq hl) (grown_below hown.iv.2 h2 hb) h3 h2
theorem step_append_d (hgd : o.guard = none)
    (ho : o.op = .call { callee := .builtin .append, args := #[s, x], argTypes := #[51, 51] })
    (hs : a.eval s = d) (hx : a.eval x = .slice (some ⟨B, 0, none⟩) 1 1) (hB : w.heap[B]? = some (.cells #[r] 46 fr)) (hown : Own3 base w v xs k d D q m) (hr : IvsAt w r (D q) m) (hn : ∀ g, r.ownBlock = some g → g < w.heap.size ∧ v.ownBlock ≠ some g ∧ d.ownBlock ≠ some g) (hL : q ≤ 3000000) (hb : base ≤ w.heap.size)
    (h : ∀ g cap w', Own3 base w' v xs k (.slice (some ⟨g, 0, none⟩) (q + 1) cap) D (q + 1) m → Below base w w' → K (a.put o.dst (.slice (some ⟨g, 0, none⟩) (q + 1) cap)) w') :
    if Region.wanted o (yielded ops a.tmps) = true then Oper.wp Tryz.prog o a w K Q else E := by
  obtain ⟨i0, hi, hz0, hz1, hz2⟩ := info_parts info46
  obtain ⟨R, hR, hI⟩ := hown.ex
  have hro : ∃ A c, r = .slice A m c := by obtain ⟨A, c, e, _⟩ := hr; exact ⟨A, c, e⟩
  refine step_append_lies _ hgd s x 51 ho base 46 i0 (.slice none 0 0) 1 24 Tryz.underlying51 hi hz0 hz1 hz2 rfl (by decide) d q ((List.range q).map R) hs hR ⟨B, 0, none⟩ 1 1 [r] hx rfl (World.news_of_block hB) ?_ (by omega) (by unfold maxLen; omega) (by omega) hb w.heap.size rfl ?_
  · intro u hu
    simp at hu
    subst hu
    obtain ⟨A, c, rfl⟩ := hro
    rfl
  · intro g cap w1 h1 h2 h3 h4
    exact h g cap w1 (Own3.growD hown hR hI hr hn h1 h2 h3) (grown_below hR h2 hb)
end
end Go.Proofs.YtpkgpkabmechkaaGreat

/- Contracts: tape.Grad. -/
namespace Go.Proofs.YtpkgpkabmechkaaGreat
set_option linter.unusedSimpArgs false
set_option linter.unusedVariables false
open Go.RowKit
open Fl

def GrInv (W1 : World) (B1 : Nat) (ops : Nat → OpT) (xs : Nat → Nat × Nat) (nO m : Nat) (i v d : Value) (wr : World) : Prop :=
  ∃ k : Nat, i = .int .i64 k ∧ k ≤ nO ∧ Own3 B1 wr v (evF ops xs) k d (slF ops xs) k m ∧ gErr ops xs m k = 0 ∧ Below B1 W1 wr
def RowInv (Wb : World) (B : Nat) (f : Nat → Nat × Nat) (m : Nat) (i r : Value) (wi : World) : Prop :=
  ∃ j : Nat, i = .int .i64 j ∧ j ≤ m ∧ OwnIv B wi r f j ∧ (∀ l, l < j → wideB (f l) = false) ∧ Below B Wb wi
def GOutInv (W2 : World) (ys : Nat → Nat × Nat) (D : Nat → Nat → Nat × Nat) (nN m : Nat) (i v d : Value) (wr : World) : Prop :=
  ∃ j : Nat, i = .int .i64 j ∧ j ≤ nN ∧ Own3 W2.heap.size wr v ys j d D j m ∧ Below W2.heap.size W2 wr

theorem after_y {B : Nat} {w w7 : World} {v d r : Value} {f : Nat → Nat × Nat} {m k g1 cap1 : Nat} (hr : OwnIv B w r f m) (hv : ∀ g, v.ownBlock = some g → g < B) (hd : ∀ g, d.ownBlock = some g → g < B) (hg : w.grownBy w7 v.ownBlock) (hat : v.ownBlock = some g1 ∨ g1 = w.heap.size) (o : Obj) :
    IvsAt (w7.alloc o) r f m ∧ ∀ g, r.ownBlock = some g → g < (w7.alloc o).heap.size ∧ (Value.slice (some ⟨g1, 0, none⟩) k cap1).ownBlock ≠ some g ∧ d.ownBlock ≠ some g := by
  refine ⟨(hr.ivs.far fun g h => hg.block g (hr.lt g h).2 fun e => by have := hv g e.symm; have := (hr.lt g h).1; omega).below ((Below.refl _ _).alloc (Nat.le_refl _) _), fun g h => ⟨?_, fun e => ?_, fun e => ?_⟩⟩
  · have := (hr.lt g h).2
    have := hg.size
    simp; omega
  · obtain rfl : g1 = g := by simpa [Value.ownBlock] using e
    have := hr.lt g1 h
    rcases hat with e | e
    · have := hv _ e; omega
    · omega
  · have := hd _ e; have := (hr.lt g h).1; omega

theorem fresh_row {base : Nat} {w5 w6 : World} {v d u : Value} {xs f : Nat → Nat × Nat} {D : Nat → Nat → Nat × Nat} {k q m : Nat} (ho : Own3 base w5 v xs k d D q m) (hu : OwnIv w5.heap.size w6 u f m) (hb : Below w5.heap.size w5 w6) (o : Obj) :
    Own3 base (w6.alloc o) v xs k d D q m ∧ IvsAt (w6.alloc o) u f m ∧ ∀ g, u.ownBlock = some g → g < (w6.alloc o).heap.size ∧ v.ownBlock ≠ some g ∧ d.ownBlock ≠ some g := by
  have ha : Below w6.heap.size w6 (w6.alloc o) := (Below.refl _ _).alloc (Nat.le_refl _) _
  refine ⟨(ho.below hb).below ha, hu.ivs.below ha, fun g h => ⟨?_, fun e => ?_, fun e => ?_⟩⟩
  · have := (hu.lt g h).2; simp; omega
  · have := (own_lt ho.iv.2 g e).2; have := (hu.lt g h).1; omega
  · obtain ⟨R, hR, _⟩ := ho.ex
    have := (own_lt hR g e).2; have := (hu.lt g h).1; omega

set_option maxHeartbeats 16000000 in
set_option maxRecDepth 100000 in
theorem grad_c {V : Int} {vO vN vx : Value} {ops : Nat → OpT} {outs : Nat → Int} {nO nN nx : Nat} {xs : Nat → Nat × Nat} {w : World} (hO : OpsAt w vO ops nO) (hN : OutsAt w vN outs nN) (hx : IvsAt w vx xs nx) :
    Calls Tryz.prog 36 #[.agg #[.int .i64 V, vO, vN], vx] w (GradRes w (gradE V nO ops nN outs xs nx) (outF ops outs xs) (outD ops outs xs) nN nx) := by
  have b0 : Below w.heap.size w (w.alloc (Obj.cells #[.int .i64 V, vO, vN] 45)) := (Below.refl _ _).alloc (Nat.le_refl _) _
  have ST := start_c (V := V) (hO.below b0) (hN.below b0) (hx.below b0)
  unfold gradE
  by_cases hs : startE V nO ops nN outs xs nx = 0
  · rw [if_neg (by simpa using hs)]
    rw [hs] at ST
    obtain ⟨⟨t1, t2, t3, t4, t5, t6⟩, t7, t8⟩ := start_zero hs
    obtain rfl : V = (nx : Int) := t7.symm
    have HX := Lib.hid hx
    have HO := Lib.hid hO
    have HT5 := Lib.hid t5
    have HT6 := Lib.hid t6
    have hlen : ∀ i, i < nO → (ops i).lo < 18446744073709551616 ∧ (ops i).hi < 18446744073709551616 := fun i hi => by
      obtain ⟨A, c, e, h⟩ := HO.out
      obtain ⟨b, o, e2, l1, l2, _⟩ := h i hi
      exact ⟨l1, l2⟩
    have hlt := lt_ev (ops := ops) (xs := xs) (n := nO) (nx := nx) t5 hlen (fun i hi => HX.out.lt hi)
    have hsl := fun j => lt_sl (ops := ops) (xs := xs) (n := nO) (nx := nx) t5 hlt j
    have HLT := Lib.hid (show _ ∧ _ from ⟨hlt, hsl⟩)
    clear hlt hlen hsl t5 t6 t7 t8 hx
    obtain ⟨AO, cO, rfl, hO⟩ := hO
    obtain ⟨AN, cN, rfl, hN⟩ := hN
    have HO2 := Lib.hid hO
    have HN2 := Lib.hid hN
    clear hO hN hs
    obtain ⟨i0, hi, hz0, hz1, hz2⟩ := info_parts info24
    have hnx : nx ≤ 64 := by omega
    go_enter Tryz.func36, Tryz.ntmps36
    go_upto_region 4 with (go_at_call 83; (with_reducible refine ST.mono ?_); rintro _ _ ⟨n1, rfl, rfl⟩)
    have d0 : n1.val.cell? ⟨w.heap.size, 0, none⟩ = some (.int .i64 (nx : Int)) := cellBelow n1.below (by simp [go_sem])
    have d1 : n1.val.cell? ⟨w.heap.size, 1, none⟩ = some (.slice AO nO cO) := cellBelow n1.below (by simp [go_sem])
    have d2 : n1.val.cell? ⟨w.heap.size, 2, none⟩ = some (.slice AN nN cN) := cellBelow n1.below (by simp [go_sem])
    have bww : Below w.heap.size w n1.val := by (repeat' first | (with_reducible first | exact Below.refl _ _ | assumption | refine Later.belowOf _ ?_ ?_ | refine Below.alloc ?_ ?_ _ | refine Below.setCell ?_ ?_ _ | refine Below.drewN' _ ?_ | refine Below.drew ?_ | exact Ge.le) | go_size)
    have hs1 : w.heap.size + 1 ≤ n1.val.heap.size := World.block_lt_of_cell? _ _ d0
    have HD := Lib.hid (show _ ∧ _ ∧ _ ∧ _ from ⟨d0, d2, bww, hs1⟩)
    clear ST b0 d0 d2
    go_wp2
    go_loopw [30, 8, 9] (fun i v d wr => GrInv n1.val n1.val.heap.size ops xs nO nx i v d wr) (fun i _ _ _ => nO - (intOf i).toNat)
    case atStart => exact ⟨0, rfl, Nat.zero_le _, own3_nil _ _ _ _ _, rfl, Below.refl _ _⟩
    case round =>
      obtain ⟨k, rfl, hk, hown, her, hbel⟩ := hrel
      obtain ⟨d0, d2, bww, hs1⟩ := HD.out
      have hsz := hbel.size
      have hwr : Below w.heap.size w wr := bww.trans (hbel.mono (by omega))
      haveI gwr : Ge wr w.heap.size := ⟨hwr.size⟩
      haveI gwr1 : Ge wr (w.heap.size + 1) := ⟨by omega⟩
      have e0 := cellBelow hbel d0
      have HR := Lib.hid (show _ ∧ _ ∧ _ ∧ _ from ⟨hown, her, hbel, hwr⟩)
      have hk2 : (k : Int) ≤ 4000 := by omega
      by_cases hkn : k < nO
      · obtain ⟨b, o, eA, l1, l2, c0, c1, c2, c3, c4, c5⟩ := HO2.out k hkn
        subst eA
        have c0 := cellBelow hwr c0
        have c1 := cellBelow hwr c1
        have c2 := cellBelow hwr c2
        have c3 := cellBelow hwr c3
        have c4 := cellBelow hwr c4
        have c5 := cellBelow hwr c5
        have hor : opR (ops k) (k : Nat) (nx : Nat) := HT5.out k hkn
        have hal : Below wr.heap.size wr (wr.alloc (Obj.cells #[.int .i64 (ops k).K, .int .i64 (ops k).A, .int .i64 (ops k).B, .int .i64 (ops k).N, (.float .f64 ((ops k).lo)), (.float .f64 ((ops k).hi))] 66)) := (Below.refl _ _).alloc (Nat.le_refl _) _
        have VC := value_c (hown.iv.ivs.below hal) ((HX.out.below hwr).below hal) hor
        have ly := HLT.out.1 k hkn
        have hrows := hown.rows (by omega)
        have TS := fun (j : Nat) (hj : j < nx) (W : World) (hW : Below wr.heap.size wr W) => tslope_c (hown.iv.ivs.below hW) (hrows.below hW) hj hor ly
        have hsf := fun j => slF_eq (xs := xs) hor j
        have HTS := Lib.hid (show _ ∧ _ from ⟨TS, hsf⟩)
        clear TS hsf hrows
        rw [← evF_eq hor] at VC
        have WC := wide_c ly
        have HZ := has_any (evF ops xs k).1 (evF ops xs k).2 0 (by decide)
        have hz : gAt ops xs nx k = if evB ops xs k = false then 51 else if wideB (evF ops xs k) = true then 5 else if (decide ((ops k).K = 9) && hasB (evF ops xs k).1 (evF ops xs k).2 0) = true then 51 else if anyB (slF ops xs k) nx wideB = true then 5 else 0 := rfl
        change Calls _ _ _ _ (Val2 _ _ (evB ops xs k)) at VC
        obtain ⟨ok, hok⟩ : ∃ b, evB ops xs k = b := ⟨_, rfl⟩
        rw [hok] at VC hz
        obtain ⟨hb0, hhb⟩ : ∃ b, hasB (evF ops xs k).1 (evF ops xs k).2 0 = b := ⟨_, rfl⟩
        rw [hhb] at HZ hz
        obtain ⟨wb, hwb⟩ : ∃ b, wideB (evF ops xs k) = b := ⟨_, rfl⟩
        rw [hwb] at WC hz
        obtain ⟨y, hy⟩ : ∃ y, evF ops xs k = y := ⟨_, rfl⟩
        rw [hy] at VC WC HZ
        have HY := Lib.hid (show _ ∧ _ from ⟨hy, hy ▸ ly⟩)
        have HEY := Lib.hid hz
        clear hz hok hhb hwb ly hor hal hown her hbel hy
        obtain ⟨oK, hoK⟩ : ∃ z, (ops k).K = z := ⟨_, rfl⟩
        rw [hoK] at VC c0
        have HK := Lib.hid hoK
        clear hoK
        obtain ⟨y1, y2⟩ := y
        have stop : ∀ E : Int, E ≠ 0 → gAt ops xs nx k = E → gErr ops xs nx nO = E := fun E hE h => by
          obtain ⟨_, h2, _⟩ := HR.out
          rw [gErr_stop h2 (by rw [h]; exact hE) hkn, h]
        cases ok
        · have HE := Lib.hid (stop 51 (by decide) HEY.out)
          rw [HE.out]
          clear stop
          go_wp2_with (go_at_call 84; (with_reducible refine VC.mono ?_); rintro _ _ ⟨n2, rfl, rfl⟩)
          go_ret3
          exact ⟨_, _, rfl, fun _ => ⟨rfl, rfl⟩, fun h => absurd h (by decide), by have := hwr; (repeat' first | (with_reducible first | exact Below.refl _ _ | assumption | refine Later.belowOf _ ?_ ?_ | refine Below.alloc ?_ ?_ _ | refine Below.setCell ?_ ?_ _ | refine Below.drewN' _ ?_ | refine Below.drew ?_ | exact Ge.le) | go_size)⟩
        · cases wb
          · have hz := HEY.out
            simp only [Bool.true_eq_false, if_false, Bool.false_eq_true] at hz
            by_cases hq : oK = 9 ∧ hb0 = true
            · obtain ⟨rfl, rfl⟩ := hq
              have HE := Lib.hid (stop 51 (by decide) (by rw [hz, HK.out]; rfl))
              rw [HE.out]
              clear stop hz
              go_wp2_with (first | (go_at_call 84; (with_reducible refine VC.mono ?_); rintro _ _ ⟨n2, rfl, rfl⟩) | (go_at_call 85; (with_reducible refine (WC.go _).mono ?_); rintro _ _ ⟨n3, rfl, rfl⟩) | (go_at_call 91; (with_reducible refine (HZ.go _).mono ?_); rintro _ _ ⟨n4, rfl, rfl⟩))
              go_ret3
              exact ⟨_, _, rfl, fun _ => ⟨rfl, rfl⟩, fun h => absurd h (by decide), by have := hwr; (repeat' first | (with_reducible first | exact Below.refl _ _ | assumption | refine Later.belowOf _ ?_ ?_ | refine Below.alloc ?_ ?_ _ | refine Below.setCell ?_ ?_ _ | refine Below.drewN' _ ?_ | refine Below.drew ?_ | exact Ge.le) | go_size)⟩
            · have hzz : gAt ops xs nx k = if anyB (slF ops xs k) nx wideB = true then 5 else 0 := by
                rw [hz, HK.out, if_neg]
                intro h
                rw [Bool.and_eq_true, decide_eq_true_eq] at h
                exact hq h
              have HEZ := Lib.hid (show _ ∧ _ from ⟨hzz, stop⟩)
              have cs : (oK == 9) = false ∨ ((oK == 9) = true ∧ hb0 = false) := by
                by_cases h9 : oK = 9
                · refine Or.inr ⟨by simpa using h9, ?_⟩
                  cases hb0
                  · rfl
                  · exact absurd ⟨h9, rfl⟩ hq
                · exact Or.inl (by simpa using h9)
              clear hz hzz stop hq
              rcases cs with h9 | ⟨h9, rfl⟩
              all_goals
                go_upto_region 16 with (first | (go_at_call 84; (with_reducible refine VC.mono ?_); rintro _ _ ⟨n2, rfl, rfl⟩) | (go_at_call 85; (with_reducible refine (WC.go _).mono ?_); rintro _ _ ⟨n3, rfl, rfl⟩) | (go_at_call 91; (with_reducible refine (HZ.go _).mono ?_); rintro _ _ ⟨n4, rfl, rfl⟩))
                refine cut_world (fun W5 hW => ?_)
                have s0 : W5.cell? ⟨wr.heap.size, 0, none⟩ = some (.int .i64 oK) := by rw [← hW]; simp [go_sem]
                have s1 : W5.cell? ⟨wr.heap.size, 1, none⟩ = some (.int .i64 (ops k).A) := by rw [← hW]; simp [go_sem]
                have s2 : W5.cell? ⟨wr.heap.size, 2, none⟩ = some (.int .i64 (ops k).B) := by rw [← hW]; simp [go_sem]
                have s3 : W5.cell? ⟨wr.heap.size, 3, none⟩ = some (.int .i64 (ops k).N) := by rw [← hW]; simp [go_sem]
                have s4 : W5.cell? ⟨wr.heap.size, 4, none⟩ = some (.float .f64 ((ops k).lo)) := by rw [← hW]; simp [go_sem]
                have s5 : W5.cell? ⟨wr.heap.size, 5, none⟩ = some (.float .f64 ((ops k).hi)) := by rw [← hW]; simp [go_sem]
                have y0 : W5.cell? ⟨n2.val.heap.size, 0, none⟩ = some (.float .f64 y1) := by rw [← hW]; simp [go_sem]
                have y1' : W5.cell? ⟨n2.val.heap.size, 1, none⟩ = some (.float .f64 y2) := by rw [← hW]; simp [go_sem]
                have bw5 : Below wr.heap.size wr W5 := by rw [← hW]; (repeat' first | (with_reducible first | exact Below.refl _ _ | assumption | refine Later.belowOf _ ?_ ?_ | refine Below.alloc ?_ ?_ _ | refine Below.setCell ?_ ?_ _ | refine Below.drewN' _ ?_ | refine Below.drew ?_ | exact Ge.le) | go_size)
                clear hW VC WC HZ h9 c0 c1 c2 c3 c4 c5
                have e5 := cellBelow bw5 e0
                haveI g5 : Ge W5 (w.heap.size + 1) := ⟨World.block_lt_of_cell? _ _ e5⟩
                clear e0
                generalize n2.val.heap.size = yb at *
                go_upto_region 17 with (at_make; refine wpList_make_own _ rfl _ _ 46 rfl W5.heap.size 24 i0 (.agg #[.float .f64 0, .float .f64 0]) 2 Tryz.underlying46 hi hz0 hz1 _ _ _ nx rfl rfl rfl (by rw [hz2]; omega) (by unfold maxLen; omega) (Nat.le_refl _) ?_; intro w6 hown6 hg6)
                have bw6 : Below W5.heap.size W5 w6 := (Below.refl _ _).grown hg6 (Nat.le_refl _) (fun k hk => by cases hk)
                have e6 := cellBelow bw6 e5
                haveI g6 : Ge w6 (w.heap.size + 1) := ⟨World.block_lt_of_cell? _ _ e6⟩
                have HW5 := Lib.hid (show _ ∧ _ ∧ _ ∧ _ ∧ _ ∧ _ ∧ _ ∧ _ ∧ _ ∧ _ from ⟨s0, s1, s2, s3, s4, s5, y0, y1', bw5, bw6⟩)
                clear hg6 s0 s1 s2 s3 s4 s5 y0 y1' bw5 e5
                obtain ⟨wo, hwo⟩ : ∃ wo : World, wo = wr := ⟨_, rfl⟩
                subst hwo
                go_wp2
                go_loopw [60, 14] (fun i r wi => RowInv w6 W5.heap.size (slF ops xs k) nx i r wi) (fun i _ _ => nx - (intOf i).toNat)
                case atStart => exact ⟨0, rfl, Nat.zero_le _, ⟨fun i hi => by omega, hown6⟩, fun l hl => by omega, Below.refl _ _⟩
                case round =>
                  clear hown6
                  obtain ⟨j, rfl, hj, hrow, hwide, hbi⟩ := hrel
                  obtain ⟨s0, s1, s2, s3, s4, s5, y0, y1', bw5, bw6⟩ := HW5.out
                  have hb6i : Below W5.heap.size W5 wr := bw6.trans hbi
                  have Bw : Below wo.heap.size wo wr := bw5.trans (hb6i.mono bw5.size)
                  have q0 := cellBelow hb6i s0
                  have q1 := cellBelow hb6i s1
                  have q2 := cellBelow hb6i s2
                  have q3 := cellBelow hb6i s3
                  have q4 := cellBelow hb6i s4
                  have q5 := cellBelow hb6i s5
                  have z0 := cellBelow hb6i y0
                  have z1 := cellBelow hb6i y1'
                  have e7 := cellB hbi e6 (by have := g5.le; omega)
                  haveI k1 : Ge wr (w.heap.size + 1) := ⟨World.block_lt_of_cell? _ _ e7⟩
                  haveI k2 : Ge wr (wo.heap.size + 1) := ⟨World.block_lt_of_cell? _ _ q0⟩
                  haveI k3 : Ge wr (yb + 1) := ⟨World.block_lt_of_cell? _ _ z0⟩
                  haveI k4 : Ge wr W5.heap.size := ⟨hb6i.size⟩
                  have hw3 : Below w.heap.size w wr := hwr.trans (Bw.mono hwr.size)
                  clear s0 s1 s2 s3 s4 s5 y0 y1'
                  by_cases hjm : j < nx
                  · have TS := HTS.out.1 j hjm wr Bw
                    rw [← HTS.out.2 j, HY.out.1, HK.out] at TS
                    have ls : Lt (slF ops xs k j) := HLT.out.2 j k hkn
                    have WS := wide_c ls
                    obtain ⟨wj, hwj⟩ : ∃ b, wideB (slF ops xs k j) = b := ⟨_, rfl⟩
                    rw [hwj] at WS
                    obtain ⟨sl, hsl⟩ : ∃ z, slF ops xs k j = z := ⟨_, rfl⟩
                    rw [hsl] at TS WS
                    have HS := Lib.hid (show _ ∧ _ ∧ _ from ⟨hwj, hsl, hsl ▸ ls⟩)
                    have HI := Lib.hid (show _ ∧ _ ∧ _ ∧ _ from ⟨hrow, hwide, hbi, hw3⟩)
                    clear hwj hsl ls hrow hwide hbi bw5 bw6 hb6i Bw hw3
                    obtain ⟨p1, p2⟩ := sl
                    simp only at TS WS
                    have j0 : (j : Int) < (nx : Int) := by omega
                    cases wj
                    · go_upto_region 23 with (first | (go_at_call 92; (with_reducible refine TS.mono ?_); rintro _ _ ⟨n7, rfl, rfl⟩) | (go_at_call 85; (with_reducible refine (WS.go _).mono ?_); rintro _ _ ⟨n8, rfl, rfl⟩))
                      have hle := k4.le
                      have b8 : Below wr.heap.size wr n8.val := by (repeat' first | (with_reducible first | exact Below.refl _ _ | assumption | refine Later.belowOf _ ?_ ?_ | refine Below.alloc ?_ ?_ _ | refine Below.setCell ?_ ?_ _ | refine Below.drewN' _ ?_ | refine Below.drew ?_ | exact Ge.le) | go_size)
                      have hrow8 := OwnIv.below HI.out.1 b8
                      have hb8 : Below W5.heap.size w6 n8.val := HI.out.2.2.1.trans (b8.mono hle)
                      have hle8 : W5.heap.size ≤ n8.val.heap.size := Nat.le_trans hle b8.size
                      have HB8 := Lib.hid hb8
                      clear hb8 b8 TS WS
                      go_wp2_with (at_builtin; refine wpList_append_iv n8.val rfl (.tmp 71) (.tmp 73) rfl W5.heap.size _ (slF ops xs k) j p1 p2 rfl rfl hrow8 HS.out.2.1 HS.out.2.2 (by omega) hle8 ?_; intro r9 w9 hown9 hb9)
                      go_roundw
                      case rel =>
                        refine ⟨j + 1, by go_num, hjm, hown9, fun l hl => ?_, HB8.out.trans hb9⟩
                        rcases Nat.lt_succ_iff_lt_or_eq.1 hl with h | h
                        · exact HI.out.2.1 l h
                        · rw [h]; exact HS.out.1
                      case measure => simp [intOf]; omega
                    · have HE := Lib.hid (HEZ.out.2 5 (by decide) (by rw [HEZ.out.1, if_pos (anyB_iff.2 ⟨j, hjm, HS.out.1⟩)]))
                      go_wp2_with (first | (go_at_call 92; (with_reducible refine TS.mono ?_); rintro _ _ ⟨n7, rfl, rfl⟩) | (go_at_call 85; (with_reducible refine (WS.go _).mono ?_); rintro _ _ ⟨n8, rfl, rfl⟩))
                      go_ret3
                      have hw3 := HI.out.2.2.2
                      exact ⟨_, _, by rw [HE.out]; rfl, fun _ => ⟨rfl, rfl⟩, fun h => absurd (HE.out.symm.trans h) (by decide), hw3.trans (Below.mono (B := wr.heap.size) (by (repeat' first | (with_reducible first | exact Below.refl _ _ | assumption | refine Later.belowOf _ ?_ ?_ | refine Below.alloc ?_ ?_ _ | refine Below.setCell ?_ ?_ _ | refine Below.drewN' _ ?_ | refine Below.drew ?_ | exact Ge.le) | go_size)) hw3.size)⟩
                  · obtain rfl : j = nx := by omega
                    obtain ⟨hown, her, hbel, _⟩ := HR.out
                    have hA : Below wr.heap.size wr (wr.alloc (.cells #[(.float .f64 y1), (.float .f64 y2)] 24)) := (Below.refl _ _).alloc (Nat.le_refl _) _
                    have hown5 := Own3.below (Own3.below hown Bw) hA
                    have hrowA := OwnIv.below hrow hA
                    obtain ⟨Ar, cr, rfl, hr1, hr2⟩ := hrow.ivs
                    have hvb := fun g h => Nat.lt_of_lt_of_le (own_lt hown.iv.2 g h).2 bw5.size
                    obtain ⟨R, hRo, hRi⟩ := hown.ex
                    have hdb := fun g h => Nat.lt_of_lt_of_le (own_lt hRo g h).2 bw5.size
                    have hbA : Below n1.val.heap.size n1.val (wr.alloc (.cells #[(.float .f64 y1), (.float .f64 y2)] 24)) := (hbel.trans (Bw.mono hbel.size)).trans (hA.mono (Nat.le_trans hbel.size Bw.size))
                    have hle5 := hbA.size
                    have hgn : gErr ops xs j (k + 1) = 0 := gErr_on her (by
                      rw [HEZ.out.1, if_neg]
                      intro h
                      obtain ⟨l, hl, h2⟩ := anyB_iff.1 h
                      rw [hwide l hl] at h2; cases h2)
                    have HA := Lib.hid (show _ ∧ _ from ⟨hgn, hbA⟩)
                    have hk3 : k ≤ 3000000 := by omega
                    clear hgn hbA hA hrow hr1 hr2 hRi hRo hown her hbel bw5 bw6 hb6i Bw hw3 hwide hbi
                    go_wp2_with (first
                      | (at_builtin; refine wpList_append_3 rfl rfl rfl rfl (heap_alloc_new _ _) hown5 HY.out.1 HY.out.2 hk3 hle5 ?_; intro g1 cap1 w7 hown7 hb7 hat7 hg7; have hr7 := after_y (k := k + 1) (cap1 := cap1) hrowA hvb hdb hg7 hat7 (.cells #[.slice Ar j cr] 46); have hown8 := Own3.below hown7 (w' := w7.alloc (.cells #[.slice Ar j cr] 46)) ((Below.refl _ _).alloc (Nat.le_refl _) _); have hle8 : n1.val.heap.size ≤ (w7.alloc (.cells #[.slice Ar j cr] 46)).heap.size := (by have := hb7.size; simp only [World.size_alloc] at this hle5 ⊢; omega))
                      | (at_builtin; refine wpList_append_d rfl rfl rfl rfl (heap_alloc_new _ _) hown8 hr7.1 hr7.2 hk3 hle8 ?_; intro g2 cap2 w9 hown9 hb9))
                    go_roundw
                    case rel => exact ⟨k + 1, by go_num, hkn, hown9, HA.out.1, HA.out.2.trans (hb7.trans (((Below.refl n1.val.heap.size w7).alloc (by have := hb7.size; simp only [World.size_alloc] at this hle5 ⊢; omega) _).trans hb9))⟩
                    case measure => simp [intOf]; omega
          · have HE := Lib.hid (stop 5 (by decide) HEY.out)
            rw [HE.out]
            clear stop
            go_wp2_with (first | (go_at_call 84; (with_reducible refine VC.mono ?_); rintro _ _ ⟨n2, rfl, rfl⟩) | (go_at_call 85; (with_reducible refine (WC.go _).mono ?_); rintro _ _ ⟨n3, rfl, rfl⟩))
            go_ret3
            exact ⟨_, _, rfl, fun _ => ⟨rfl, rfl⟩, fun h => absurd h (by decide), by have := hwr; (repeat' first | (with_reducible first | exact Below.refl _ _ | assumption | refine Later.belowOf _ ?_ ?_ | refine Below.alloc ?_ ?_ _ | refine Below.setCell ?_ ?_ _ | refine Below.drewN' _ ?_ | refine Below.drew ?_ | exact Ge.le) | go_size)⟩
      · obtain rfl : k = nO := by omega
        obtain ⟨hown, her, hbel, hwr⟩ := HR.out
        have HE0 := Lib.hid her
        have d2' := cellBelow hbel d2
        obtain ⟨Ad, cd, hde, hnd, hAd⟩ := hown.rows (by omega)
        obtain ⟨Av, cv, hve, hnk, hAv⟩ := hown.iv.ivs
        subst hde hve
        have HV2 := Lib.hid hAv
        have HD2 := Lib.hid hAd
        have HW := Lib.hid hwr
        clear hAv hAd hown her hbel hkn HR d0 d2 bww hwr e0
        go_wp2
        obtain ⟨W2, hW2⟩ : ∃ W2 : World, W2 = wr := ⟨_, rfl⟩
        subst hW2
        go_loopw [88, 17, 18] (fun i v d wr => GOutInv W2 (outF ops outs xs) (outD ops outs xs) nN nx i v d wr) (fun i _ _ _ => nN - (intOf i).toNat)
        case atStart => exact ⟨0, rfl, Nat.zero_le _, own3_nil _ _ _ _ _, Below.refl _ _⟩
        case round =>
          obtain ⟨j, rfl, hj, ho2, hbel2⟩ := hrel
          have hj2 : (j : Int) ≤ 400 := by omega
          by_cases hjn : j < nN
          · obtain ⟨b, o, eA, c0⟩ := HN2.out j hjn
            subst eA
            have c0 := cellBelow (HW.out.trans (hbel2.mono HW.out.size)) c0
            have hbad := HT6.out j hjn
            unfold badO at hbad
            rw [Bool.or_eq_false_iff, decide_eq_false_iff_not, decide_eq_false_iff_not] at hbad
            obtain ⟨h3, h4⟩ := hbad
            have hyj : outF ops outs xs j = evF ops xs (outs j).toNat := rfl
            have hdj : outD ops outs xs j = slF ops xs (outs j).toNat := rfl
            generalize outs j = oj at *
            obtain ⟨i, rfl⟩ := Int.eq_ofNat_of_zero_le (show 0 ≤ oj by omega)
            have hik : i < k := by omega
            obtain ⟨bv, ov, eV, lv, v0, v1⟩ := HV2.out i hik
            obtain ⟨gd, od, r, eD, e0, hr⟩ := HD2.out i hik
            subst eV eD
            rw [Int.toNat_natCast] at hyj hdj
            rw [← hdj] at hr
            have hrk := hr
            obtain ⟨Ar, cr, rfl, hr1, hr2⟩ := hr
            have qb : bv < W2.heap.size := World.block_lt_of_cell? _ _ v0
            have qd : gd < W2.heap.size := World.block_lt_of_cell? _ _ e0
            have v0 := cellBelow hbel2 v0
            have v1 := cellBelow hbel2 v1
            have e0 := cellBelow hbel2 e0
            have i0' : (0 : Int) ≤ (i : Int) := by omega
            have i1 : (i : Int) < (k : Int) := by omega
            generalize evF ops xs i = y at *
            obtain ⟨y1, y2⟩ := y
            have HYJ := Lib.hid (show _ ∧ _ from ⟨hyj, hrk⟩)
            have HB2 := Lib.hid hbel2
            have hsz2 := hbel2.size
            clear hyj hbel2 h3 h4 hdj hrk hr1 hr2
            go_wp2_with (fail)
            haveI gw2 : Ge wr W2.heap.size := ⟨hsz2⟩
            go_region_held3 (fun w' => w'.cell? ⟨bv, ov + i * 2, none⟩ = some (.float .f64 y1) ∧ w'.cell? ⟨bv, ov + i * 2 + 1, none⟩ = some (.float .f64 y2) ∧ w'.cell? ⟨gd, od + i, none⟩ = some (.slice Ar nx cr))
              (first
                | go_keep
                | (go_split_ands; refine ⟨?_, ?_, ?_⟩
                   · (rw [hb5.cell qb]; assumption)
                   · (rw [hb5.cell qb]; assumption)
                   · (rw [hb5.cell qd]; assumption))
                | (go_split_ands; refine ⟨?_, ?_, ?_⟩
                   · (rw [hb6.cell qb5]; assumption)
                   · (rw [hb6.cell qb5]; assumption)
                   · (rw [hb6.cell qd5]; assumption))
                | (go_split_ands; refine ⟨?_, ?_, ?_⟩
                   · (rw [hb8.cell qb]; assumption)
                   · (rw [hb8.cell qb]; assumption)
                   · (rw [hb8.cell qd]; assumption)))
              (first
                | (refine step_append_3 (fr := (0, 0)) rfl (by rfl) (by rfl) (by rfl) (by (repeat' (first | (with_reducible refine at_drew ?_) | (with_reducible refine at_new ?_; (first | rfl | (simp; done))) | (with_reducible refine at_old ?_)))) (Own3.below ho2 (by (repeat' first | (with_reducible first | exact Below.refl _ _ | assumption | refine Later.belowOf _ ?_ ?_ | refine Below.alloc ?_ ?_ _ | refine Below.setCell ?_ ?_ _ | refine Below.drewN' _ ?_ | refine Below.drew ?_ | exact Ge.le) | go_size))) HYJ.out.1 lv (by omega) (by first | omega | (simp; omega)) ?_; intro g1 cap1 w5 ho5 hb5 hat5 hg5; have hw25 : Below W2.heap.size W2 w5 := HB2.out.trans (Below.trans (by (repeat' first | (with_reducible first | exact Below.refl _ _ | assumption | refine Later.belowOf _ ?_ ?_ | refine Below.alloc ?_ ?_ _ | refine Below.setCell ?_ ?_ _ | refine Below.drewN' _ ?_ | refine Below.drew ?_ | exact Ge.le) | go_size)) hb5); have CL := clone_own (HYJ.out.2.below hw25) (by omega); have qb5 := Nat.lt_of_lt_of_le qb hw25.size; have qd5 := Nat.lt_of_lt_of_le qd hw25.size)
                | (go_at_call 93; refine CL.mono ?_; rintro _ w6 ⟨u6, rfl, hu6, hb6⟩; have hfr := fresh_row ho5 hu6 hb6 (.cells #[u6] 46); have hs8 : W2.heap.size ≤ (w6.alloc (.cells #[u6] 46)).heap.size := (by have := hw25.size; have := hb6.size; simp; omega); obtain ⟨Au, cu, rfl, _, _⟩ := hu6.ivs)
                | (refine step_append_d (fr := (0, 0)) rfl (by rfl) (by rfl) (by rfl) (by (repeat' (first | (with_reducible refine at_drew ?_) | (with_reducible refine at_new ?_; (first | rfl | (simp; done))) | (with_reducible refine at_old ?_)))) hfr.1 hfr.2.1 hfr.2.2 (by omega) hs8 ?_; intro g2 cap2 w8 ho8 hb8))
            all_goals
              have hb18 : Below W2.heap.size W2 w8 := (hw25.trans (hb6.mono hw25.size)).trans (((Below.refl W2.heap.size w6).alloc (Nat.le_trans hw25.size hb6.size) _).trans hb8)
              have HB18 := Lib.hid hb18
              clear hb18
              go_wp2
              go_roundw
              case rel => exact ⟨j + 1, by go_num, hjn, ho8, HB18.out⟩
              case measure => simp [intOf]; omega
          · obtain rfl : j = nN := by omega
            have hwr := HW.out
            go_wp2
            go_ret3
            exact ⟨_, _, by rw [HE0.out]; rfl, fun h => absurd HE0.out h, fun _ => ⟨ho2.iv.ivs, ho2.rows (by omega)⟩, hwr.trans (hbel2.mono hwr.size)⟩
  · rw [if_pos (by simpa using hs)]
    obtain ⟨E, hE⟩ : ∃ E, startE V nO ops nN outs xs nx = E := ⟨_, rfl⟩
    rw [hE] at ST hs ⊢
    clear hO hN hx b0 hE
    go_enter Tryz.func36, Tryz.ntmps36
    go_wp2_with (go_at_call 83; (with_reducible refine ST.mono ?_); rintro _ _ ⟨n1, rfl, rfl⟩)
    go_ret3
    exact ⟨_, _, rfl, fun _ => ⟨rfl, rfl⟩, fun h => absurd h hs, by (repeat' first | (with_reducible first | exact Below.refl _ _ | assumption | refine Later.belowOf _ ?_ ?_ | refine Below.alloc ?_ ?_ _ | refine Below.setCell ?_ ?_ _ | refine Below.drewN' _ ?_ | refine Below.drew ?_ | exact Ge.le) | go_size)⟩
end Go.Proofs.YtpkgpkabmechkaaGreat
