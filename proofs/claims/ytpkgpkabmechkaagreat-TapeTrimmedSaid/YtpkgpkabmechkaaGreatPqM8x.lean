/- Contracts: what the reference's trimming needs: needed, same. -/
import Derived.Test.YtpkgpkabmechkaaGreatPqM4x
namespace Go.Proofs.YtpkgpkabmechkaaGreat
set_option linter.unusedSimpArgs false
set_option linter.unusedVariables false
open Go.RowKit
open Fl

end Go.Proofs.YtpkgpkabmechkaaGreat

/- Contracts: what the reference says is needed. -/
namespace Go.Proofs.YtpkgpkabmechkaaGreat
set_option linter.unusedSimpArgs false
set_option linter.unusedVariables false
open Go.RowKit
open Fl

def bitI (b : Bool) : Int := if b then 1 else 0
structure NW (Wm : World) (S nO : Nat) (u : Nat → Bool) (W : World) : Prop where
  row : RowB W S (fun j => .int .i64 (bitI (u j))) nO
  bel : Below S Wm W
namespace NW
variable {Wm W W' : World} {S nO : Nat} {u : Nat → Bool}
end NW

end Go.Proofs.YtpkgpkabmechkaaGreat

/- Operations that may be: the map's sameness and the reference's are one. -/
namespace Go.Proofs.YtpkgpkabmechkaaGreat
set_option linter.unusedSimpArgs false
set_option linter.unusedVariables false
open Go.RowKit
open Fl

def okB (x : Nat) : Prop := x < 18446744073709551616 ∧ nan x = false ∧ plusB x = true
theorem okB_zero : okB 0 := ⟨by decide, by decide, by rw [plusB_eq (by decide)]; decide⟩
theorem okB_feq {x y : Nat} (hx : okB x) (hy : okB y) (h : feq x y = true) : x = y := by
  obtain ⟨lx, nx, px⟩ := hx
  obtain ⟨ly, ny, py⟩ := hy
  rw [plusB_eq lx] at px
  rw [plusB_eq ly] at py
  obtain ⟨_, _, hi⟩ := feq_true.1 h
  have zx : idx x = 0 → x = 0 := fun e => by
    have : feq x 0 = true := feq_true.2 ⟨nx, by decide, by rw [e]; decide⟩
    rw [this] at px
    have h2 : ((x : Int) == 0) = true := by simpa using px
    have h3 : (x : Int) = 0 := by simpa using h2
    omega
  have zy : idx y = 0 → y = 0 := fun e => by
    have : feq y 0 = true := feq_true.2 ⟨ny, by decide, by rw [e]; decide⟩
    rw [this] at py
    have h2 : ((y : Int) == 0) = true := by simpa using py
    have h3 : (y : Int) = 0 := by simpa using h2
    omega
  by_cases e : idx x = 0
  · rw [zx e, zy (by rw [← hi]; exact e)]
  · unfold idx at hi e
    unfold sgn rung at hi e
    simp only [beq_iff_eq] at hi e
    unfold SW at hi e
    split at hi <;> split at hi <;> omega
def okT (o : OpT) : Prop := okB o.lo ∧ okB o.hi
theorem okB_none {a b : Nat} (la : a < 18446744073709551616) (lb : b < 18446744073709551616) (h : noneB a b = false) : okB a ∧ okB b := by
  unfold noneB at h
  rw [Bool.or_eq_false_iff] at h
  obtain ⟨h1, h2⟩ := h
  have h1 : rightB a b = true := by simpa using h1
  rw [rightB_eq] at h1
  unfold eqI at h2
  rw [h2] at h1
  simp only [Bool.false_or, Bool.and_eq_true] at h1
  obtain ⟨f1, _, _, p1, p2⟩ := h1
  have f2 := f1
  unfold fle at f1
  simp only [Bool.and_eq_true, Bool.not_eq_true'] at f1
  exact ⟨⟨la, f1.1.1, p1⟩, ⟨lb, f1.1.2, p2⟩⟩
theorem okT_sub {o : OpT} {i : Nat} {V : Int} {ix : Nat → Int} (h : opR o i V) (l1 : o.lo < 18446744073709551616) (l2 : o.hi < 18446744073709551616) : okT (subT o ix) := by
  obtain ⟨K, A, B, N, lo, hi⟩ := o
  unfold okT subT bareT
  simp only at l1 l2 ⊢
  by_cases hk : K = 1
  · subst hk
    have := (OpR_1 ..).1 h
    simp only [if_true]
    exact okB_none l1 l2 this
  · rw [if_neg hk, if_neg hk]
    exact ⟨okB_zero, okB_zero⟩
theorem trU_ok {u : Nat → Bool} {ops : Nat → OpT} {n : Nat} {V : Int} (h : ∀ i, i < n → opR (ops i) i V) (l : ∀ i, i < n → (ops i).lo < 18446744073709551616 ∧ (ops i).hi < 18446744073709551616) : ∀ k, k ≤ n → ∀ p ∈ (trU u ops k).L, okT p
  | 0, _, p, hp => by simp [trU] at hp
  | k + 1, hk, p, hp => by
    have ih := trU_ok (u := u) h l k (by omega)
    rcases hu : u k with _ | _
    · rw [trU_skip hu] at hp; exact ih p hp
    · rcases hf : findT (subT (ops k) (trU u ops k).ix) (trU u ops k).L with _ | j
      · rw [trU_new hu hf] at hp
        rcases List.mem_append.1 hp with hp | hp
        · exact ih p hp
        · simp at hp; subst hp
          exact okT_sub (h k (by omega)) (l k (by omega)).1 (l k (by omega)).2
      · rw [trU_old hu hf] at hp; exact ih p hp

end Go.Proofs.YtpkgpkabmechkaaGreat

/- A trimmed tape: what is needed is closed; the trimmed tape may be; trimmed once more it stays (plain). -/
namespace Go.Proofs.YtpkgpkabmechkaaGreat
set_option linter.unusedSimpArgs false
set_option linter.unusedVariables false
open Go.RowKit
open Fl

/-! ### What is needed -/
theorem setF_true {u : Nat → Bool} {i j : Nat} (h : u j = true) : setF u i true j = true := by
  unfold setF; split; rfl; exact h
theorem stepU_mono {o : OpT} {i j : Nat} {u : Nat → Bool} (h : u j = true) : stepU o i u j = true := by
  unfold stepU
  split
  · split
    · exact setF_true (setF_true h)
    · exact setF_true h
  · exact h
theorem backU_mono {ops : Nat → OpT} {n : Nat} {u0 : Nat → Bool} {r j : Nat} (h : backU ops n u0 r j = true) : ∀ d, backU ops n u0 (r + d) j = true
  | 0 => h
  | d + 1 => stepU_mono (backU_mono h d)
/-- The arguments of an operation. -/
def argOf (o : OpT) (j : Nat) : Prop := (0 < needI o.K ∧ o.A.toNat = j) ∨ (1 < needI o.K ∧ o.B.toNat = j)
theorem arg_lt {o : OpT} {i j : Nat} {V : Int} (h : opR o i V) (ha : argOf o j) : j < i := by
  rcases op_need h with e | ⟨e, a1, a2⟩ | ⟨e, a1, a2, b1, b2⟩
  · rcases ha with ⟨h1, _⟩ | ⟨h1, _⟩ <;> omega
  · rcases ha with ⟨h1, h2⟩ | ⟨h1, _⟩ <;> omega
  · rcases ha with ⟨h1, h2⟩ | ⟨h1, h2⟩ <;> omega
theorem stepU_arg {o : OpT} {i j : Nat} {u : Nat → Bool} (hu : u i = true) (ha : argOf o j) : stepU o i u j = true := by
  unfold stepU
  rcases ha with ⟨h1, h2⟩ | ⟨h1, h2⟩
  · rw [if_pos ⟨hu, h1⟩]
    split
    · refine setF_true ?_
      rw [h2]; exact setF_same _ _ _
    · rw [h2]; exact setF_same _ _ _
  · rw [if_pos ⟨hu, by omega⟩, if_pos h1, h2]
    exact setF_same _ _ _
theorem stepU_cases {o : OpT} {i j : Nat} {u : Nat → Bool} (h : stepU o i u j = true) : u j = true ∨ (u i = true ∧ argOf o j) := by
  unfold stepU at h
  split at h
  · rename_i hc
    split at h
    · rename_i h1
      by_cases e : j = o.B.toNat
      · exact Or.inr ⟨hc.1, Or.inr ⟨h1, e.symm⟩⟩
      · rw [setF_other _ _ e] at h
        by_cases e2 : j = o.A.toNat
        · exact Or.inr ⟨hc.1, Or.inl ⟨hc.2, e2.symm⟩⟩
        · rw [setF_other _ _ e2] at h; exact Or.inl h
    · by_cases e2 : j = o.A.toNat
      · exact Or.inr ⟨hc.1, Or.inl ⟨hc.2, e2.symm⟩⟩
      · rw [setF_other _ _ e2] at h; exact Or.inl h
  · exact Or.inl h
section
variable {V : Int} {nO nN : Nat} {ops : Nat → OpT} {outs : Nat → Int}
theorem backU_high (ho : ∀ i, i < nO → opR (ops i) i V) {u0 : Nat → Bool} {j : Nat} : ∀ (r d : Nat), r + d ≤ nO → nO - r ≤ j → backU ops nO u0 (r + d) j = backU ops nO u0 r j
  | r, 0, _, _ => rfl
  | r, d + 1, h1, h2 => by
    have ih := backU_high ho (u0 := u0) (j := j) r d (by omega) h2
    rw [← ih]
    show stepU (ops (nO - 1 - (r + d))) (nO - 1 - (r + d)) (backU ops nO u0 (r + d)) j = _
    cases h : backU ops nO u0 (r + d) j
    · cases h' : stepU (ops (nO - 1 - (r + d))) (nO - 1 - (r + d)) (backU ops nO u0 (r + d)) j
      · rfl
      · rcases stepU_cases h' with h3 | ⟨_, h4⟩
        · rw [h] at h3; exact h3.symm ▸ rfl
        · have := arg_lt (ho _ (by omega)) h4
          omega
    · exact stepU_mono h
/-- What is needed is closed under arguments. -/
theorem need_arg (hT : TapeR V nO ops nN outs) {i j : Nat} (hi : i < nO) (hu : needF ops outs nO nN i = true) (ha : argOf (ops i) j) : needF ops outs nO nN j = true := by
  unfold needF at hu ⊢
  have e1 := backU_high hT.2.2.2.2.1 (u0 := outU outs nN) (j := i) (nO - 1 - i + 1) (nO - (nO - 1 - i + 1)) (by omega) (by omega)
  rw [show nO - 1 - i + 1 + (nO - (nO - 1 - i + 1)) = nO by omega] at e1
  rw [e1] at hu
  have hs : backU ops nO (outU outs nN) (nO - 1 - i + 1) = stepU (ops i) i (backU ops nO (outU outs nN) (nO - 1 - i)) := by
    show stepU (ops (nO - 1 - (nO - 1 - i))) (nO - 1 - (nO - 1 - i)) _ = _
    rw [show nO - 1 - (nO - 1 - i) = i by omega]
  rw [hs] at hu
  have hb : backU ops nO (outU outs nN) (nO - 1 - i) i = true := by
    rcases stepU_cases hu with h | ⟨h, h4⟩
    · exact h
    · exact h
  have h5 := stepU_arg hb ha
  rw [← hs] at h5
  have := backU_mono h5 (nO - (nO - 1 - i + 1))
  rwa [show nO - 1 - i + 1 + (nO - (nO - 1 - i + 1)) = nO by omega] at this
theorem outU_of {k q : Nat} (h : q < k) : outU outs k (outs q).toNat = true := by
  induction k with
  | zero => omega
  | succ k ih =>
    show setF (outU outs k) (outs k).toNat true (outs q).toNat = true
    by_cases e : q = k
    · subst e; exact setF_same _ _ _
    · exact setF_true (ih (by omega))
theorem outU_cases {k j : Nat} (h : outU outs k j = true) : ∃ q, q < k ∧ (outs q).toNat = j := by
  induction k with
  | zero => cases h
  | succ k ih =>
    by_cases e : j = (outs k).toNat
    · exact ⟨k, by omega, e.symm⟩
    · have h' : setF (outU outs k) (outs k).toNat true j = true := h
      rw [setF_other _ _ e] at h'
      obtain ⟨q, h1, h2⟩ := ih h'
      exact ⟨q, by omega, h2⟩
theorem need_out {q : Nat} (h : q < nN) : needF ops outs nO nN (outs q).toNat = true := by
  have := backU_mono (ops := ops) (n := nO) (u0 := outU outs nN) (r := 0) (outU_of h) nO
  rwa [Nat.zero_add] at this
theorem back_cases {u0 : Nat → Bool} {r j : Nat} (h : backU ops nO u0 r j = true) (hr : r ≤ nO) : u0 j = true ∨ ∃ i, i < nO ∧ backU ops nO u0 r i = true ∧ argOf (ops i) j := by
  induction r with
  | zero => exact Or.inl h
  | succ r ih =>
    rcases stepU_cases (show stepU (ops (nO - 1 - r)) (nO - 1 - r) (backU ops nO u0 r) j = true from h) with h1 | ⟨h1, h2⟩
    · rcases ih h1 (by omega) with h3 | ⟨i, h4, h5, h6⟩
      · exact Or.inl h3
      · exact Or.inr ⟨i, h4, backU_mono h5 1, h6⟩
    · exact Or.inr ⟨_, by omega, backU_mono h1 1, h2⟩
theorem need_cases {j : Nat} (h : needF ops outs nO nN j = true) : (∃ q, q < nN ∧ (outs q).toNat = j) ∨ ∃ i, i < nO ∧ needF ops outs nO nN i = true ∧ argOf (ops i) j := by
  rcases back_cases h (Nat.le_refl _) with h1 | h1
  · exact Or.inl (outU_cases h1)
  · exact Or.inr h1
end
end Go.Proofs.YtpkgpkabmechkaaGreat

/- A trimmed tape may be; its operations stand for those needed (plain). -/
namespace Go.Proofs.YtpkgpkabmechkaaGreat
set_option linter.unusedSimpArgs false
set_option linter.unusedVariables false
open Go.RowKit
open Fl

theorem sameT_eq {o p : OpT} (ho : okT o) (hp : okT p) : sameT o p = true ↔ o = p := by
  obtain ⟨K, A, B, N, lo, hi⟩ := o
  obtain ⟨K', A', B', N', lo', hi'⟩ := p
  unfold sameT
  constructor
  · intro h
    simp only [Bool.and_eq_true, decide_eq_true_eq] at h
    obtain ⟨h1, h2, h3, h4, h5, h6⟩ := h
    have e5 := okB_feq ho.1 hp.1 h5
    have e6 := okB_feq ho.2 hp.2 h6
    simp only at e5 e6
    rw [h1, h2, h3, h4, e5, e6]
  · intro h
    cases h
    have f1 : feq lo lo = true := by rw [feq_self, ho.1.2.1]; rfl
    have f2 : feq hi hi = true := by rw [feq_self, ho.2.2.1]; rfl
    simp [f1, f2]
theorem subT_congr {o : OpT} {ix ix' : Nat → Int} (h : ∀ j, argOf o j → ix j = ix' j) : subT o ix = subT o ix' := by
  unfold subT
  by_cases h0 : 0 < needI o.K
  · by_cases h1 : 1 < needI o.K
    · rw [if_pos h0, if_pos h1, if_pos h0, if_pos h1, h _ (Or.inl ⟨h0, rfl⟩), h _ (Or.inr ⟨h1, rfl⟩)]
    · rw [if_pos h0, if_neg h1, if_pos h0, if_neg h1, h _ (Or.inl ⟨h0, rfl⟩)]
  · have h1 : ¬ 1 < needI o.K := by omega
    rw [if_neg h0, if_neg h1, if_neg h0, if_neg h1]
/-- An operation may stand at m, if what it leans on stands ahead. -/
theorem opR_sub {o : OpT} {i m : Nat} {V : Int} {ix : Nat → Int} (h : opR o i V) (ha : ∀ j, argOf o j → 0 ≤ ix j ∧ ix j < m) : opR (subT o ix) m V := by
  have hn := op_need h
  obtain ⟨K, A, B, N, lo, hi⟩ := o
  have e : subT ⟨K, A, B, N, lo, hi⟩ ix = ⟨K, if 0 < needI K then ix A.toNat else 0, if 1 < needI K then ix B.toNat else 0, if K = 2 ∨ K = 8 then N else 0, if K = 1 then lo else 0, if K = 1 then hi else 0⟩ := rfl
  rw [e]
  unfold opR at h ⊢
  simp only at h hn ⊢
  have hA : 0 < needI K → 0 ≤ ix A.toNat ∧ ix A.toNat < m := fun h0 => ha _ (Or.inl ⟨h0, rfl⟩)
  have hB : 1 < needI K → 0 ≤ ix B.toNat ∧ ix B.toNat < m := fun h0 => ha _ (Or.inr ⟨h0, rfl⟩)
  rcases op_kinds K with k | k | k | k | k | k
  · subst k
    have := (OpR_1 ..).1 h
    rw [if_pos rfl, if_pos rfl]
    exact (OpR_1 ..).2 this
  · subst k
    have := (OpR_2 ..).1 h
    rw [if_pos (Or.inl rfl)]
    exact (OpR_2 ..).2 this
  · subst k
    obtain ⟨_, _, h3, h4⟩ := (OpR_8 ..).1 h
    have h0 : 0 < needI 8 := by decide
    rw [if_pos (Or.inr rfl), if_pos h0]
    exact (OpR_8 ..).2 ⟨(hA h0).1, (hA h0).2, h3, h4⟩
  · have e2 : needI K = 2 := by unfold needI; rw [if_neg (by omega), if_pos k]
    have h0 : 0 < needI K := by rw [e2]; decide
    have h1 : 1 < needI K := by rw [e2]; decide
    rw [if_pos h0, if_pos h1]
    exact (OpR_two k ..).2 ⟨(hA h0).1, (hA h0).2, (hB h1).1, (hB h1).2⟩
  · have e1 : needI K = 1 := by unfold needI; rw [if_neg (by omega), if_neg (by omega), if_pos (by omega)]
    have h0 : 0 < needI K := by rw [e1]; decide
    rw [if_pos h0]
    exact (OpR_one k ..).2 ⟨(hA h0).1, (hA h0).2⟩
  · exact absurd ((OpR_no k ..).1 h) id

theorem listF_get {L : List OpT} {m : Nat} (h : m < L.length) : listF L m = L[m] := by
  unfold listF; rw [List.getD_eq_getElem?_getD, List.getElem?_eq_getElem h, Option.getD_some]
theorem listF_snoc_old {L : List OpT} {p : OpT} {m : Nat} (h : m < L.length) : listF (L ++ [p]) m = listF L m := by
  rw [listF_get h, listF_get (by simp; omega), List.getElem_append_left h]
theorem listF_snoc_new {L : List OpT} {p : OpT} : listF (L ++ [p]) L.length = p := by
  rw [listF_get (by simp)]; simp
theorem findT_some {p : OpT} {L : List OpT} {j : Nat} (hp : okT p) (hL : ∀ q ∈ L, okT q) (h : findT p L = some j) : j < L.length ∧ listF L j = p := by
  unfold findT at h
  obtain ⟨h1, h2, _⟩ := List.findIdx?_eq_some_iff_getElem.1 h
  refine ⟨h1, ?_⟩
  rw [listF_get h1]
  exact ((sameT_eq hp (hL _ (List.getElem_mem h1))).1 h2).symm
theorem findT_none {p : OpT} {L : List OpT} (hp : okT p) (hL : ∀ q ∈ L, okT q) (h : findT p L = none) : ∀ q ∈ L, q ≠ p := by
  unfold findT at h
  rw [List.findIdx?_eq_none_iff] at h
  intro q hq e
  have := h q hq
  rw [(sameT_eq hp (hL q hq)).2 e.symm] at this
  cases this

structure TInv (u : Nat → Bool) (ops : Nat → OpT) (V : Int) (k : Nat) (s : TrS) : Prop where
  ixd : ∀ j, j < k → u j = true → 0 ≤ s.ix j ∧ (s.ix j).toNat < s.L.length ∧ listF s.L (s.ix j).toNat = subT (ops j) s.ix
  sur : ∀ m, m < s.L.length → ∃ j, j < k ∧ u j = true ∧ s.ix j = m
  rgt : ∀ m, m < s.L.length → opR (listF s.L m) m V
  dst : ∀ m m', m < s.L.length → m' < s.L.length → listF s.L m = listF s.L m' → m = m'

theorem trU_inv {u : Nat → Bool} {ops : Nat → OpT} {V : Int} {n : Nat} (ho : ∀ i, i < n → opR (ops i) i V) (hl : ∀ i, i < n → (ops i).lo < 18446744073709551616 ∧ (ops i).hi < 18446744073709551616)
    (hc : ∀ i j, i < n → u i = true → argOf (ops i) j → u j = true) : ∀ k, k ≤ n → TInv u ops V k (trU u ops k)
  | 0, _ => ⟨fun j h => by omega, fun m h => absurd h (by simp [trU]), fun m h => absurd h (by simp [trU]), fun m m' h => absurd h (by simp [trU])⟩
  | k + 1, hk => by
    have ih := trU_inv ho hl hc k (by omega)
    have hok := trU_ok (u := u) ho hl k (by omega)
    have hpo := okT_sub (ix := (trU u ops k).ix) (ho k (by omega)) (hl k (by omega)).1 (hl k (by omega)).2
    -- the arguments of needed operations are below k: the turn at k leaves them
    have hst : ∀ (v : Int) j, j < k + 1 → u j = true → subT (ops j) (setF (trU u ops k).ix k v) = subT (ops j) (trU u ops k).ix := fun v j hj _ =>
      subT_congr fun i hi => setF_other _ _ (by have := arg_lt (ho j (by omega)) hi; omega)
    rcases hu : u k with _ | _
    · rw [trU_skip hu]
      refine ⟨fun j hj huj => ih.ixd j (by rcases Nat.lt_succ_iff_lt_or_eq.1 hj with h | h; exact h; subst h; rw [hu] at huj; cases huj) huj, fun m hm => ?_, ih.rgt, ih.dst⟩
      obtain ⟨j, h1, h2⟩ := ih.sur m hm
      exact ⟨j, by omega, h2⟩
    · have hap : ∀ j, argOf (ops k) j → 0 ≤ (trU u ops k).ix j ∧ (trU u ops k).ix j < ((trU u ops k).L.length : Nat) := fun j hj => by
        have h1 := arg_lt (ho k (by omega)) hj
        obtain ⟨h2, h3, _⟩ := ih.ixd j h1 (hc k j (by omega) hu hj)
        omega
      have hpr := opR_sub (ho k (by omega)) hap
      rcases hf : findT (subT (ops k) (trU u ops k).ix) (trU u ops k).L with _ | q
      · rw [trU_new hu hf]
        have hn := findT_none hpo hok hf
        refine ⟨fun j hj huj => ?_, fun m hm => ?_, fun m hm => ?_, fun m m' hm hm' e => ?_⟩
        · rw [hst _ j hj huj]
          rcases Nat.lt_succ_iff_lt_or_eq.1 hj with h | h
          · obtain ⟨h1, h2, h3⟩ := ih.ixd j h huj
            simp only [setF_other _ _ (Nat.ne_of_lt h)]
            refine ⟨h1, by simp; omega, ?_⟩
            rw [listF_snoc_old h2, h3]
          · subst h
            simp only [setF_same]
            refine ⟨by omega, by simp, ?_⟩
            rw [Int.toNat_natCast, listF_snoc_new]
        · simp only [List.length_append, List.length_singleton] at hm
          rcases Nat.lt_succ_iff_lt_or_eq.1 hm with h | h
          · obtain ⟨j, h1, h2, h3⟩ := ih.sur m h
            exact ⟨j, by omega, h2, by simp only [setF_other _ _ (Nat.ne_of_lt h1)]; exact h3⟩
          · exact ⟨k, by omega, hu, by simp only [setF_same]; omega⟩
        · simp only [List.length_append, List.length_singleton] at hm
          rcases Nat.lt_succ_iff_lt_or_eq.1 hm with h | h
          · rw [listF_snoc_old h]; exact ih.rgt m h
          · subst h; rw [listF_snoc_new]; exact hpr
        · simp only [List.length_append, List.length_singleton] at hm hm'
          rcases Nat.lt_succ_iff_lt_or_eq.1 hm with h | h <;> rcases Nat.lt_succ_iff_lt_or_eq.1 hm' with h' | h'
          · rw [listF_snoc_old h, listF_snoc_old h'] at e; exact ih.dst m m' h h' e
          · subst h'
            rw [listF_snoc_old h, listF_snoc_new, listF_get h] at e
            exact absurd e (hn _ (List.getElem_mem h))
          · subst h
            rw [listF_snoc_old h', listF_snoc_new, listF_get h'] at e
            exact absurd e.symm (hn _ (List.getElem_mem h'))
          · omega
      · rw [trU_old hu hf]
        obtain ⟨hq, hq2⟩ := findT_some hpo hok hf
        refine ⟨fun j hj huj => ?_, fun m hm => ?_, ih.rgt, ih.dst⟩
        · rw [hst _ j hj huj]
          rcases Nat.lt_succ_iff_lt_or_eq.1 hj with h | h
          · simp only [setF_other _ _ (Nat.ne_of_lt h)]
            exact ih.ixd j h huj
          · subst h
            simp only [setF_same]
            exact ⟨by omega, by rw [Int.toNat_natCast]; exact hq, by rw [Int.toNat_natCast, hq2]⟩
        · obtain ⟨j, h1, h2, h3⟩ := ih.sur m hm
          exact ⟨j, by omega, h2, by simp only [setF_other _ _ (Nat.ne_of_lt h1)]; exact h3⟩
end Go.Proofs.YtpkgpkabmechkaaGreat

/- Trimmed once more, a trimmed tape stays (plain). -/
namespace Go.Proofs.YtpkgpkabmechkaaGreat
set_option linter.unusedSimpArgs false
set_option linter.unusedVariables false
open Go.RowKit
open Fl

theorem subT_bare (o : OpT) (ix : Nat → Int) : bareT (subT o ix) = subT o ix := by
  unfold subT bareT
  simp only
  congr 1 <;> (repeat' split) <;> first | rfl | (simp_all; done) | omega
/-- An operation without what it does not need, its arguments standing for themselves. -/
theorem subT_self {p : OpT} {ix : Nat → Int} (hb : bareT p = p) (ha : ∀ j, argOf p j → ix j = j) (hA : 0 < needI p.K → 0 ≤ p.A) (hB : 1 < needI p.K → 0 ≤ p.B) : subT p ix = p := by
  have e : subT p ix = { p with A := if 0 < needI p.K then ix p.A.toNat else 0, B := if 1 < needI p.K then ix p.B.toNat else 0 } := by
    show ({ bareT p with A := _, B := _ } : OpT) = _
    rw [hb]
  rw [e]
  have a1 : (bareT p).A = p.A := by rw [hb]
  have b1 : (bareT p).B = p.B := by rw [hb]
  unfold bareT at a1 b1
  simp only at a1 b1
  have e1 : (if 0 < needI p.K then ix p.A.toNat else 0) = p.A := by
    by_cases h : 0 < needI p.K
    · rw [if_pos h, ha _ (Or.inl ⟨h, rfl⟩)]
      have := hA h
      omega
    · rw [if_neg h] at a1 ⊢; exact a1
  have e2 : (if 1 < needI p.K then ix p.B.toNat else 0) = p.B := by
    by_cases h : 1 < needI p.K
    · rw [if_pos h, ha _ (Or.inr ⟨h, rfl⟩)]
      have := hB h
      omega
    · rw [if_neg h] at b1 ⊢; exact b1
  rw [e1, e2]
theorem args_pos {o : OpT} {i : Nat} {V : Int} (h : opR o i V) : (0 < needI o.K → 0 ≤ o.A) ∧ (1 < needI o.K → 0 ≤ o.B) := by
  rcases op_need h with e | ⟨e, a1, a2⟩ | ⟨e, a1, a2, b1, b2⟩
  · exact ⟨fun h => by omega, fun h => by omega⟩
  · exact ⟨fun h => a1, fun h => by omega⟩
  · exact ⟨fun h => a1, fun h => b1⟩

section
variable {V : Int} {nO nN : Nat} {ops : Nat → OpT} {outs : Nat → Int}
theorem trim_inv (hT : TapeR V nO ops nN outs) (hl : ∀ i, i < nO → (ops i).lo < 18446744073709551616 ∧ (ops i).hi < 18446744073709551616) :
    TInv (needF ops outs nO nN) ops V nO (trU (needF ops outs nO nN) ops nO) :=
  trU_inv hT.2.2.2.2.1 hl (fun i j hi hu ha => need_arg hT hi hu ha) nO (Nat.le_refl _)
theorem out_lt (hT : TapeR V nO ops nN outs) {j : Nat} (h : j < nN) : 0 ≤ outs j ∧ (outs j).toNat < nO := by
  have hb := hT.2.2.2.2.2 j h
  unfold badO at hb
  rw [Bool.or_eq_false_iff, decide_eq_false_iff_not, decide_eq_false_iff_not] at hb
  omega
theorem trim_right (hT : TapeR V nO ops nN outs) (hl : ∀ i, i < nO → (ops i).lo < 18446744073709551616 ∧ (ops i).hi < 18446744073709551616) :
    TapeR V (trimL ops outs nO nN).length (listF (trimL ops outs nO nN)) nN (trimO ops outs nO nN) := by
  have hi := trim_inv hT hl
  have hle : (trimL ops outs nO nN).length ≤ nO := trU_len _ _ _
  refine ⟨hT.1, hT.2.1, Nat.le_trans hle hT.2.2.1, hT.2.2.2.1, hi.rgt, fun j hj => ?_⟩
  obtain ⟨h1, h2⟩ := out_lt hT hj
  obtain ⟨h3, h4, _⟩ := hi.ixd _ h2 (need_out hj)
  unfold badO
  rw [Bool.or_eq_false_iff, decide_eq_false_iff_not, decide_eq_false_iff_not]
  unfold trimO trimL
  omega
theorem trim_bare (L : List OpT) {u : Nat → Bool} {k : Nat} : ∀ p ∈ (trU u ops k).L, bareT p = p := by
  induction k with
  | zero => intro p hp; simp [trU] at hp
  | succ k ih =>
    intro p hp
    rcases hu : u k with _ | _
    · rw [trU_skip hu] at hp; exact ih p hp
    · rcases hf : findT (subT (ops k) (trU u ops k).ix) (trU u ops k).L with _ | j
      · rw [trU_new hu hf] at hp
        rcases List.mem_append.1 hp with hp | hp
        · exact ih p hp
        · simp at hp; subst hp; exact subT_bare _ _
      · rw [trU_old hu hf] at hp; exact ih p hp
/-- All of a trimmed tape is needed. -/
theorem trim_need (hT : TapeR V nO ops nN outs) (hl : ∀ i, i < nO → (ops i).lo < 18446744073709551616 ∧ (ops i).hi < 18446744073709551616) :
    ∀ (d j : Nat), nO - j = d → j < nO → needF ops outs nO nN j = true → needF (listF (trimL ops outs nO nN)) (trimO ops outs nO nN) (trimL ops outs nO nN).length nN ((trU (needF ops outs nO nN) ops nO).ix j).toNat = true := by
  intro d
  induction d using Nat.strongRecOn with
  | _ d ih =>
    intro j hd hj hu
    have hi := trim_inv hT hl
    rcases need_cases hu with ⟨q, hq, e⟩ | ⟨i, h1, h2, h3⟩
    · have := need_out (ops := listF (trimL ops outs nO nN)) (outs := trimO ops outs nO nN) (nO := (trimL ops outs nO nN).length) hq
      unfold trimO at this ⊢
      rw [e] at this
      exact this
    · have hlt := arg_lt (hT.2.2.2.2.1 i h1) h3
      have h5 := ih (nO - i) (by omega) i rfl h1 h2
      obtain ⟨g1, g2, g3⟩ := hi.ixd i h1 h2
      refine need_arg (trim_right hT hl) g2 h5 ?_
      show argOf (listF (trU (needF ops outs nO nN) ops nO).L _) _
      rw [g3]
      rcases h3 with ⟨a, b⟩ | ⟨a, b⟩
      · refine Or.inl ⟨a, ?_⟩
        show (if 0 < needI (ops i).K then _ else _ : Int).toNat = _
        rw [if_pos a, b]
      · refine Or.inr ⟨a, ?_⟩
        show (if 1 < needI (ops i).K then _ else _ : Int).toNat = _
        rw [if_pos a, b]
/-- A tape of which all is needed, whose operations are bare and all unlike, is its own trimming. -/
theorem trU_id {u : Nat → Bool} {L : List OpT} {V : Int} (hu : ∀ m, m < L.length → u m = true) (hr : ∀ m, m < L.length → opR (listF L m) m V) (hb : ∀ p ∈ L, bareT p = p) (hok : ∀ p ∈ L, okT p) (hd : ∀ m m', m < L.length → m' < L.length → listF L m = listF L m' → m = m') :
    ∀ k, k ≤ L.length → (trU u (listF L) k).L = L.take k ∧ ∀ j, j < k → (trU u (listF L) k).ix j = j
  | 0, _ => ⟨by simp [trU], fun j h => by omega⟩
  | k + 1, hk => by
    obtain ⟨i1, i2⟩ := trU_id hu hr hb hok hd k (by omega)
    have hm : listF L k ∈ L := by rw [listF_get (by omega)]; exact List.getElem_mem _
    obtain ⟨pA, pB⟩ := args_pos (hr k (by omega))
    have hs : subT (listF L k) (trU u (listF L) k).ix = listF L k := subT_self (hb _ hm) (fun j hj => i2 j (arg_lt (hr k (by omega)) hj)) pA pB
    have hlk : (trU u (listF L) k).L.length = k := by rw [i1, List.length_take]; omega
    have hf : findT (subT (listF L k) (trU u (listF L) k).ix) (trU u (listF L) k).L = none := by
      rw [hs, i1]
      cases h : findT (listF L k) (L.take k) with
      | none => rfl
      | some q =>
        obtain ⟨h1, h2⟩ := findT_some (hok _ hm) (fun p hp => hok p (List.mem_of_mem_take hp)) h
        have hq : q < k := by rw [List.length_take] at h1; omega
        have h3 : listF (L.take k) q = listF L q := by rw [listF_get h1, listF_get (by omega), List.getElem_take]
        rw [h3] at h2
        have := hd q k (by omega) (by omega) h2
        omega
    rw [trU_new (hu k (by omega)) hf, hs]
    refine ⟨?_, fun j hj => ?_⟩
    · simp only [i1]
      rw [listF_get (by omega), List.take_append_getElem]
    · rcases Nat.lt_succ_iff_lt_or_eq.1 hj with h | h
      · simp only [setF_other _ _ (Nat.ne_of_lt h)]; exact i2 j h
      · subst h; simp only [setF_same]; rw [hlk]
theorem trim_all (hT : TapeR V nO ops nN outs) (hl : ∀ i, i < nO → (ops i).lo < 18446744073709551616 ∧ (ops i).hi < 18446744073709551616) (m : Nat) (hm : m < (trimL ops outs nO nN).length) :
    needF (listF (trimL ops outs nO nN)) (trimO ops outs nO nN) (trimL ops outs nO nN).length nN m = true := by
  obtain ⟨j, h1, h2, h3⟩ := (trim_inv hT hl).sur m hm
  have := trim_need hT hl _ j rfl h1 h2
  rw [h3, Int.toNat_natCast] at this
  exact this
theorem trim_ok (hT : TapeR V nO ops nN outs) (hl : ∀ i, i < nO → (ops i).lo < 18446744073709551616 ∧ (ops i).hi < 18446744073709551616) : ∀ p ∈ trimL ops outs nO nN, okT p :=
  trU_ok hT.2.2.2.2.1 hl nO (Nat.le_refl _)
/-- Trimmed once more it stays. -/
theorem trim_trim (hT : TapeR V nO ops nN outs) (hl : ∀ i, i < nO → (ops i).lo < 18446744073709551616 ∧ (ops i).hi < 18446744073709551616) :
    trimL (listF (trimL ops outs nO nN)) (trimO ops outs nO nN) (trimL ops outs nO nN).length nN = trimL ops outs nO nN ∧
    ∀ j, j < nN → trimO (listF (trimL ops outs nO nN)) (trimO ops outs nO nN) (trimL ops outs nO nN).length nN j = trimO ops outs nO nN j := by
  have hi := trim_inv hT hl
  have hr := trim_right hT hl
  obtain ⟨h1, h2⟩ := trU_id (trim_all hT hl) hi.rgt (trim_bare []) (trim_ok hT hl) hi.dst (trimL ops outs nO nN).length (Nat.le_refl _)
  refine ⟨?_, fun j hj => ?_⟩
  · show (trU _ _ _).L = _
    rw [h1, List.take_length]
  · obtain ⟨o1, o2⟩ := out_lt hr hj
    show (trU _ _ _).ix _ = _
    rw [h2 _ o2]
    omega
end
end Go.Proofs.YtpkgpkabmechkaaGreat
