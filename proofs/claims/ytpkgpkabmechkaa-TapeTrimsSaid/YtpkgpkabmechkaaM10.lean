/- Operations that may be: the map's sameness and the reference's are one. -/
import Derived.Test.YtpkgpkabmechkaaM9
namespace Go.Proofs.Ytpkgpkabmechkaa
set_option linter.unusedSimpArgs false
set_option linter.unusedVariables false
open Go.RowKit
open Fl

def okB (x : Nat) : Prop := x < 18446744073709551616 ∧ nan x = false ∧ plusB x = true
theorem okB_zero : okB 0 := ⟨by decide, by decide, by rw [plusB_eq (by decide)]; decide⟩
theorem okB_feq {x y : Nat} (hx : okB x) (hy : okB y) (h : feq x y = true) : x = y := by
  obtain ⟨lx, nx, px⟩ := hx
  obtain ⟨ly, ny, py⟩ := hy
  rw [plusB_eq lx] at px
  rw [plusB_eq ly] at py
  obtain ⟨_, _, hi⟩ := feq_true.1 h
  have zx : idx x = 0 → x = 0 := fun e => by
    have : feq x 0 = true := feq_true.2 ⟨nx, by decide, by rw [e]; decide⟩
    rw [this] at px
    have h2 : ((x : Int) == 0) = true := by simpa using px
    have h3 : (x : Int) = 0 := by simpa using h2
    omega
  have zy : idx y = 0 → y = 0 := fun e => by
    have : feq y 0 = true := feq_true.2 ⟨ny, by decide, by rw [e]; decide⟩
    rw [this] at py
    have h2 : ((y : Int) == 0) = true := by simpa using py
    have h3 : (y : Int) = 0 := by simpa using h2
    omega
  by_cases e : idx x = 0
  · rw [zx e, zy (by rw [← hi]; exact e)]
  · unfold idx at hi e
    unfold sgn rung at hi e
    simp only [beq_iff_eq] at hi e
    unfold SW at hi e
    split at hi <;> split at hi <;> omega
theorem okB_same {x y : Nat} (hx : okB x) (hy : okB y) : sameB x y = feq x y := by
  unfold sameB
  rw [hx.2.1, hy.2.1]
  simp only [Bool.or_self, Bool.false_eq_true, if_false]
  by_cases e : x = y
  · subst e
    rw [feq_self, hx.2.1]
    simp
  · have h1 : ((x : Int) == (y : Int)) = false := by simp; omega
    rw [h1]
    cases hf : feq x y
    · rfl
    · exact absurd (okB_feq hx hy hf) e
def okT (o : OpT) : Prop := okB o.lo ∧ okB o.hi
theorem sameR_eq {o p : OpT} (ho : okT o) (hp : okT p) : sameR o p = sameT o p := by
  unfold sameR sameT
  rw [okB_same ho.1 hp.1, okB_same ho.2 hp.2]
theorem okB_none {a b : Nat} (la : a < 18446744073709551616) (lb : b < 18446744073709551616) (h : noneB a b = false) : okB a ∧ okB b := by
  unfold noneB at h
  rw [Bool.or_eq_false_iff] at h
  obtain ⟨h1, h2⟩ := h
  have h1 : rightB a b = true := by simpa using h1
  rw [rightB_eq] at h1
  unfold eqI at h2
  rw [h2] at h1
  simp only [Bool.false_or, Bool.and_eq_true] at h1
  obtain ⟨f1, _, _, p1, p2⟩ := h1
  have f2 := f1
  unfold fle at f1
  simp only [Bool.and_eq_true, Bool.not_eq_true'] at f1
  exact ⟨⟨la, f1.1.1, p1⟩, ⟨lb, f1.1.2, p2⟩⟩
theorem okT_sub {o : OpT} {i : Nat} {V : Int} {ix : Nat → Int} (h : opR o i V) (l1 : o.lo < 18446744073709551616) (l2 : o.hi < 18446744073709551616) : okT (subT o ix) := by
  obtain ⟨K, A, B, N, lo, hi⟩ := o
  unfold okT subT bareT
  simp only at l1 l2 ⊢
  by_cases hk : K = 1
  · subst hk
    have := (OpR_1 ..).1 h
    simp only [if_true]
    exact okB_none l1 l2 this
  · rw [if_neg hk, if_neg hk]
    exact ⟨okB_zero, okB_zero⟩
theorem trU_ok {u : Nat → Bool} {ops : Nat → OpT} {n : Nat} {V : Int} (h : ∀ i, i < n → opR (ops i) i V) (l : ∀ i, i < n → (ops i).lo < 18446744073709551616 ∧ (ops i).hi < 18446744073709551616) : ∀ k, k ≤ n → ∀ p ∈ (trU u ops k).L, okT p
  | 0, _, p, hp => by simp [trU] at hp
  | k + 1, hk, p, hp => by
    have ih := trU_ok (u := u) h l k (by omega)
    rcases hu : u k with _ | _
    · rw [trU_skip hu] at hp; exact ih p hp
    · rcases hf : findT (subT (ops k) (trU u ops k).ix) (trU u ops k).L with _ | j
      · rw [trU_new hu hf] at hp
        rcases List.mem_append.1 hp with hp | hp
        · exact ih p hp
        · simp at hp; subst hp
          exact okT_sub (h k (by omega)) (l k (by omega)).1 (l k (by omega)).2
      · rw [trU_old hu hf] at hp; exact ih p hp

/-- The search of the reference. -/
def fndR (p : OpT) (L : List OpT) : Nat → Int
  | 0 => -1
  | j + 1 => if fndR p L j < 0 then (if sameR p (listF L j) = true then (j : Int) else -1) else fndR p L j
theorem fndR_ge (p : OpT) (L : List OpT) (j : Nat) : -1 ≤ fndR p L j := by
  induction j with
  | zero => show (-1 : Int) ≤ -1; omega
  | succ j ih => unfold fndR; repeat' split; all_goals omega
theorem fndR_take (p : OpT) (L : List OpT) : ∀ j, j ≤ L.length → fndR p L j = match (L.take j).findIdx? (sameR p) with | some q => (q : Int) | none => -1
  | 0, _ => by simp [fndR]
  | j + 1, h => by
    have ih := fndR_take p L j (by omega)
    have e : listF L j = L[j]'(by omega) := by unfold listF; rw [List.getD_eq_getElem?_getD, List.getElem?_eq_getElem (by omega), Option.getD_some]
    have ht : L.take (j + 1) = L.take j ++ [L[j]'(by omega)] := by rw [List.take_append_getElem]
    have hl : (L.take j).length = j := by rw [List.length_take]; omega
    unfold fndR
    rw [ih, ht, List.findIdx?_append, e]
    cases hq : (L.take j).findIdx? (sameR p) with
    | some q => simp; omega
    | none =>
      simp only [Option.none_or, List.findIdx?_cons, List.findIdx?_nil]
      cases hs : sameR p (L[j]'(by omega))
      · simp
      · simp only [Bool.false_eq_true, if_true, Option.map_some, Nat.zero_add, hl]
        rfl
theorem fndR_all {p : OpT} {L : List OpT} (hp : okT p) (hL : ∀ q ∈ L, okT q) : fndR p L L.length = match findT p L with | some q => (q : Int) | none => -1 := by
  rw [fndR_take p L _ (Nat.le_refl _), List.take_length]
  have e : L.findIdx? (sameR p) = L.findIdx? (sameT p) := by
    induction L with
    | nil => rfl
    | cons q L ih =>
      rw [List.findIdx?_cons, List.findIdx?_cons, sameR_eq hp (hL q (by simp)), ih (fun r hr => hL r (by simp [hr]))]
  rw [e]; rfl
end Go.Proofs.Ytpkgpkabmechkaa
