/- Contracts: slices.Clone of intervals. -/
import Derived.Test.YtpkgpkabmechkaaGreatPqV9x
import Derived.Lib.SliceRun
namespace Go.Proofs.YtpkgpkabmechkaaGreat
set_option linter.unusedSimpArgs false
set_option linter.unusedVariables false
open Go.RowKit
open Fl

theorem ivs_newsC {w : World} {b o n c : Nat} {x : Nat → Nat × Nat} (h : IvsAt w (.slice (some ⟨b, o, none⟩) n c) x n) : ∀ j u, (ivCells x n)[j]? = some u → w.cell? ((⟨b, o, none⟩ : Addr).add j) = some u := by
  obtain ⟨A, c', e, hn, h⟩ := h
  cases e
  intro j u hu
  have hadd : (⟨b, o, none⟩ : Addr).add j = ⟨b, o + j, none⟩ := by unfold Addr.add; split <;> simp_all
  rw [hadd]
  have hj : j < n * 2 := by
    rcases Nat.lt_or_ge j (n * 2) with h1 | h1
    · exact h1
    · rw [List.getElem?_eq_none (by rw [ivCells_len]; exact h1)] at hu; cases hu
  obtain ⟨b', o', e, l, c0, c1⟩ := h (j / 2) (by omega)
  cases e
  obtain ⟨g0, g1⟩ := ivCells_get x (show j / 2 < n by omega)
  rcases Nat.mod_two_eq_zero_or_one j with h2 | h2
  · have e2 : j / 2 * 2 = j := by omega
    rw [e2] at c0 g0
    rw [g0] at hu; cases hu; exact c0
  · have e2 : j / 2 * 2 + 1 = j := by omega
    have e3 : o + j / 2 * 2 + 1 = o + j := by omega
    rw [e3] at c1
    rw [e2] at g1
    rw [g1] at hu; cases hu; exact c1
theorem ivCells_oneC (x : Nat → Nat × Nat) (n : Nat) : ∀ u ∈ ivCells x n, u.oneCell' = true := by
  intro u hu
  unfold ivCells at hu
  rw [List.mem_flatMap] at hu
  obtain ⟨i, _, h⟩ := hu
  simp at h
  rcases h with rfl | rfl <;> rfl

set_option maxHeartbeats 2000000 in
set_option maxRecDepth 100000 in
theorem clone_pos {b o n c : Nat} {x : Nat → Nat × Nat} {w : World} (hx : IvsAt w (.slice (some ⟨b, o, none⟩) n c) x n) (hn0 : 0 < n) (hn1 : n ≤ 1000) :
    Calls Tryz.prog 93 #[.slice (some ⟨b, o, none⟩) n c] w fun e w' => ∃ u, e = .returned u ∧ OwnIv w.heap.size w' u x n ∧ Below w.heap.size w w' := by
  obtain ⟨i0, hi, hz0, hz1, hz2⟩ := info_parts info24
  have hx2 := hx.below ((Below.refl w.heap.size w).alloc (Nat.le_refl _) (Obj.cells #[] 24))
  have hown : (w.alloc (Obj.cells #[] 24)).ownsRow w.heap.size 24 2 (.slice (some ⟨w.heap.size, 0, none⟩) 0 0) 0 [] :=
    ⟨rfl, Or.inr ⟨w.heap.size, 0, #[], rfl, Nat.le_refl _, heap_alloc_new _ _, Nat.le_refl _, by decide, rfl, rfl⟩⟩
  have hlt : ∀ i, i < n → Lt (x i) := fun i hi => hx.lt hi
  have hq := fun (W : World) => Lib.run_eql_slice_nil (P := Tryz.prog) W 46 _ (some ⟨b, o, none⟩) n c 0 0 Tryz.underlying46
  go_enter Tryz.func93, Tryz.ntmps93
  go_wp2_with (at_builtin; refine wpList_append_lies _ rfl (.tmp 5) (.tmp 6) 46 rfl w.heap.size 24 i0 (.agg #[.float .f64 0, .float .f64 0]) 2 16 Tryz.underlying46 hi hz0 hz1 hz2 rfl (by decide) _ 0 [] rfl hown ⟨b, o, none⟩ n c (ivCells x n) rfl (ivCells_len x n) (ivs_newsC hx2) (ivCells_oneC x n) hn0 (by unfold maxLen; omega) (by omega) (by simp) _ rfl ?_; intro g cap w1 h1 h2 h3 h4)
  go_ret
  refine ⟨_, rfl, ⟨hlt, ?_⟩, ?_⟩
  · simpa using h1
  · exact ((Below.refl w.heap.size w).alloc (Nat.le_refl _) _).trans (grown_below hown h2 (by simp))

set_option maxHeartbeats 2000000 in
set_option maxRecDepth 100000 in
theorem clone_none {c : Nat} {A : Option Addr} {x : Nat → Nat × Nat} {w : World} :
    Calls Tryz.prog 93 #[.slice A 0 c] w fun e w' => ∃ u, e = .returned u ∧ OwnIv w.heap.size w' u x 0 ∧ Below w.heap.size w w' := by
  have hq := fun (W : World) => Lib.run_eql_slice_nil (P := Tryz.prog) W 46 _ A 0 c 0 0 Tryz.underlying46
  cases A with
  | none =>
    go_enter Tryz.func93, Tryz.ntmps93
    go_wp2
    go_ret
    exact ⟨_, rfl, ownIv_nil _ _ _, Below.refl _ _⟩
  | some a =>
    have hown : (w.alloc (Obj.cells #[] 24)).ownsRow w.heap.size 24 2 (.slice (some ⟨w.heap.size, 0, none⟩) 0 0) 0 [] :=
      ⟨rfl, Or.inr ⟨w.heap.size, 0, #[], rfl, Nat.le_refl _, heap_alloc_new _ _, Nat.le_refl _, by decide, rfl, rfl⟩⟩
    go_enter Tryz.func93, Tryz.ntmps93
    go_wp2
    go_ret
    exact ⟨_, rfl, ⟨fun i hi => by omega, hown⟩, (Below.refl _ _).alloc (Nat.le_refl _) _⟩
theorem clone_own {v : Value} {n : Nat} {x : Nat → Nat × Nat} {w : World} (hx : IvsAt w v x n) (hn1 : n ≤ 1000) :
    Calls Tryz.prog 93 #[v] w fun e w' => ∃ u, e = .returned u ∧ OwnIv w.heap.size w' u x n ∧ Below w.heap.size w w' := by
  obtain ⟨A, c, rfl, hn, h⟩ := hx
  by_cases h0 : n = 0
  · subst h0; exact clone_none
  · obtain ⟨b, o, rfl, _⟩ := h 0 (by omega)
    exact clone_pos ⟨_, c, rfl, hn, h⟩ (by omega) hn1
end Go.Proofs.YtpkgpkabmechkaaGreat
