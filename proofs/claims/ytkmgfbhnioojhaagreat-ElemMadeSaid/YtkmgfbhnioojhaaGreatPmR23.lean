/- The reference's Pi and Ln2, worked out. -/
import Derived.Test.YtkmgfbhnioojhaaGreatPmR21x
namespace Go.Proofs.YtkmgfbhnioojhaaGreat
set_option linter.unusedSimpArgs false
set_option linter.unusedVariables false
open Go.RowKit
open Fl

theorem bp8_eq : bp 8 = 2 ^ 256 := by rw [bp_pw, pw_eq]
def Q.okB (q : Q) : Bool := decide (q.m < 2 ^ 256) && (decide (-30000 ≤ q.e) && decide (q.e ≤ 30000))
def P2.okB (x : P2) : Bool := x.a.okB && x.b.okB
theorem Q.ok_of {q : Q} (h : q.okB = true) : q.Ok := by
  simp only [Q.okB, Bool.and_eq_true, decide_eq_true_eq] at h
  exact ⟨by rw [bp8_eq]; exact h.1, h.2.1, h.2.2⟩
theorem P2.ok_of {x : P2} (h : x.okB = true) : x.Ok := by
  simp only [P2.okB, Bool.and_eq_true] at h
  exact ⟨Q.ok_of h.1, Q.ok_of h.2⟩
def oddB (q : P2) (i : Nat) : Bool :=
  (oddSt q i).1.okB && ((oddSt q i).2.okB && ((decide (blen (oddSt q i).2.a.m ≤ 224) && decide (blen (oddSt q i).2.b.m ≤ 224)) && ((oddSt q i).2.over (2 * i + 1)).okB))
def oddsB (q : P2) : Nat → Bool
  | 0 => oddB q 0
  | i + 1 => oddB q (i + 1) && oddsB q i
theorem oddsB_all {q : P2} : ∀ (n : Nat), oddsB q n = true → ∀ i, i ≤ n → oddB q i = true
  | 0, h, i, hi => by obtain rfl : i = 0 := by omega
                      exact h
  | n + 1, h, i, hi => by
    simp only [oddsB, Bool.and_eq_true] at h
    by_cases e : i = n + 1
    · subst e; exact h.1
    · exact oddsB_all n h.2 i (by omega)
theorem oddOk_of {q : P2} (h : oddsB q 52 = true) : OddOk q := fun i hi => by
  have := oddsB_all 52 h i hi
  simp only [oddB, Bool.and_eq_true, decide_eq_true_eq] at this
  obtain ⟨h1, h2, h3, h4⟩ := this
  exact ⟨P2.ok_of h1, P2.ok_of h2, h3, P2.ok_of h4⟩
def atanhB (s : P2) : Bool := s.okB && ((s.mul s).okB && (oddsB (s.mul s) 52 && (s.mul s).odds.okB))
theorem atanhOk_of {s : P2} (h : atanhB s = true) : AtanhOk s := by
  simp only [atanhB, Bool.and_eq_true] at h
  exact ⟨P2.ok_of h.1, P2.ok_of h.2.1, oddOk_of h.2.2.1, P2.ok_of h.2.2.2⟩
def stepB (y : P2) : Bool := (y.okB && ((y.mul y).okB && (((P2.int 1).add (y.mul y)).okB && (((P2.int 1).add (y.mul y)).sqrt.okB && ((P2.int 1).add ((P2.int 1).add (y.mul y)).sqrt).okB)))) &&
  ((decide (blen y.a.m ≤ 200) && decide (blen y.b.m ≤ 200)) && (decide (((P2.int 1).add ((P2.int 1).add (y.mul y)).sqrt).a.m ≠ 0) && decide (((P2.int 1).add ((P2.int 1).add (y.mul y)).sqrt).b.m ≠ 0)))
theorem stepOk_of {y : P2} (h : stepB y = true) : StepOk y := by
  simp only [stepB, Bool.and_eq_true, decide_eq_true_eq] at h
  obtain ⟨⟨h1, h2, h3, h4, h5⟩, ⟨h6, h7⟩, h8, h9⟩ := h
  exact ⟨P2.ok_of h1, P2.ok_of h2, P2.ok_of h3, P2.ok_of h4, P2.ok_of h5, h6, h7, h8, h9⟩
def endB (y : P2) : Bool := y.okB && ((y.mul y).okB && ((y.mul y).neg.okB && (oddsB (y.mul y).neg 52 && ((y.mul y).neg.odds.okB && (y.mul (y.mul y).neg.odds).okB))))
theorem endOk_of {y : P2} (h : endB y = true) : EndOk y := by
  simp only [endB, Bool.and_eq_true] at h
  obtain ⟨h1, h2, h3, h4, h5, h6⟩ := h
  exact ⟨P2.ok_of h1, P2.ok_of h2, P2.ok_of h3, oddOk_of h4, P2.ok_of h5, P2.ok_of h6⟩

set_option maxRecDepth 100000 in
theorem ln_ok5 : atanhB (P2.inv 5) = true := by decide +kernel
set_option maxRecDepth 100000 in
theorem ln_ok7 : atanhB (P2.inv 7) = true := by decide +kernel
set_option maxRecDepth 100000 in
theorem ln_okS : ((P2.inv 5).atanh.okB && ((P2.inv 7).atanh.okB && ((P2.inv 5).atanh.add (P2.inv 7).atanh).okB)) = true := by decide +kernel
theorem ln_ok : LnOk := by
  have := ln_okS
  simp only [Bool.and_eq_true] at this
  exact ⟨atanhOk_of ln_ok5, atanhOk_of ln_ok7, P2.ok_of this.1, P2.ok_of this.2.1, P2.ok_of this.2.2⟩
set_option maxRecDepth 100000 in
theorem pi_ok1 : (stepB (rSlopeSt (P2.int 1) 0) && (stepB (rSlopeSt (P2.int 1) 1) && (stepB (rSlopeSt (P2.int 1) 2) && (P2.int 1).slope.okB))) = true := by decide +kernel
set_option maxRecDepth 100000 in
theorem pi_ok2 : endB (rSlopeSt (P2.int 1) 3) = true := by decide +kernel
theorem pi_ok : PiOk := by
  have := pi_ok1
  simp only [Bool.and_eq_true] at this
  refine ⟨⟨fun i hi => ?_, endOk_of pi_ok2⟩, P2.ok_of this.2.2.2⟩
  rcases i with _ | _ | _ | i
  · exact stepOk_of this.1
  · exact stepOk_of this.2.1
  · exact stepOk_of this.2.2.1
  · omega
def piV : P2 := ⟨⟨false, 4930024174431634640599033341057067222865862716297522429885, -190⟩, ⟨false, 4930024174431634640599033341057067222865862716297522436393, -190⟩⟩
def lnV : P2 := ⟨⟨false, 4350955369971217654477563090224794165364344896676135742230, -192⟩, ⟨false, 4350955369971217654477563090224794165364344896676135747922, -192⟩⟩
set_option maxRecDepth 100000 in
theorem pi_val : P2.pi = piV := by decide +kernel
set_option maxRecDepth 100000 in
theorem ln_val : P2.ln2 = lnV := by decide +kernel
theorem pi_any (w : World) : Calls Tryz.prog 28 #[] w (PRes piV w) := pi_val ▸ piP2_any pi_ok w
theorem ln2_any (w : World) : Calls Tryz.prog 38 #[] w (PRes lnV w) := ln_val ▸ ln2P2_any ln_ok w
end Go.Proofs.YtkmgfbhnioojhaaGreat
