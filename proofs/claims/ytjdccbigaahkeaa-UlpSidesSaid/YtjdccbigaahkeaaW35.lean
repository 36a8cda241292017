/- Words for the laws of ulp: the same value, or no numbers both. -/
import Derived.Test.YtjdccbigaahkeaaW34
import Derived.Test.YtjdccbigaahkeaaEnd
namespace Go.Proofs.Ytjdccbigaahkeaa
set_option linter.unusedSimpArgs false
set_option linter.unusedVariables false
open Go.ChangeShapes Go.WideShapes Go.ChangeAt Go.RowKit Go.Joins
open Fl

theorem same1_eqv {r1 r2 s : Nat} (h1 : Eqv r1 s) (h2 : Eqv r2 s) : Gives 30 #[(.float .f64 r1), (.float .f64 r2)] (.bool true) := by
  have := same1_any r1 r2
  have e : sameB r1 r2 = true := by
    unfold sameB
    have n1 := h1.nan
    have n2 := h2.nan
    cases hs : nan s
    · rw [hs] at n1 n2
      rw [n1, n2, h1.num hs, h2.num hs]; simp
    · rw [hs] at n1 n2
      rw [n1, n2]; rfl
  rwa [e] at this

/-! ### Parts -/

def eqP (a : Bool) (b c : Int) (d : Bool) (e f : Int) : Bool := (a == d) && ((b == e) && (c == f))
theorem eqP_self (a : Bool) (b c : Int) : eqP a b c a b c = true := by unfold eqP; simp
@[go_sem high] theorem eq_pa (a : Bool) (b c : Int) (d : Bool) (e f : Int) (w : World) : (Op.equalIn 10000 38 (.agg #[.bool a, .int .u64 b, .int .i64 c]) (.agg #[.bool d, .int .u64 e, .int .i64 f])).run Try.prog w = .ok (eqP a b c d e f) w := by
  have u1 := Try.underlying4
  have u2 := Try.underlying36
  have u3 := Try.underlying3
  have a1 := Try.isAgg4
  have a2 := Try.isAgg36
  have a3 := Try.isAgg3
  have z1 := Try.sizeOf4
  have z2 := Try.sizeOf36
  have z3 := Try.sizeOf3
  have hS : Try.prog.underlying 38 = some (.struct (Try.prog.fieldsOf 38)) := by kernel_rfl
  have hp : Try.prog.stoodInHeld 38 = false := by kernel_rfl
  rw [show (10000 : Nat) = 9999 + 1 from rfl, run_equalIn_agg w 9999 38 _ _ hS hp]
  simp only [Program.fieldsOf, Try.underlying38]
  unfold eqP
  go_simp
  by_cases h1 : a = d <;> by_cases h2 : b = e <;> by_cases h3 : c = f <;> simp [h1, h2, h3]

/-- What was taken apart is rounded to itself. -/
theorem parts_self (x : Nat) (dir : Int) (hf : finB x = true) : feq (partsS (qNeg x) (qM x) (qE x) dir) x = true := by
  have he := qE_range x
  have hc : min (max (qE x) (-4000)) 4000 = qE x := by omega
  have hr := finB_rung.1 hf
  have h1 : partsS (qNeg x) (qM x) (qE x) dir = rnd (val x) 1 dir := by
    unfold partsS
    rw [hc, show (-(qE x + 1074)).toNat = 0 by omega, show pw 0 = 1 by rw [pw_eq]]
    congr 1
    rw [← pval_q x hf]
    unfold pval
    rw [pw_eq, pow2_cast]
    cases qNeg x <;> simp [Int.neg_mul]
  have hp : plc (val x) 1 dir = idx x := by
    unfold plc
    have ha : (val x).natAbs = G (rung x) := val_abs x
    rw [ha, rungOf_exact1 hr, rungOf_exact1 hr]
    unfold val idx
    by_cases h0 : rung x = 0
    · rw [h0, G_zero]; cases sgn x <;> simp
    · have := G_pos (Nat.pos_of_ne_zero h0)
      cases sgn x
      · simp; omega
      · simp; omega
  rw [h1, rnd_eq, hp]
  have nx : nan x = false := nan_false.2 (Nat.le_of_lt hr)
  have hi := idx_le nx
  obtain ⟨b1, b2, b3⟩ := nan_bits hi.1 hi.2
  unfold feq
  rw [b1, b2, nx]; simp

section
variable {H : Type} {enc : TypeId × Value → H} {W : World} {base : Nat} {sp : Nat → Bool} {held : Bool} {v : Value} {d : DataW H} {ps : List MemPlace}
theorem trod_intk {P : Program} {w : World} {spare : Nat → Bool} {fuel : Nat} {t : TypeId} {cs : List Value} {x : DataW H × List MemPlace}
    {k : IntKind} (ht : P.underlying t = some (.int k)) (h : DataW.trod enc P w base spare held fuel t cs = some x) : ∃ n, cs = [.int k n] ∧ (Lit.int k n).wf = true := by
  cases fuel with
  | zero => simp [DataW.trod] at h
  | succ n =>
    unfold DataW.trod at h
    rw [ht] at h
    split at h <;> simp_all
theorem trod_boolk {P : Program} {w : World} {spare : Nat → Bool} {fuel : Nat} {t : TypeId} {cs : List Value} {x : DataW H × List MemPlace}
    (ht : P.underlying t = some .bool) (h : DataW.trod enc P w base spare held fuel t cs = some x) : ∃ b, cs = [.bool b] := by
  cases fuel with
  | zero => simp [DataW.trod] at h
  | succ n =>
    unfold DataW.trod at h
    rw [ht] at h
    split at h <;> simp_all

theorem Try.cells38 : Try.prog.cellsOf 38 = 3 := by kernel_rfl
set_option maxRecDepth 100000 in
theorem arg_parts (hval : Value.okWide Try.prog W .any base 38 v) (h : DataW.Trod enc Try.prog W 0 sp held 38 v d ps) : ∃ a b c, v = (.agg #[.bool a, .int .u64 b, .int .i64 c]) ∧ 0 ≤ b ∧ b ≤ 18446744073709551615 ∧ -9223372036854775808 ≤ c ∧ c ≤ 9223372036854775807 := by
  obtain ⟨c0, c1, c2, y0, y1, y2, m, rfl, _, _, h0, h1, h2⟩ := open_agg3 Try.underlying38 (by kernel_rfl) Try.cells38 hval h
  obtain ⟨a, ea⟩ := trod_boolk Try.underlying4 h0
  obtain ⟨b, eb, lb⟩ := trod_intk Try.underlying36 h1
  obtain ⟨c, ec, lc⟩ := trod_intk Try.underlying3 h2
  simp only [List.cons.injEq, and_true] at ea eb ec
  subst ea eb ec
  have hb : IntKind.u64.min ≤ b ∧ b ≤ IntKind.u64.max := by simpa [Lit.wf] using lb
  have hc : IntKind.i64.min ≤ c ∧ c ≤ IntKind.i64.max := by simpa [Lit.wf] using lc
  exact ⟨a, b, c, rfl, hb.1, hb.2, hc.1, hc.2⟩
end
end Go.Proofs.Ytjdccbigaahkeaa
