/- Contracts: whether a tape may be, as the reference says. -/
import Derived.Test.YtpkgpkabmechkaaGreatPqT2
import Derived.Test.YtpkgpkabmechkaaGreatPqEnd
import Derived.Deep.Slices
namespace Go.Proofs.YtpkgpkabmechkaaGreat
set_option linter.unusedSimpArgs false
set_option linter.unusedVariables false
open Go.RowKit
open Fl

end Go.Proofs.YtpkgpkabmechkaaGreat

/- A tape as an argument: its cells. -/
namespace Go.Proofs.YtpkgpkabmechkaaGreat
set_option linter.unusedSimpArgs false
set_option linter.unusedVariables false
open Go.ChangeShapes Go.WideShapes Go.ChangeAt Go.RowKit Go.Joins Go.Deep

section
variable {H : Type} {enc : TypeId × Value → H} {P : Program} {w W : World} {base : Nat} {sp : Nat → Bool} {held : Bool} {fuel : Nat} {cs : List Value} {x : DataW H × List MemPlace}

theorem trod_int6 {t : TypeId} {k : IntKind} (ht : P.underlying t = some (.int k)) (h : DataW.trod enc P w base sp held fuel t cs = some x) : ∃ n, cs = [.int k n] := by
  cases fuel with
  | zero => simp [DataW.trod] at h
  | succ n =>
    unfold DataW.trod at h
    rw [ht] at h
    split at h <;> simp_all

instance : Inhabited OpT := ⟨⟨0, 0, 0, 0, 0, 0⟩⟩
theorem list2 {l : List Value} (h : l.length = 2) : ∃ a b, l = [a, b] := by
  match l, h with
  | [a, b], _ => exact ⟨a, b, rfl⟩
theorem list6 {l : List Value} (h : l.length = 6) : ∃ a b c d e f, l = [a, b, c, d, e, f] := by
  match l, h with
  | [a, b, c, d, e, f], _ => exact ⟨a, b, c, d, e, f, rfl⟩

theorem Tryz.cells66 : Tryz.prog.cellsOf 66 = 6 := by kernel_rfl
theorem Tryz.cells45 : Tryz.prog.cellsOf 45 = 3 := by kernel_rfl
theorem Tryz.cells3 : Tryz.prog.cellsOf 3 = 1 := by kernel_rfl
theorem Tryz.cells22 : Tryz.prog.cellsOf 22 = 1 := by kernel_rfl

theorem trod_op (h : DataW.trod enc Tryz.prog w base sp held fuel 66 cs = some x) :
    ∃ o : OpT, cs = [.int .i64 o.K, .int .i64 o.A, .int .i64 o.B, .int .i64 o.N, .float .f64 o.lo, .float .f64 o.hi] ∧ o.lo < 18446744073709551616 ∧ o.hi < 18446744073709551616 := by
  obtain ⟨xs, n, _, rfl, hl, hlen, hf⟩ := DataW.trod_struct Tryz.underlying66 h
  rw [Tryz.cells66] at hl
  obtain ⟨c0, c1, c2, c3, c4, c5, rfl⟩ := list6 hl
  match xs, hlen with
  | [y0, y1, y2, y3, y4], _ =>
    have h0 := hf 0 _ rfl
    have h1 := hf 1 _ rfl
    have h2 := hf 2 _ rfl
    have h3 := hf 3 _ rfl
    have h4 := hf 4 _ rfl
    simp [Tryz.cells3, Tryz.cells24] at h0 h1 h2 h3 h4
    obtain ⟨k0, e0⟩ := trod_int6 Tryz.underlying3 h0
    obtain ⟨k1, e1⟩ := trod_int6 Tryz.underlying3 h1
    obtain ⟨k2, e2⟩ := trod_int6 Tryz.underlying3 h2
    obtain ⟨k3, e3⟩ := trod_int6 Tryz.underlying3 h3
    obtain ⟨z0, z1, m, _, _, g0, g1⟩ := trod_struct2 Tryz.underlying24 h4
    simp [Tryz.cells22] at g0 g1
    obtain ⟨lo, e4, l4⟩ := trod_float Tryz.underlying22 g0
    obtain ⟨hi, e5, l5⟩ := trod_float Tryz.underlying22 g1
    simp only [List.cons.injEq, and_true] at e0 e1 e2 e3 e4 e5
    subst e0 e1 e2 e3 e4 e5
    exact ⟨⟨k0, k1, k2, k3, lo, hi⟩, rfl, l4, l5⟩

theorem trod_outs {v : Value} (h : DataW.trod enc Tryz.prog w base (fun _ => true) held fuel 43 [v] = some x) : ∃ outs n, OutsAt w v outs n := by
  rcases open_slice1 Tryz.underlying43 Tryz.cells3 h with ⟨e, _⟩ | ⟨a, len, cap, m, n, V, D, Pl, e, _, hl, _, hm, _, hc⟩
  · simp only [List.cons.injEq, and_true] at e
    subst e
    exact ⟨fun _ => 0, 0, none, 0, rfl, fun i hi => by omega⟩
  · simp only [List.cons.injEq, and_true] at e
    subst e
    simp only [if_true] at hm
    have each : ∀ i, i < len → ∃ z, V i = .int .i64 z := fun i hi => by
      obtain ⟨z, hz⟩ := trod_int6 Tryz.underlying3 (hc i (by omega)).2
      simp only [List.cons.injEq, and_true] at hz
      exact ⟨z, hz⟩
    obtain ⟨Z, hZ⟩ := choose_lt each
    refine ⟨Z, len, some a, cap, rfl, fun i hi => ?_⟩
    have h0 := World.cell?_spot (hc 0 (by omega)).1
    obtain ⟨b, o, s⟩ := a
    have hs : s = none := by simpa [Addr.add] using h0
    subst hs
    refine ⟨b, o, rfl, ?_⟩
    have := (hc i (by omega)).1
    rw [add_plain, hZ i hi] at this
    exact this

theorem trod_ops {v : Value} (h : DataW.trod enc Tryz.prog w base (fun _ => true) held fuel 42 [v] = some x) : ∃ ops n, OpsAt w v ops n := by
  rcases open_slice Tryz.underlying42 h with ⟨e, _⟩ | ⟨a, len, cap, m, n, D, Pl, e, _, hl, _, hm, _, hc⟩
  · simp only [List.cons.injEq, and_true] at e
    subst e
    exact ⟨fun _ => ⟨0, 0, 0, 0, 0, 0⟩, 0, none, 0, rfl, fun i hi => by omega⟩
  · simp only [List.cons.injEq, and_true] at e
    subst e
    simp only [if_true] at hm
    rw [Tryz.cells66] at hc
    have each : ∀ i, i < len → ∃ z : OpT, w.cells? base (a.add (i * 6)) 6 = some [.int .i64 z.K, .int .i64 z.A, .int .i64 z.B, .int .i64 z.N, .float .f64 z.lo, .float .f64 z.hi] ∧ z.lo < 18446744073709551616 ∧ z.hi < 18446744073709551616 := fun i hi => by
      obtain ⟨cs', h1, h2⟩ := hc i (by omega)
      obtain ⟨z, rfl, l1, l2⟩ := trod_op h2
      exact ⟨z, h1, l1, l2⟩
    obtain ⟨Z, hZ⟩ := choose_lt each
    refine ⟨Z, len, some a, cap, rfl, fun i hi => ?_⟩
    obtain ⟨_, _, q0⟩ := World.cells?_some (hZ 0 (by omega)).1
    have h0 := World.cell?_spot (q0 0 (by omega))
    obtain ⟨b, o, s⟩ := a
    have hs : s = none := by simpa [Addr.add] using h0
    subst hs
    obtain ⟨hz, l1, l2⟩ := hZ i hi
    obtain ⟨_, _, q⟩ := World.cells?_some hz
    refine ⟨b, o, rfl, l1, l2, ?_, ?_, ?_, ?_, ?_, ?_⟩
    · have := q 0 (by omega); rw [add_plain, add_plain] at this; exact this
    · have := q 1 (by omega); rw [add_plain, add_plain] at this; exact this
    · have := q 2 (by omega); rw [add_plain, add_plain] at this; exact this
    · have := q 3 (by omega); rw [add_plain, add_plain] at this; exact this
    · have := q 4 (by omega); rw [add_plain, add_plain] at this; exact this
    · have := q 5 (by omega); rw [add_plain, add_plain] at this; exact this

set_option maxRecDepth 100000 in
theorem arg_tape {v : Value} {d : DataW H} {ps : List MemPlace} (hval : Value.okWide Tryz.prog W .any base 45 v) (h : DataW.Trod enc Tryz.prog W 0 (fun _ => true) held 45 v d ps) :
    ∃ V vO vN ops nO outs nN, v = .agg #[.int .i64 V, vO, vN] ∧ OpsAt W vO ops nO ∧ OutsAt W vN outs nN := by
  obtain ⟨c0, c1, c2, y0, y1, y2, m, rfl, _, _, h0, h1, h2⟩ := open_agg3 Tryz.underlying45 (by kernel_rfl) Tryz.cells45 hval h
  obtain ⟨V, eV⟩ := trod_int6 Tryz.underlying3 h0
  simp only [List.cons.injEq, and_true] at eV
  subst eV
  obtain ⟨ops, nO, hO⟩ := trod_ops h1
  obtain ⟨outs, nN, hN⟩ := trod_outs h2
  exact ⟨V, c1, c2, ops, nO, outs, nN, rfl, hO, hN⟩
end
end Go.Proofs.YtpkgpkabmechkaaGreat
