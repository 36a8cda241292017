/- Contracts: the reference's whole numbers of any length: read, trimmed, made of 64 bits. -/
import Derived.Test.YtjdccbigaahkeaaW4
import Derived.Test.YtjdccbigaahkeaaFlD
import Derived.OwnWalk
import Derived.Deep.LoopGhost
import Derived.LoopTactic
namespace Go.Proofs.Ytjdccbigaahkeaa
set_option linter.unusedSimpArgs false
set_option linter.unusedVariables false
open Go.RowKit
open Fl

/-- A slice that reads as digits. -/
def Rd (w : World) (v : Value) (l : List Nat) : Prop :=
  ∃ A c, v = .slice A l.length c ∧ l.length ≤ c ∧ c ≤ 9223372036854775807 ∧ ∀ i, i < l.length → ∃ b off, A = some ⟨b, off, none⟩ ∧ w.cell? ⟨b, off + i, none⟩ = some (.int .u32 ((l.getD i 0 : Nat) : Int))

theorem Rd.below {w w' : World} {v : Value} {l : List Nat} (h : Rd w v l) (hb : Below w.heap.size w w') : Rd w' v l := by
  obtain ⟨A, c, e, h1, h2, h3⟩ := h
  refine ⟨A, c, e, h1, h2, fun i hi => ?_⟩
  obtain ⟨b, off, e1, e2⟩ := h3 i hi
  exact ⟨b, off, e1, (hb.cell (World.block_lt_of_cell? w _ e2)).trans e2⟩

/-- A slice of no digits; one of some. -/
theorem Rd.open {w : World} {v : Value} {l : List Nat} (h : Rd w v l) : (l = [] ∧ ∃ A c, c ≤ 9223372036854775807 ∧ v = .slice A 0 c) ∨
    (0 < l.length ∧ ∃ b off c, v = .slice (some ⟨b, off, none⟩) l.length c ∧ l.length ≤ c ∧ c ≤ 9223372036854775807 ∧ b < w.heap.size ∧ ∀ i, i < l.length → w.cell? ⟨b, off + i, none⟩ = some (.int .u32 ((l.getD i 0 : Nat) : Int))) := by
  obtain ⟨A, c, e, h1, h2, h3⟩ := h
  by_cases hl : l.length = 0
  · left
    have : l = [] := List.length_eq_zero_iff.1 hl
    subst this
    exact ⟨rfl, A, c, h2, e⟩
  · right
    obtain ⟨b, off, rfl, e2⟩ := h3 0 (by omega)
    refine ⟨by omega, b, off, c, e, h1, h2, World.block_lt_of_cell? w _ e2, fun i hi => ?_⟩
    obtain ⟨b', off', e1, e3⟩ := h3 i hi
    injection e1 with e1
    injection e1 with e4 e5
    subst e4 e5
    exact e3

/-- A whole number. -/
def Big (w : World) (v : Value) (n : Nat) : Prop := ∃ l, Rd w v l ∧ Dig l ∧ Top l ∧ n32 l = n
theorem Big.below {w w' : World} {v : Value} {n : Nat} (h : Big w v n) (hb : Below w.heap.size w w') : Big w' v n := by
  obtain ⟨l, h1, h2⟩ := h
  exact ⟨l, h1.below hb, h2⟩

def BigRes (n : Nat) (w : World) (e : Ending) (w' : World) : Prop := (∃ v, e = .returned v ∧ Big w' v n) ∧ Below w.heap.size w w'

/-- Cut to k digits. -/
theorem Rd.cut {w : World} {b off c : Nat} {l : List Nat} {k : Nat} (h1 : l.length ≤ c) (h2 : c ≤ 9223372036854775807) (hc : ∀ i, i < l.length → w.cell? ⟨b, off + i, none⟩ = some (.int .u32 ((l.getD i 0 : Nat) : Int))) (hk : k ≤ l.length) :
    Rd w (.slice (some ⟨b, off, none⟩) k c) (l.take k) := by
  have e : (l.take k).length = k := by rw [List.length_take]; omega
  refine ⟨_, c, by rw [e], by omega, h2, fun i hi => ⟨b, off, rfl, ?_⟩⟩
  rw [e] at hi
  rw [hc i (by omega), getD_take hi]

set_option maxHeartbeats 1000000 in
theorem trim_any (v : Value) (l : List Nat) (w : World) (h : Rd w v l) (hd : Dig l) : Calls Try.prog 132 #[v] w (BigRes (n32 l) w) := by
  rcases h.open with ⟨rfl, A, c, hcm, rfl⟩ | ⟨hl, b, off, c, rfl, h1, h2, hb, hc⟩
  · clear h hd
    go_enter Try.func132, Try.ntmps132
    go_wp2
    refine wp_loop_rounds 1 ?_
    rw [rounds_succ]
    go_wp2
    go_ret
    exact ⟨⟨_, rfl, [], ⟨A, c, rfl, Nat.zero_le _, hcm, (fun i hi => by simp at hi)⟩, dig_nil, (fun hh => by simp at hh), rfl⟩, Below.refl _ _⟩
  · clear h
    have H := Lib.hid hc
    have HL := Lib.hid hl
    have HD := Lib.hid hd
    clear hc hl hd
    go_enter Try.func132, Try.ntmps132
    go_wp2
    go_loop [0] (fun v0 => ∃ k : Nat, k ≤ l.length ∧ v0 = .slice (some ⟨b, off, none⟩) k c ∧ Hid (n32 (l.take k) = n32 l)) (fun v0 => match v0 with | .slice _ n _ => n | _ => 0)
    case atStart => exact ⟨l.length, Nat.le_refl _, rfl, Lib.hid (by rw [List.take_length])⟩
    case round =>
      obtain ⟨k, hk, rfl, HE⟩ := hrel
      have hkc : k ≤ c := Nat.le_trans hk h1
      cases k with
      | zero =>
        go_wp2
        go_ret
        exact ⟨⟨_, rfl, l.take 0, Rd.cut h1 h2 H.out hk, dig_take HD.out _, (fun hh => by simp at hh), HE.out⟩, Below.refl _ _⟩
      | succ j =>
        have hcell := H.out j (by omega)
        have e := n32_take l j
        rw [HE.out] at e
        by_cases hz : l.getD j 0 = 0
        · rw [hz] at hcell e
          have HE2 := Lib.hid e
          clear e hz
          go_wp2
          go_round
          case rel => exact ⟨j, by omega, rfl, Lib.hid (by rw [HE2.out]; simp)⟩
          case measure => simp
        · have hz' : (((l.getD j 0 : Nat) : Int) == 0) = false := by rw [beq_eq_false_iff_ne]; omega
          have HZ := Lib.hid hz
          clear e hz
          generalize hx : l.getD j 0 = x at *
          have HX := Lib.hid hx
          clear hx
          go_wp2
          go_ret
          exact ⟨⟨_, rfl, l.take (j + 1), Rd.cut h1 h2 H.out hk, dig_take HD.out _, (fun _ => by rw [List.length_take, Nat.min_eq_left hk, Nat.add_sub_cancel, getD_take (by omega), HX.out]; exact HZ.out), HE.out⟩, Below.refl _ _⟩

theorem rd_two {w : World} (d e : Nat) : Rd (w.alloc (.cells #[.int .u32 d, .int .u32 e] 98)) (.slice (some ⟨w.heap.size, 0, none⟩) 2 2) [d, e] := by
  refine ⟨_, 2, rfl, Nat.le_refl _, by decide, fun i hi => ⟨_, _, rfl, ?_⟩⟩
  rw [World.cell?_alloc_at _ _ _ _ rfl]
  match i, hi with
  | 0, _ => rfl
  | 1, _ => rfl

/-- What lies behind a world that made memory. -/
theorem BigRes.from {n : Nat} {w w1 w2 : World} {e : Ending} (h : BigRes n w1 e w2) (hb : Below w.heap.size w w1) : BigRes n w e w2 := ⟨h.1, hb.trans (h.2.mono hb.size)⟩

set_option maxHeartbeats 1000000 in
theorem of_any (x : Nat) (hx : x < 18446744073709551616) (w : World) : Calls Try.prog 103 #[.int .u64 x] w (BigRes x w) := by
  have e1 : IntKind.u32.wrap (x : Int) = ((x % 4294967296 : Nat) : Int) := by
    show (x : Int) % 4294967296 = _; omega
  have e2 : IntKind.u32.wrap ((x : Int) / 4294967296) = ((x / 4294967296 : Nat) : Int) := by
    show (x : Int) / 4294967296 % 4294967296 = _; omega
  have hx0 : (x : Int) ≤ 18446744073709551615 := by omega
  have ht := fun w => trim_any _ [x % 4294967296, x / 4294967296] _ (rd_two (w := w) (x % 4294967296) (x / 4294967296)) (dig_cons.2 ⟨Nat.mod_lt _ (by decide), dig_cons.2 ⟨by omega, dig_nil⟩⟩)
  have en : n32 [x % 4294967296, x / 4294967296] = x := by simp only [n32]; omega
  rw [en] at ht
  simp only [Int.natCast_emod, Int.natCast_ediv, Int.cast_ofNat_Int] at ht
  have HT := Lib.hid ht
  clear ht en hx e1 e2
  go_enter Try.func103, Try.ntmps103
  go_wp2_with (fail)
  go_at_call 132
  refine (HT.out w).mono ?_
  rintro _ w' ⟨⟨v, rfl, hbig⟩, hb⟩
  go_wp2
  go_ret
  exact ⟨⟨_, rfl, hbig⟩, ((Below.refl _ _).alloc (Nat.le_refl _) _).trans (hb.mono (by simp))⟩
end Go.Proofs.Ytjdccbigaahkeaa
