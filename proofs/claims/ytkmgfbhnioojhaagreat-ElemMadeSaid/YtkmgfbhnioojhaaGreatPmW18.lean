/- Contracts: the reference's whole numbers of any length: read, trimmed, made of 64 bits. -/
import Derived.Test.YtkmgfbhnioojhaaGreatPmW1
import Derived.Test.YtkmgfbhnioojhaaGreatPmFlC
import Derived.OwnWalk
import Derived.Deep.LoopGhost
import Derived.LoopTactic
import Derived.Lib.SmallJoins
import Derived.IntWalk
namespace Go.Proofs.YtkmgfbhnioojhaaGreat
set_option linter.unusedSimpArgs false
set_option linter.unusedVariables false
open Go.RowKit
open Fl

/-- A slice that reads as digits. -/
def Rd (w : World) (v : Value) (l : List Nat) : Prop :=
  ∃ A c, v = .slice A l.length c ∧ l.length ≤ c ∧ c ≤ 9223372036854775807 ∧ ∀ i, i < l.length → ∃ b off, A = some ⟨b, off, none⟩ ∧ w.cell? ⟨b, off + i, none⟩ = some (.int .u32 ((l.getD i 0 : Nat) : Int))

theorem Rd.below {w w' : World} {v : Value} {l : List Nat} (h : Rd w v l) (hb : Below w.heap.size w w') : Rd w' v l := by
  obtain ⟨A, c, e, h1, h2, h3⟩ := h
  refine ⟨A, c, e, h1, h2, fun i hi => ?_⟩
  obtain ⟨b, off, e1, e2⟩ := h3 i hi
  exact ⟨b, off, e1, (hb.cell (World.block_lt_of_cell? w _ e2)).trans e2⟩

/-- A slice of no digits; one of some. -/
theorem Rd.open {w : World} {v : Value} {l : List Nat} (h : Rd w v l) : (l = [] ∧ ∃ A c, c ≤ 9223372036854775807 ∧ v = .slice A 0 c) ∨
    (0 < l.length ∧ ∃ b off c, v = .slice (some ⟨b, off, none⟩) l.length c ∧ l.length ≤ c ∧ c ≤ 9223372036854775807 ∧ b < w.heap.size ∧ ∀ i, i < l.length → w.cell? ⟨b, off + i, none⟩ = some (.int .u32 ((l.getD i 0 : Nat) : Int))) := by
  obtain ⟨A, c, e, h1, h2, h3⟩ := h
  by_cases hl : l.length = 0
  · left
    have : l = [] := List.length_eq_zero_iff.1 hl
    subst this
    exact ⟨rfl, A, c, h2, e⟩
  · right
    obtain ⟨b, off, rfl, e2⟩ := h3 0 (by omega)
    refine ⟨by omega, b, off, c, e, h1, h2, World.block_lt_of_cell? w _ e2, fun i hi => ?_⟩
    obtain ⟨b', off', e1, e3⟩ := h3 i hi
    injection e1 with e1
    injection e1 with e4 e5
    subst e4 e5
    exact e3

/-- A whole number. -/
def Big (w : World) (v : Value) (n : Nat) : Prop := ∃ l, Rd w v l ∧ Dig l ∧ Top l ∧ n32 l = n
theorem Big.below {w w' : World} {v : Value} {n : Nat} (h : Big w v n) (hb : Below w.heap.size w w') : Big w' v n := by
  obtain ⟨l, h1, h2⟩ := h
  exact ⟨l, h1.below hb, h2⟩

def BigRes (n : Nat) (w : World) (e : Ending) (w' : World) : Prop := (∃ v, e = .returned v ∧ Big w' v n) ∧ Below w.heap.size w w'

/-- Cut to k digits. -/
theorem Rd.cut {w : World} {b off c : Nat} {l : List Nat} {k : Nat} (h1 : l.length ≤ c) (h2 : c ≤ 9223372036854775807) (hc : ∀ i, i < l.length → w.cell? ⟨b, off + i, none⟩ = some (.int .u32 ((l.getD i 0 : Nat) : Int))) (hk : k ≤ l.length) :
    Rd w (.slice (some ⟨b, off, none⟩) k c) (l.take k) := by
  have e : (l.take k).length = k := by rw [List.length_take]; omega
  refine ⟨_, c, by rw [e], by omega, h2, fun i hi => ⟨b, off, rfl, ?_⟩⟩
  rw [e] at hi
  rw [hc i (by omega), getD_take hi]

set_option maxHeartbeats 1000000 in
theorem trim_any (v : Value) (l : List Nat) (w : World) (h : Rd w v l) (hd : Dig l) : Calls Tryz.prog 94 #[v] w (BigRes (n32 l) w) := by
  rcases h.open with ⟨rfl, A, c, hcm, rfl⟩ | ⟨hl, b, off, c, rfl, h1, h2, hb, hc⟩
  · clear h hd
    go_enter Tryz.func94, Tryz.ntmps94
    go_wp2
    refine wp_loop_rounds 1 ?_
    rw [rounds_succ]
    go_wp2
    go_ret
    exact ⟨⟨_, rfl, [], ⟨A, c, rfl, Nat.zero_le _, hcm, (fun i hi => by simp at hi)⟩, dig_nil, (fun hh => by simp at hh), rfl⟩, Below.refl _ _⟩
  · clear h
    have H := Lib.hid hc
    have HL := Lib.hid hl
    have HD := Lib.hid hd
    clear hc hl hd
    go_enter Tryz.func94, Tryz.ntmps94
    go_wp2
    go_loop [0] (fun v0 => ∃ k : Nat, k ≤ l.length ∧ v0 = .slice (some ⟨b, off, none⟩) k c ∧ Hid (n32 (l.take k) = n32 l)) (fun v0 => match v0 with | .slice _ n _ => n | _ => 0)
    case atStart => exact ⟨l.length, Nat.le_refl _, rfl, Lib.hid (by rw [List.take_length])⟩
    case round =>
      obtain ⟨k, hk, rfl, HE⟩ := hrel
      have hkc : k ≤ c := Nat.le_trans hk h1
      cases k with
      | zero =>
        go_wp2
        go_ret
        exact ⟨⟨_, rfl, l.take 0, Rd.cut h1 h2 H.out hk, dig_take HD.out _, (fun hh => by simp at hh), HE.out⟩, Below.refl _ _⟩
      | succ j =>
        have hcell := H.out j (by omega)
        have e := n32_take l j
        rw [HE.out] at e
        by_cases hz : l.getD j 0 = 0
        · rw [hz] at hcell e
          have HE2 := Lib.hid e
          clear e hz
          go_wp2
          go_round
          case rel => exact ⟨j, by omega, rfl, Lib.hid (by rw [HE2.out]; simp)⟩
          case measure => simp
        · have hz' : (((l.getD j 0 : Nat) : Int) == 0) = false := by rw [beq_eq_false_iff_ne]; omega
          have HZ := Lib.hid hz
          clear e hz
          generalize hx : l.getD j 0 = x at *
          have HX := Lib.hid hx
          clear hx
          go_wp2
          go_ret
          exact ⟨⟨_, rfl, l.take (j + 1), Rd.cut h1 h2 H.out hk, dig_take HD.out _, (fun _ => by rw [List.length_take, Nat.min_eq_left hk, Nat.add_sub_cancel, getD_take (by omega), HX.out]; exact HZ.out), HE.out⟩, Below.refl _ _⟩

theorem rd_two {w : World} (d e : Nat) : Rd (w.alloc (.cells #[.int .u32 d, .int .u32 e] 107)) (.slice (some ⟨w.heap.size, 0, none⟩) 2 2) [d, e] := by
  refine ⟨_, 2, rfl, Nat.le_refl _, by decide, fun i hi => ⟨_, _, rfl, ?_⟩⟩
  rw [World.cell?_alloc_at _ _ _ _ rfl]
  match i, hi with
  | 0, _ => rfl
  | 1, _ => rfl

set_option maxHeartbeats 1000000 in
theorem of_any (x : Nat) (hx : x < 18446744073709551616) (w : World) : Calls Tryz.prog 23 #[.int .u64 x] w (BigRes x w) := by
  have e1 : IntKind.u32.wrap (x : Int) = ((x % 4294967296 : Nat) : Int) := by
    show (x : Int) % 4294967296 = _; omega
  have e2 : IntKind.u32.wrap ((x : Int) / 4294967296) = ((x / 4294967296 : Nat) : Int) := by
    show (x : Int) / 4294967296 % 4294967296 = _; omega
  have hx0 : (x : Int) ≤ 18446744073709551615 := by omega
  have ht := fun w => trim_any _ [x % 4294967296, x / 4294967296] _ (rd_two (w := w) (x % 4294967296) (x / 4294967296)) (dig_cons.2 ⟨Nat.mod_lt _ (by decide), dig_cons.2 ⟨by omega, dig_nil⟩⟩)
  have en : n32 [x % 4294967296, x / 4294967296] = x := by simp only [n32]; omega
  rw [en] at ht
  simp only [Int.natCast_emod, Int.natCast_ediv, Int.cast_ofNat_Int] at ht
  have HT := Lib.hid ht
  clear ht en hx e1 e2
  go_enter Tryz.func23, Tryz.ntmps23
  go_wp2_with (fail)
  go_at_call 94
  refine (HT.out w).mono ?_
  rintro _ w' ⟨⟨v, rfl, hbig⟩, hb⟩
  go_wp2
  go_ret
  exact ⟨⟨_, rfl, hbig⟩, ((Below.refl _ _).alloc (Nat.le_refl _) _).trans (hb.mono (by simp))⟩
end Go.Proofs.YtkmgfbhnioojhaaGreat

/- Contracts: the reference's sums and differences of whole numbers of any length. -/
namespace Go.Proofs.YtkmgfbhnioojhaaGreat
set_option linter.unusedSimpArgs false
set_option linter.unusedVariables false
open Go.RowKit
open Fl

theorem info107 : (Tryz.prog.info? 107).map (fun i => (i.zero, i.size, i.bytes)) = some (some (.int .u32 0), 1, 4) := by kernel_rfl

def u32s (l : List Nat) : List Value := l.map fun (d : Nat) => Value.int .u32 (d : Int)
theorem u32s_snoc (l : List Nat) (d : Nat) : u32s (l ++ [d]) = u32s l ++ [.int .u32 (d : Int)] := by unfold u32s; simp
theorem u32s_get (l : List Nat) {i : Nat} (h : i < l.length) : (u32s l)[i]? = some (.int .u32 ((l.getD i 0 : Nat) : Int)) := by unfold u32s; simp [h]
/-- A row of the call's own: digits. -/
def Own (base : Nat) (w : World) (v : Value) (l : List Nat) : Prop := w.ownsRow base 107 1 v l.length (u32s l)

theorem Own.rd {base : Nat} {w : World} {v : Value} {l : List Nat} (h : Own base w v l) : Rd w v l := by
  have h' := h
  unfold Own at h
  rcases Joins.ownsRow_forms h with ⟨rfl, hn⟩ | ⟨g, cap, rfl⟩
  · exact ⟨none, 0, by rw [hn], by omega, by decide, fun i hi => by omega⟩
  · rcases h.2 with ⟨he, _⟩ | ⟨g', cap', cur, he, _, _, hnc, hcm, _⟩
    · simp at he
    · simp only [Value.slice.injEq, Option.some.injEq, Addr.mk.injEq, and_true, true_and] at he
      obtain ⟨rfl, rfl⟩ := he
      refine ⟨_, cap, rfl, hnc, hcm, fun i hi => ⟨g, 0, rfl, ?_⟩⟩
      rw [Nat.zero_add, World.ownsRow.cellAt h i (by omega), u32s_get l hi]

theorem own_new (w : World) : Own w.heap.size (w.alloc (.cells #[] 107)) (.slice (some ⟨w.heap.size, 0, none⟩) 0 0) [] := World.ownsRow_lit w #[] 0 (Nat.le_refl _) (by decide) rfl

/-- One digit is appended. -/
theorem wpList_append_u32 (wr : World) {ops : Array Oper} {rest : List Oper} {o : Oper} {a : Act} {Q : Exit → Act → World → Prop} (hgd : o.guard = none) (s x : Operand)
    (ho : o.op = .call { callee := .builtin .append, args := #[s, x], argTypes := #[31, 31] }) (base : Nat) (v : Value) (L : List Nat) (D : Int) (d : Nat)
    (hs : a.eval s = v) (hx : a.eval x = .slice (some ⟨wr.heap.size, 0, none⟩) 1 1) (hown : Own base wr v L) (hD : D = (d : Int)) (hL : L.length ≤ 3000000) (hb : base ≤ wr.heap.size)
    (h : ∀ v' w', Own base w' v' (L ++ [d]) → Below base wr w' → wpList Tryz.prog ops Q rest (a.put o.dst v') w') :
    wpList Tryz.prog ops Q (o :: rest) a (wr.alloc (.cells #[.int .u32 D] 107)) := by
  obtain ⟨i0, hi, hz0, hz1, hz2⟩ := info_parts info107
  subst hD
  refine wpList_append_own _ hgd s x 31 ho base 107 i0 (.int .u32 0) 1 4 Tryz.underlying31 hi hz0 hz1 hz2 rfl (by decide) v _ _ hs (World.ownsRow.alloc hown _) ⟨wr.heap.size, 0, none⟩ 1 1 [.int .u32 (d : Int)] hx rfl ?_ ?_ ?_ ?_ ?_ ?_
  · intro j u hu
    match j, hu with
    | 0, hu =>
      have : u = .int .u32 (d : Int) := by simpa using hu.symm
      subst this
      show World.cell? _ ⟨wr.heap.size, 0, none⟩ = _
      rw [World.cell?_alloc_at _ _ _ _ rfl]; rfl
  · intro u hu
    have : u = .int .u32 (d : Int) := by simpa using hu
    subst this; rfl
  · unfold maxLen; omega
  · omega
  · simp; omega
  · intro v' w' h1 h2 _
    refine h v' w' ?_ ?_
    · unfold Own
      rw [List.length_append, List.length_singleton, u32s_snoc]
      exact h1
    · refine ((Below.refl base wr).alloc hb _).grown h2 (by simp; omega) ?_
      intro k hk
      exact (World.ownsRow.lt hown k hk).1

theorem getD_past {l : List Nat} {k : Nat} (h : l.length ≤ k) : l.getD k 0 = 0 := by
  simp only [List.getD_eq_getElem?_getD]; rw [List.getElem?_eq_none h]; rfl
theorem u64_eq {a b : Int} (h : a = b) : Value.int .u64 a = .int .u64 b := by rw [h]
theorem i64_eq {a b : Int} (h : a = b) : Value.int .i64 a = .int .i64 b := by rw [h]

def PlusInv (W : World) (a b : List Nat) (out c i : Value) (w : World) : Prop :=
  ∃ (k cn : Nat) (L : List Nat), i = .int .i64 k ∧ c = .int .u64 cn ∧ cn ≤ 1 ∧ k ≤ 1000000 ∧ (k ≤ a.length ∨ k ≤ b.length) ∧ L.length = k ∧ Dig L ∧ n32 L + bp k * cn = n32 (a.take k) + n32 (b.take k) ∧ Own W.heap.size w out L ∧ Below W.heap.size W w

set_option maxHeartbeats 4000000 in
theorem bplus_any (va vb : Value) (a b : List Nat) (w : World) (ha : Rd w va a) (hb : Rd w vb b) (da : Dig a) (db : Dig b) (la : a.length ≤ 1000000) (lb : b.length ≤ 1000000) :
    Calls Tryz.prog 162 #[va, vb] w (BigRes (n32 a + n32 b) w) := by
  obtain ⟨A, ca, rfl, ha1, ha2, ha3⟩ := ha
  obtain ⟨B, cb, rfl, hb1, hb2, hb3⟩ := hb
  have HA := Lib.hid ha3
  have HB := Lib.hid hb3
  have DA := Lib.hid da
  have DB := Lib.hid db
  clear ha3 hb3 da db
  obtain ⟨i0, hi, hz0, hz1, hz2⟩ := info_parts info107
  go_enter Tryz.func162, Tryz.ntmps162
  go_wp2
  go_loopw [5, 6, 7] (fun out c i wr => PlusInv w a b out c i wr) (fun _ _ i _ => a.length + b.length - (intOf i).toNat)
  case atStart => exact ⟨0, 0, [], rfl, rfl, by decide, by decide, Or.inl (Nat.zero_le _), rfl, dig_nil, rfl, own_new w, (Below.refl _ _).alloc (Nat.le_refl _) _⟩
  case round =>
    obtain ⟨k, cn, L, rfl, rfl, hcn, hk, hkk, hL, hD, hE, hown, hbel⟩ := hrel
    by_cases h1 : k < a.length
    · by_cases h2 : k < b.length
      · obtain ⟨b1, o1, eA, c1⟩ := HA.out k h1
        obtain ⟨b2, o2, eB, c2⟩ := HB.out k h2
        subst eA eB
        replace c1 := (hbel.cell (World.block_lt_of_cell? w _ c1)).trans c1
        replace c2 := (hbel.cell (World.block_lt_of_cell? w _ c2)).trans c2
        have x1 := DA.out k
        have y1 := DB.out k
        have hst := fun s h => plus_round (s := s) hL hE h
        generalize hx : a.getD k 0 = x at *
        generalize hy : b.getD k 0 = y at *
        have HS := Lib.hid (hst (cn + x + y) rfl)
        have HE := Lib.hid hE
        have HL := Lib.hid hL
        have HX := Lib.hid hx
        have HY := Lib.hid hy
        clear hst hE hL hx hy
        have x2 : (x : Int) ≤ 4294967295 := by omega
        have y2 : (y : Int) ≤ 4294967295 := by omega
        have cn2 : (cn : Int) ≤ 1 := by omega
        have hk2 : (k : Int) ≤ 1000000 := by omega
        go_wp2_with (at_builtin; refine wpList_append_u32 wr rfl (.tmp 43) (.tmp 46) rfl w.heap.size _ L _ ((cn + x + y) % 4294967296) rfl rfl hown (by omega) (by have := HL.out; omega) hbel.size ?_; intro v1 w1 hown1 hb1)
        go_roundw
        case rel => exact ⟨k + 1, (cn + x + y) / 4294967296, _, by go_num, u64_eq (by omega), by omega, by omega, Or.inl h1, by simp [HL.out], dig_snoc hD (Nat.mod_lt _ (by decide)), HS.out, hown1, hbel.trans hb1⟩
        case measure => simp [intOf]; omega
      · obtain ⟨b1, o1, eA, c1⟩ := HA.out k h1
        subst eA
        replace c1 := (hbel.cell (World.block_lt_of_cell? w _ c1)).trans c1
        have x1 := DA.out k
        have hst := fun s h => plus_round (s := s) hL hE h
        have hy : b.getD k 0 = 0 := getD_past (by omega)
        generalize hx : a.getD k 0 = x at *
        rw [hy] at hst
        have HS := Lib.hid (hst (cn + x + 0) rfl)
        have HE := Lib.hid hE
        have HL := Lib.hid hL
        have HX := Lib.hid hx
        clear hst hE hL hx hy
        have x2 : (x : Int) ≤ 4294967295 := by omega
        have cn2 : (cn : Int) ≤ 1 := by omega
        have hk2 : (k : Int) ≤ 1000000 := by omega
        go_wp2_with (at_builtin; refine wpList_append_u32 wr rfl (.tmp 43) (.tmp 46) rfl w.heap.size _ L _ ((cn + x + 0) % 4294967296) rfl rfl hown (by omega) (by have := HL.out; omega) hbel.size ?_; intro v1 w1 hown1 hb1)
        go_roundw
        case rel => exact ⟨k + 1, (cn + x + 0) / 4294967296, _, by go_num, u64_eq (by omega), by omega, by omega, Or.inl h1, by simp [HL.out], dig_snoc hD (Nat.mod_lt _ (by decide)), HS.out, hown1, hbel.trans hb1⟩
        case measure => simp [intOf]; omega
    · by_cases h2 : k < b.length
      · obtain ⟨b2, o2, eB, c2⟩ := HB.out k h2
        subst eB
        replace c2 := (hbel.cell (World.block_lt_of_cell? w _ c2)).trans c2
        have y1 := DB.out k
        have hst := fun s h => plus_round (s := s) hL hE h
        have hx : a.getD k 0 = 0 := getD_past (by omega)
        generalize hy : b.getD k 0 = y at *
        rw [hx] at hst
        have HS := Lib.hid (hst (cn + 0 + y) rfl)
        have HE := Lib.hid hE
        have HL := Lib.hid hL
        have HY := Lib.hid hy
        clear hst hE hL hx hy
        have y2 : (y : Int) ≤ 4294967295 := by omega
        have cn2 : (cn : Int) ≤ 1 := by omega
        have hk2 : (k : Int) ≤ 1000000 := by omega
        go_wp2_with (at_builtin; refine wpList_append_u32 wr rfl (.tmp 43) (.tmp 46) rfl w.heap.size _ L _ ((cn + 0 + y) % 4294967296) rfl rfl hown (by omega) (by have := HL.out; omega) hbel.size ?_; intro v1 w1 hown1 hb1)
        go_roundw
        case rel => exact ⟨k + 1, (cn + 0 + y) / 4294967296, _, by go_num, u64_eq (by omega), by omega, by omega, Or.inr h2, by simp [HL.out], dig_snoc hD (Nat.mod_lt _ (by decide)), HS.out, hown1, hbel.trans hb1⟩
        case measure => simp [intOf]; omega
      · have hend : n32 (L ++ [cn]) = n32 a + n32 b := by
          rw [n32_snoc, hL, hE, List.take_of_length_le (by omega), List.take_of_length_le (by omega)]
        have HE := Lib.hid hend
        have HL := Lib.hid hL
        clear hend hE hL
        have cn2 : (cn : Int) ≤ 1 := by omega
        have hk2 : (k : Int) ≤ 1000000 := by omega
        go_wp2_with (at_builtin; refine wpList_append_u32 wr rfl (.tmp 50) (.tmp 53) rfl w.heap.size _ L _ cn rfl rfl hown (by omega) (by have := HL.out; omega) hbel.size ?_; intro v1 w1 hown1 hb1)
        go_at_call 94
        have ht := trim_any v1 (L ++ [cn]) w1 (Own.rd hown1) (dig_snoc hD (by omega))
        rw [HE.out] at ht
        refine ht.mono ?_
        rintro _ w' ⟨⟨v, rfl, hbig⟩, hb⟩
        go_wp2
        go_ret
        have hb2 := hbel.trans hb1
        exact ⟨⟨_, rfl, hbig⟩, hb2.trans (hb.mono hb2.size)⟩
end Go.Proofs.YtkmgfbhnioojhaaGreat

/- Contracts: the reference's differences of whole numbers of any length; which one is the greater. -/
namespace Go.Proofs.YtkmgfbhnioojhaaGreat
set_option linter.unusedSimpArgs false
set_option linter.unusedVariables false
open Go.RowKit
open Fl

def LessInv (W : World) (a b : List Nat) (out c i : Value) (w : World) : Prop :=
  ∃ (k cn : Nat) (L : List Nat), i = .int .i64 k ∧ c = .int .i64 cn ∧ cn ≤ 1 ∧ k ≤ a.length ∧ L.length = k ∧ Dig L ∧ n32 L + n32 (b.take k) = n32 (a.take k) + bp k * cn ∧ Own W.heap.size w out L ∧ Below W.heap.size W w

set_option maxHeartbeats 4000000 in
theorem bless_any (va vb : Value) (a b : List Nat) (w : World) (ha : Rd w va a) (hb : Rd w vb b) (da : Dig a) (db : Dig b) (tb : Top b) (hle : n32 b ≤ n32 a) (la : a.length ≤ 1000000) :
    Calls Tryz.prog 164 #[va, vb] w (BigRes (n32 a - n32 b) w) := by
  obtain ⟨A, ca, rfl, ha1, ha2, ha3⟩ := ha
  obtain ⟨B, cb, rfl, hb1, hb2, hb3⟩ := hb
  have lb : b.length ≤ 1000000 := Nat.le_trans (len_mono tb da hle) la
  have HA := Lib.hid ha3
  have HB := Lib.hid hb3
  have DA := Lib.hid da
  have DB := Lib.hid db
  have TB := Lib.hid tb
  have LE := Lib.hid hle
  clear ha3 hb3 da db tb hle
  go_enter Tryz.func164, Tryz.ntmps164
  go_wp2
  go_loopw [5, 6, 7] (fun out c i wr => LessInv w a b out c i wr) (fun _ _ i _ => a.length - (intOf i).toNat)
  case atStart => exact ⟨0, 0, [], rfl, rfl, by decide, Nat.zero_le _, rfl, dig_nil, by simp [n32], own_new w, (Below.refl _ _).alloc (Nat.le_refl _) _⟩
  case round =>
    obtain ⟨k, cn, L, rfl, rfl, hcn, hk, hL, hD, hE, hown, hbel⟩ := hrel
    have hk2 : (k : Int) ≤ 1000000 := by omega
    have cn2 : (cn : Int) ≤ 1 := by omega
    by_cases h1 : k < a.length
    · obtain ⟨b1, o1, eA, c1⟩ := HA.out k h1
      subst eA
      replace c1 := (hbel.cell (World.block_lt_of_cell? w _ c1)).trans c1
      have x1 := DA.out k
      have y1 := DB.out k
      have hst := fun d c' h => less_step (d := d) (c' := c') hL hE h
      by_cases h2 : k < b.length
      · obtain ⟨b2, o2, eB, c2⟩ := HB.out k h2
        subst eB
        replace c2 := (hbel.cell (World.block_lt_of_cell? w _ c2)).trans c2
        generalize hx : a.getD k 0 = x at *
        generalize hy : b.getD k 0 = y at *
        have HS := Lib.hid hst
        have HL := Lib.hid hL
        have HX := Lib.hid hx
        have HY := Lib.hid hy
        clear hst hE hL hx hy
        have x2 : (x : Int) ≤ 4294967295 := by omega
        have y2 : (y : Int) ≤ 4294967295 := by omega
        by_cases hn : (x : Int) - cn - y < 0
        · go_wp2_with (at_builtin; refine wpList_append_u32 wr rfl (.tmp 38) (.tmp 41) rfl w.heap.size _ L _ (x + 4294967296 - cn - y) rfl rfl hown (by omega) (by have := HL.out; omega) hbel.size ?_; intro v1 w1 hown1 hb1)
          go_roundw
          case rel => exact ⟨k + 1, 1, _, by go_num, rfl, by omega, h1, by simp [HL.out], dig_snoc hD (by omega), HS.out _ 1 (by omega), hown1, hbel.trans hb1⟩
          case measure => simp [intOf]; omega
        · go_wp2_with (at_builtin; refine wpList_append_u32 wr rfl (.tmp 38) (.tmp 41) rfl w.heap.size _ L _ (x - cn - y) rfl rfl hown (by omega) (by have := HL.out; omega) hbel.size ?_; intro v1 w1 hown1 hb1)
          go_roundw
          case rel => exact ⟨k + 1, 0, _, by go_num, rfl, by omega, h1, by simp [HL.out], dig_snoc hD (by omega), HS.out _ 0 (by omega), hown1, hbel.trans hb1⟩
          case measure => simp [intOf]; omega
      · have hy : b.getD k 0 = 0 := getD_past (by omega)
        generalize hx : a.getD k 0 = x at *
        rw [hy] at hst
        have HS := Lib.hid hst
        have HL := Lib.hid hL
        have HX := Lib.hid hx
        clear hst hE hL hx hy
        have x2 : (x : Int) ≤ 4294967295 := by omega
        by_cases hn : (x : Int) - cn < 0
        · go_wp2_with (at_builtin; refine wpList_append_u32 wr rfl (.tmp 38) (.tmp 41) rfl w.heap.size _ L _ (x + 4294967296 - cn) rfl rfl hown (by omega) (by have := HL.out; omega) hbel.size ?_; intro v1 w1 hown1 hb1)
          go_roundw
          case rel => exact ⟨k + 1, 1, _, by go_num, rfl, by omega, h1, by simp [HL.out], dig_snoc hD (by omega), HS.out _ 1 (by omega), hown1, hbel.trans hb1⟩
          case measure => simp [intOf]; omega
        · go_wp2_with (at_builtin; refine wpList_append_u32 wr rfl (.tmp 38) (.tmp 41) rfl w.heap.size _ L _ (x - cn) rfl rfl hown (by omega) (by have := HL.out; omega) hbel.size ?_; intro v1 w1 hown1 hb1)
          go_roundw
          case rel => exact ⟨k + 1, 0, _, by go_num, rfl, by omega, h1, by simp [HL.out], dig_snoc hD (by omega), HS.out _ 0 (by omega), hown1, hbel.trans hb1⟩
          case measure => simp [intOf]; omega
    · obtain rfl : k = a.length := by omega
      have hend := less_end hL hD TB.out DA.out LE.out hE
      have HL := Lib.hid hL
      have HE := Lib.hid hend
      clear hL hE hend
      go_wp2_with (fail)
      go_at_call 94
      have ht := trim_any _ L wr (Own.rd hown) hD
      rw [HE.out] at ht
      refine ht.mono ?_
      rintro _ w' ⟨⟨v, rfl, hbig⟩, hb⟩
      go_wp2
      go_ret
      exact ⟨⟨_, rfl, hbig⟩, hbel.trans (hb.mono hbel.size)⟩

def IntRes (n : Int) (w : World) (e : Ending) (w' : World) : Prop := e = .returned (.int .i64 n) ∧ Below w.heap.size w w'

def CmpInv (W : World) (a b : List Nat) (i : Value) (w : World) : Prop :=
  ∃ (k : Nat), i = .int .i64 ((k : Int) - 1) ∧ k ≤ a.length ∧ a.drop k = b.drop k ∧ Below W.heap.size W w

theorem drop_step {a b : List Nat} {k : Nat} (hk : k < a.length) (e : a.length = b.length) (h : a.drop (k + 1) = b.drop (k + 1)) (hd : a.getD k 0 = b.getD k 0) : a.drop k = b.drop k := by
  rw [List.drop_eq_getElem_cons hk, List.drop_eq_getElem_cons (by omega : k < b.length), h]
  congr 1
  simpa [List.getD_eq_getElem?_getD, hk, (by omega : k < b.length)] using hd

set_option maxHeartbeats 4000000 in
theorem bcmp_any (va vb : Value) (a b : List Nat) (w : World) (ha : Rd w va a) (hb : Rd w vb b) (da : Dig a) (db : Dig b) (ta : Top a) (tb : Top b) (la : a.length ≤ 1000000) (lb : b.length ≤ 1000000) :
    Calls Tryz.prog 163 #[va, vb] w (IntRes (cmpI (n32 a) (n32 b)) w) := by
  obtain ⟨A, ca, rfl, ha1, ha2, ha3⟩ := ha
  obtain ⟨B, cb, rfl, hb1, hb2, hb3⟩ := hb
  rcases Nat.lt_trichotomy a.length b.length with hl | hl | hl
  · have hc : cmpI (n32 a) (n32 b) = -1 := by
      have : n32 a < n32 b := Nat.lt_of_not_le fun h => by have := len_mono tb da h; omega
      unfold cmpI; rw [if_pos this]
    rw [hc]
    have hne : ((a.length : Int) != (b.length : Int)) = true := by simp; omega
    have hlt : decide ((a.length : Int) < (b.length : Int)) = true := by simp; omega
    have hn2 : ¬ a.length = b.length := by omega
    clear ha3 hb3 da db ta tb hc
    go_enter Tryz.func163, Tryz.ntmps163
    go_wp2
    go_ret
    exact ⟨rfl, Below.refl _ _⟩
  · have HA := Lib.hid ha3
    have HB := Lib.hid hb3
    have DA := Lib.hid da
    have DB := Lib.hid db
    have HL := Lib.hid hl
    have hne : ((a.length : Int) != (b.length : Int)) = false := by simp; omega
    clear ha3 hb3 da db ta tb hl
    go_enter Tryz.func163, Tryz.ntmps163
    go_wp2
    go_loopw [5] (fun i wr => CmpInv w a b i wr) (fun i _ => (intOf i + 1).toNat)
    case atStart => exact ⟨a.length, rfl, Nat.le_refl _, by rw [List.drop_length, HL.out, List.drop_length], Below.refl _ _⟩
    case round =>
      obtain ⟨k, rfl, hk, hE, hbel⟩ := hrel
      clear hne
      cases k with
      | zero =>
        have e : a = b := by simpa using hE
        have hc : cmpI (n32 a) (n32 b) = 0 := by rw [e]; unfold cmpI; simp
        have H := Lib.hid hc
        clear hE e hc
        go_wp2
        go_ret
        exact ⟨by rw [H.out]; rfl, hbel⟩
      | succ j =>
        obtain ⟨b1, o1, eA, c1⟩ := HA.out j (by omega)
        obtain ⟨b2, o2, eB, c2⟩ := HB.out j (by have := HL.out; omega)
        subst eA eB
        replace c1 := (hbel.cell (World.block_lt_of_cell? w _ c1)).trans c1
        replace c2 := (hbel.cell (World.block_lt_of_cell? w _ c2)).trans c2
        have c3 := cmp_at DA.out DB.out HL.out (i := j) (by omega) hE
        have c4 := cmp_at DB.out DA.out HL.out.symm (i := j) (by have := HL.out; omega) hE.symm
        have c5 := drop_step (k := j) (by omega) HL.out hE
        have hj0 : (0 : Int) ≤ (j : Int) := by omega
        have hja : (j : Int) < (a.length : Int) := by omega
        have hjb : (j : Int) < (b.length : Int) := by have := HL.out; omega
        have hjc : (j : Int) ≤ 1000000 := by omega
        generalize a.getD j 0 = x at *
        generalize b.getD j 0 = y at *
        have HC3 := Lib.hid c3
        have HC4 := Lib.hid c4
        have HC5 := Lib.hid c5
        clear c3 c4 c5 hE
        by_cases t1 : x < y
        · have hc : cmpI (n32 a) (n32 b) = -1 := by unfold cmpI; rw [if_pos (HC3.out t1)]
          have H := Lib.hid hc
          clear hc
          go_wp2
          go_quiet (fail)
          go_wp2
          go_ret
          exact ⟨by rw [H.out]; rfl, by (repeat' first | (with_reducible first | exact Below.refl _ _ | assumption | refine Later.belowOf _ ?_ ?_ | refine Below.alloc ?_ ?_ _ | refine Below.setCell ?_ ?_ _ | refine Below.drewN' _ ?_ | refine Below.drew ?_ | exact Ge.le) | go_size)⟩
        · by_cases t2 : y < x
          · have hc : cmpI (n32 a) (n32 b) = 1 := by
              have := HC4.out t2
              unfold cmpI; rw [if_neg (by omega), if_pos this]
            have H := Lib.hid hc
            clear hc
            go_wp2
            go_quiet (fail)
            go_wp2
            go_quiet (fail)
            go_wp2
            go_ret
            exact ⟨by rw [H.out]; rfl, by (repeat' first | (with_reducible first | exact Below.refl _ _ | assumption | refine Later.belowOf _ ?_ ?_ | refine Below.alloc ?_ ?_ _ | refine Below.setCell ?_ ?_ _ | refine Below.drewN' _ ?_ | refine Below.drew ?_ | exact Ge.le) | go_size)⟩
          · have hxy := HC5.out (by omega)
            have H := Lib.hid hxy
            clear hxy
            go_wp2
            go_quiet (fail)
            go_wp2
            go_quiet (fail)
            go_wp2
            go_roundw
            case rel => exact ⟨j, by go_num, by omega, H.out, by (repeat' first | (with_reducible first | exact Below.refl _ _ | assumption | refine Later.belowOf _ ?_ ?_ | refine Below.alloc ?_ ?_ _ | refine Below.setCell ?_ ?_ _ | refine Below.drewN' _ ?_ | refine Below.drew ?_ | exact Ge.le) | go_size)⟩
            case measure => simp [intOf]
  · have hc : cmpI (n32 a) (n32 b) = 1 := by
      have : n32 b < n32 a := Nat.lt_of_not_le fun h => by have := len_mono ta db h; omega
      unfold cmpI; rw [if_neg (by omega), if_pos this]
    rw [hc]
    have hne : ((a.length : Int) != (b.length : Int)) = true := by simp; omega
    have hlt : decide ((a.length : Int) < (b.length : Int)) = false := by simp; omega
    have hn2 : ¬ a.length = b.length := by omega
    have hn3 : ¬ a.length < b.length := by omega
    clear ha3 hb3 da db ta tb hc
    go_enter Tryz.func163, Tryz.ntmps163
    go_wp2
    go_ret
    exact ⟨rfl, Below.refl _ _⟩
end Go.Proofs.YtkmgfbhnioojhaaGreat

/- Contracts: the reference's products of whole numbers of any length. -/
namespace Go.Proofs.YtkmgfbhnioojhaaGreat
set_option linter.unusedSimpArgs false
set_option linter.unusedVariables false
open Go.RowKit
open Fl

theorem own_made {w : World} {base g n : Nat} (h : w.ownsRow base 107 1 (.slice (some ⟨g, 0, none⟩) n n) n (madeCells (Value.int .u32 0).cells (n * 1)).toList) : Own base w (.slice (some ⟨g, 0, none⟩) n n) (List.replicate n 0) := by
  unfold Own
  have e : (madeCells (Value.int .u32 0).cells (n * 1)).toList = u32s (List.replicate n 0) := by
    rw [Nat.mul_one]
    show (madeCells #[Value.int .u32 0] n).toList = _
    rw [toList_madeCells_one]
    unfold u32s; simp
  rw [e] at h
  rw [List.length_replicate]
  exact h

theorem Own.stored {base : Nat} {w : World} {g n cap : Nat} {L : List Nat} (h : Own base w (.slice (some ⟨g, 0, none⟩) n cap) L) (hn : L.length = n) (j : Nat) {D : Int} {d : Nat} (hD : D = (d : Int)) :
    Own base (w.setCell ⟨g, j, none⟩ (.int .u32 D)) (.slice (some ⟨g, 0, none⟩) n cap) (L.set j d) ∧ w.grownBy (w.setCell ⟨g, j, none⟩ (.int .u32 D)) (some g) := by
  subst hD hn
  have := World.ownsRow.stored h j (.int .u32 (d : Int))
  refine ⟨?_, this.2⟩
  unfold Own
  rw [List.length_set]
  have e : u32s (L.set j d) = (u32s L).set j (.int .u32 (d : Int)) := by unfold u32s; rw [List.map_set]
  rw [e]
  exact this.1
theorem Own.cellAt {base : Nat} {w : World} {g n cap : Nat} {L : List Nat} (h : Own base w (.slice (some ⟨g, 0, none⟩) n cap) L) (hn : L.length = n) (j : Nat) (hj : j < n) : w.cell? ⟨g, j, none⟩ = some (.int .u32 ((L.getD j 0 : Nat) : Int)) := by
  subst hn
  rw [World.ownsRow.cellAt h j (by omega), u32s_get L hj]
theorem Own.frozenAt {base : Nat} {w : World} {g n cap : Nat} {L : List Nat} (h : Own base w (.slice (some ⟨g, 0, none⟩) n cap) L) (hn : L.length = n) (j : Nat) : w.frozen? ⟨g, j, none⟩ = false := by
  subst hn
  exact World.ownsRow.frozenAt h j
theorem Own.drewN {base : Nat} {w : World} {v : Value} {L : List Nat} (h : Own base w v L) (k : Nat) : Own base (w.drewN k) v L := by
  refine ⟨h.1, ?_⟩
  rcases h.2 with h | ⟨g, cap, cur, r⟩
  · exact Or.inl h
  · exact Or.inr ⟨g, cap, cur, r⟩

theorem getD_set_ne {l : List Nat} {i j d : Nat} (h : i ≠ j) : (l.set i d).getD j 0 = l.getD j 0 := by
  simp only [List.getD_eq_getElem?_getD, List.getElem?_set]
  rw [if_neg h]

def ByInv (W : World) (a b : List Nat) (i : Value) (w : World) : Prop :=
  ∃ (k : Nat) (O : List Nat), i = .int .i64 k ∧ k ≤ a.length ∧ O.length = a.length + b.length + 1 ∧ Dig O ∧ (∀ t, k + b.length ≤ t → O.getD t 0 = 0) ∧ n32 O = n32 (a.take k) * n32 b ∧ Own W.heap.size w (.slice (some ⟨W.heap.size, 0, none⟩) (a.length + b.length + 1) (a.length + b.length + 1)) O ∧ Below W.heap.size W w

def ByInv2 (W : World) (a b : List Nat) (i : Nat) (c j : Value) (w : World) : Prop :=
  ∃ (k cn : Nat) (O : List Nat), j = .int .i64 k ∧ c = .int .u64 cn ∧ cn < 4294967296 ∧ k ≤ b.length ∧ O.length = a.length + b.length + 1 ∧ Dig O ∧ (∀ t, i + b.length ≤ t → O.getD t 0 = 0) ∧
    n32 O + bp (i + k) * cn = n32 (a.take i) * n32 b + bp i * a.getD i 0 * n32 (b.take k) ∧ Own W.heap.size w (.slice (some ⟨W.heap.size, 0, none⟩) (a.length + b.length + 1) (a.length + b.length + 1)) O ∧ Below W.heap.size W w

theorem by_small {x y o c : Nat} (hx : x < 4294967296) (hy : y < 4294967296) (ho : o < 4294967296) (hc : c < 4294967296) : x * y ≤ 18446744065119617025 ∧ x * y + o + c < 18446744073709551616 := by
  have h1 : x * y ≤ 4294967295 * 4294967295 := Nat.mul_le_mul (by omega) (by omega)
  omega

set_option maxHeartbeats 8000000 in
theorem bby_any (va vb : Value) (a b : List Nat) (w : World) (ha : Rd w va a) (hb : Rd w vb b) (da : Dig a) (db : Dig b) (la : a.length ≤ 1000000) (lb : b.length ≤ 1000000) :
    Calls Tryz.prog 131 #[va, vb] w (BigRes (n32 a * n32 b) w) := by
  obtain ⟨A, ca, rfl, ha1, ha2, ha3⟩ := ha
  obtain ⟨B, cb, rfl, hb1, hb2, hb3⟩ := hb
  have HA := Lib.hid ha3
  have HB := Lib.hid hb3
  have DA := Lib.hid da
  have DB := Lib.hid db
  clear ha3 hb3 da db
  obtain ⟨i0, hi, hz0, hz1, hz2⟩ := info_parts info107
  go_enter Tryz.func131, Tryz.ntmps131
  go_wp2_with (at_make; refine wpList_make_full _ rfl _ _ 31 rfl w.heap.size 107 i0 (.int .u32 0) 1 Tryz.underlying31 hi hz0 hz1 _ _ _ _ (a.length + b.length + 1) rfl rfl (by simp) (by simp) (by rw [hz2]; omega) (by unfold maxLen; omega) (Nat.le_refl _) ?_; intro w1 hown1 hg1)
  go_loopw [6] (fun i wr => ByInv w a b i wr) (fun i _ => a.length - (intOf i).toNat)
  case atStart => exact ⟨0, _, rfl, Nat.zero_le _, by simp, dig_zeros _, (fun t _ => by simp only [List.getD_eq_getElem?_getD, List.getElem?_replicate]; split <;> rfl), by rw [n32_zeros]; simp [n32], own_made hown1, (Below.refl _ _).grown hg1 (Nat.le_refl _) (fun k hk => by cases hk)⟩
  case round =>
    obtain ⟨k, O, rfl, hk, hO, hD, hz, hE, hown, hbel⟩ := hrel
    have hk2 : (k : Int) ≤ 1000000 := by omega
    have ha4 : (a.length : Int) ≤ 1000000 := by omega
    have hb4 : (b.length : Int) ≤ 1000000 := by omega
    by_cases h1 : k < a.length
    · obtain ⟨b1, o1, eA, c1⟩ := HA.out k h1
      subst eA
      have x1 := DA.out k
      generalize hx : a.getD k 0 = x at *
      have HX := Lib.hid hx
      have HZ := Lib.hid hz
      have HO := Lib.hid hO
      have HE := Lib.hid hE
      clear hx hz hO hE
      have x2 : (x : Int) ≤ 4294967295 := by omega
      go_wp2
      obtain ⟨wo, hwo⟩ : ∃ wo : World, wo = wr := ⟨_, rfl⟩
      subst hwo
      go_loopw [7, 8] (fun c j wr => ByInv2 w a b k c j wr) (fun _ j _ => b.length - (intOf j).toNat)
      case atStart => exact ⟨0, 0, O, rfl, rfl, by decide, Nat.zero_le _, HO.out, hD, HZ.out, by simp [n32, HE.out], hown, hbel⟩
      case round =>
        obtain ⟨j, cn, P, rfl, rfl, hcn, hj, hP, hDP, hzP, hEP, hownP, hbelP⟩ := hrel
        have hj2 : (j : Int) ≤ 1000000 := by omega
        have cn2 : (cn : Int) ≤ 4294967295 := by omega
        replace c1 := HA.out k h1
        obtain ⟨b1', o1', eA', c1⟩ := c1
        injection eA' with eA'
        injection eA' with eA1 eA2
        subst eA1 eA2
        rw [HX.out] at c1
        replace c1 := (hbelP.cell (World.block_lt_of_cell? w _ c1)).trans c1
        by_cases h2 : j < b.length
        · obtain ⟨b2, o2, eB, c2⟩ := HB.out j h2
          subst eB
          replace c2 := (hbelP.cell (World.block_lt_of_cell? w _ c2)).trans c2
          have y1 := DB.out j
          have hij : k + j < a.length + b.length + 1 := by omega
          have c3 := Own.cellAt hownP hP (k + j) hij
          have c4 := Own.frozenAt hownP hP (k + j)
          have oo := hDP (k + j)
          have hr := fun n h => by_round (O := P) (a := a) (b := b) (i := k) (j := j) (c := cn) (n := n) (by omega) hEP h
          rw [HX.out] at hr
          generalize hy : b.getD j 0 = y at *
          generalize ho : P.getD (k + j) 0 = o at *
          obtain ⟨p1, p2⟩ := by_small x1 y1 oo hcn
          obtain ⟨ij, hij0⟩ : ∃ ij : Nat, ij = k + j := ⟨_, rfl⟩
          obtain ⟨p, hp⟩ : ∃ p : Nat, p = x * y := ⟨_, rfl⟩
          obtain ⟨n, hn⟩ : ∃ n : Nat, n = p + o + cn := ⟨_, rfl⟩
          obtain ⟨t, ht⟩ : ∃ t : Nat, t = p + o := ⟨_, rfl⟩
          have HR := Lib.hid (hr n (by rw [hn, hp]))
          rw [← hij0] at c3 c4 hij
          rw [← hp] at p1 p2
          have e1 : (k : Int) + (j : Int) = (ij : Int) := by omega
          have e2 : (x : Int) * (y : Int) = (p : Int) := by rw [hp]; simp
          have e3 : (p : Int) + (o : Int) = (t : Int) := by omega
          have e4 : (t : Int) + (cn : Int) = (n : Int) := by omega
          have b1 : (ij : Int) ≤ 3000000 := by omega
          have b2 : (p : Int) ≤ 18446744073709551615 := by omega
          have b3 : (t : Int) ≤ 18446744073709551615 := by omega
          have b4 : (n : Int) ≤ 18446744073709551615 := by omega
          have b5 : (x : Int) ≤ 4294967295 := by omega
          have b6 : (y : Int) ≤ 4294967295 := by omega
          have b7 : (o : Int) ≤ 4294967295 := by omega
          have w1 : IntKind.i64.wrap (ij : Int) = (ij : Int) := IntWalk.i64_in _ ⟨by omega, by omega⟩
          have w2 : IntKind.u64.wrap (p : Int) = (p : Int) := IntWalk.u64_in _ ⟨by omega, by omega⟩
          have w3 : IntKind.u64.wrap (t : Int) = (t : Int) := IntWalk.u64_in _ ⟨by omega, by omega⟩
          have w4 : IntKind.u64.wrap (n : Int) = (n : Int) := IntWalk.u64_in _ ⟨by omega, by omega⟩
          have w5 : IntKind.u64.wrap (x : Int) = (x : Int) := IntWalk.u64_in _ ⟨by omega, by omega⟩
          have w6 : IntKind.u64.wrap (y : Int) = (y : Int) := IntWalk.u64_in _ ⟨by omega, by omega⟩
          have w7 : IntKind.u64.wrap (o : Int) = (o : Int) := IntWalk.u64_in _ ⟨by omega, by omega⟩
          have HEP := Lib.hid hEP
          have HP := Lib.hid hP
          have HZP := Lib.hid hzP
          have HIJ := Lib.hid hij0
          have HP2 := Lib.hid hp
          have HN := Lib.hid hn
          have HT := Lib.hid ht
          have HY := Lib.hid hy
          have HOo := Lib.hid ho
          clear hr hEP hP hzP hij0 hp hn ht hy ho p1 p2
          go_wp2
          go_quiet (fail)
          go_wp2
          refine ⟨⟨j + 1, n / 4294967296, P.set (k + j) (n % 4294967296), by go_num, u64_eq (by omega), by omega, h2, by rw [List.length_set]; exact HP.out, dig_set hDP (Nat.mod_lt _ (by decide)) _, ?_, by rw [HX.out]; exact HR.out, ?_, ?_⟩, by simp [intOf]; omega⟩
          · intro t ht
            rw [getD_set_ne (by omega)]
            exact HZP.out t ht
          · rw [← HIJ.out]
            exact (Own.stored (hownP.drewN nq) HP.out ij (by omega)).1
          · exact Below.setCell (Below.drewN' nq hbelP) (Nat.le_refl _) _
        · obtain rfl : j = b.length := by omega
          have hij : k + b.length < a.length + b.length + 1 := by omega
          have c3 := Own.cellAt hownP hP (k + b.length) hij
          have c4 := Own.frozenAt hownP hP (k + b.length)
          have he := by_end (O := P) (a := a) (b := b) (i := k) (c := cn) (by omega) (hzP _ (Nat.le_refl _)) hEP
          rw [hzP _ (Nat.le_refl _)] at c3
          obtain ⟨ij, hij0⟩ : ∃ ij : Nat, ij = k + b.length := ⟨_, rfl⟩
          rw [← hij0] at c3 c4 hij
          have e1 : (k : Int) + (b.length : Int) = (ij : Int) := by omega
          have b1 : (ij : Int) ≤ 3000000 := by omega
          have HEN := Lib.hid he
          have HEP := Lib.hid hEP
          have HP := Lib.hid hP
          have HZP := Lib.hid hzP
          have HIJ := Lib.hid hij0
          clear he hEP hP hzP hij0
          go_wp2
          refine ⟨⟨k + 1, P.set (k + b.length) cn, by go_num, h1, by rw [List.length_set]; exact HP.out, dig_set hDP hcn _, ?_, HEN.out, ?_, ?_⟩, by simp [intOf]; omega⟩
          · intro t ht
            rw [getD_set_ne (by omega)]
            exact HZP.out t (by omega)
          · rw [← HIJ.out]
            exact (Own.stored hownP HP.out ij (by omega)).1
          · exact Below.setCell hbelP (Nat.le_refl _) _
    · have hend : n32 O = n32 a * n32 b := by rw [hE, List.take_of_length_le (by omega)]
      have H := Lib.hid hend
      clear hend hE hO hz
      go_wp2_with (fail)
      go_at_call 94
      have ht := trim_any _ O wr (Own.rd hown) hD
      rw [H.out] at ht
      refine ht.mono ?_
      rintro _ w' ⟨⟨v, rfl, hbig⟩, hb⟩
      go_wp2
      go_ret
      exact ⟨⟨_, rfl, hbig⟩, hbel.trans (hb.mono hbel.size)⟩
end Go.Proofs.YtkmgfbhnioojhaaGreat
