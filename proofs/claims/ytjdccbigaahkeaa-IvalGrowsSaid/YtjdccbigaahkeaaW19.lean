/- Contracts: the reference's sums and differences of whole numbers of any length. -/
import Derived.Test.YtjdccbigaahkeaaW18
import Derived.Lib.SmallJoins
namespace Go.Proofs.Ytjdccbigaahkeaa
set_option linter.unusedSimpArgs false
set_option linter.unusedVariables false
open Go.RowKit
open Fl

theorem info98 : (Try.prog.info? 98).map (fun i => (i.zero, i.size, i.bytes)) = some (some (.int .u32 0), 1, 4) := by kernel_rfl

def u32s (l : List Nat) : List Value := l.map fun (d : Nat) => Value.int .u32 (d : Int)
theorem u32s_snoc (l : List Nat) (d : Nat) : u32s (l ++ [d]) = u32s l ++ [.int .u32 (d : Int)] := by unfold u32s; simp
theorem u32s_get (l : List Nat) {i : Nat} (h : i < l.length) : (u32s l)[i]? = some (.int .u32 ((l.getD i 0 : Nat) : Int)) := by unfold u32s; simp [h]
theorem u32s_len (l : List Nat) : (u32s l).length = l.length := by unfold u32s; simp

/-- A row of the call's own: digits. -/
def Own (base : Nat) (w : World) (v : Value) (l : List Nat) : Prop := w.ownsRow base 98 1 v l.length (u32s l)

theorem Own.rd {base : Nat} {w : World} {v : Value} {l : List Nat} (h : Own base w v l) : Rd w v l := by
  have h' := h
  unfold Own at h
  rcases Joins.ownsRow_forms h with ⟨rfl, hn⟩ | ⟨g, cap, rfl⟩
  · exact ⟨none, 0, by rw [hn], by omega, by decide, fun i hi => by omega⟩
  · rcases h.2 with ⟨he, _⟩ | ⟨g', cap', cur, he, _, _, hnc, hcm, _⟩
    · simp at he
    · simp only [Value.slice.injEq, Option.some.injEq, Addr.mk.injEq, and_true, true_and] at he
      obtain ⟨rfl, rfl⟩ := he
      refine ⟨_, cap, rfl, hnc, hcm, fun i hi => ⟨g, 0, rfl, ?_⟩⟩
      rw [Nat.zero_add, World.ownsRow.cellAt h i (by omega), u32s_get l hi]

theorem own_new (w : World) : Own w.heap.size (w.alloc (.cells #[] 98)) (.slice (some ⟨w.heap.size, 0, none⟩) 0 0) [] := World.ownsRow_lit w #[] 0 (Nat.le_refl _) (by decide) rfl

/-- One digit is appended. -/
theorem wpList_append_u32 (wr : World) {ops : Array Oper} {rest : List Oper} {o : Oper} {a : Act} {Q : Exit → Act → World → Prop} (hgd : o.guard = none) (s x : Operand)
    (ho : o.op = .call { callee := .builtin .append, args := #[s, x], argTypes := #[69, 69] }) (base : Nat) (v : Value) (L : List Nat) (D : Int) (d : Nat)
    (hs : a.eval s = v) (hx : a.eval x = .slice (some ⟨wr.heap.size, 0, none⟩) 1 1) (hown : Own base wr v L) (hD : D = (d : Int)) (hL : L.length ≤ 3000000) (hb : base ≤ wr.heap.size)
    (h : ∀ v' w', Own base w' v' (L ++ [d]) → Below base wr w' → wpList Try.prog ops Q rest (a.put o.dst v') w') :
    wpList Try.prog ops Q (o :: rest) a (wr.alloc (.cells #[.int .u32 D] 98)) := by
  obtain ⟨i0, hi, hz0, hz1, hz2⟩ := info_parts info98
  subst hD
  refine wpList_append_own _ hgd s x 69 ho base 98 i0 (.int .u32 0) 1 4 Try.underlying69 hi hz0 hz1 hz2 rfl (by decide) v _ _ hs (World.ownsRow.alloc hown _) ⟨wr.heap.size, 0, none⟩ 1 1 [.int .u32 (d : Int)] hx rfl ?_ ?_ ?_ ?_ ?_ ?_
  · intro j u hu
    match j, hu with
    | 0, hu =>
      have : u = .int .u32 (d : Int) := by simpa using hu.symm
      subst this
      show World.cell? _ ⟨wr.heap.size, 0, none⟩ = _
      rw [World.cell?_alloc_at _ _ _ _ rfl]; rfl
  · intro u hu
    have : u = .int .u32 (d : Int) := by simpa using hu
    subst this; rfl
  · unfold maxLen; omega
  · omega
  · simp; omega
  · intro v' w' h1 h2 _
    refine h v' w' ?_ ?_
    · unfold Own
      rw [List.length_append, List.length_singleton, u32s_snoc]
      exact h1
    · refine ((Below.refl base wr).alloc hb _).grown h2 (by simp; omega) ?_
      intro k hk
      exact (World.ownsRow.lt hown k hk).1

theorem getD_past {l : List Nat} {k : Nat} (h : l.length ≤ k) : l.getD k 0 = 0 := by
  simp only [List.getD_eq_getElem?_getD]; rw [List.getElem?_eq_none h]; rfl
theorem u64_eq {a b : Int} (h : a = b) : Value.int .u64 a = .int .u64 b := by rw [h]
theorem i64_eq {a b : Int} (h : a = b) : Value.int .i64 a = .int .i64 b := by rw [h]

def PlusInv (W : World) (a b : List Nat) (out c i : Value) (w : World) : Prop :=
  ∃ (k cn : Nat) (L : List Nat), i = .int .i64 k ∧ c = .int .u64 cn ∧ cn ≤ 1 ∧ k ≤ 1000000 ∧ (k ≤ a.length ∨ k ≤ b.length) ∧ L.length = k ∧ Dig L ∧ n32 L + bp k * cn = n32 (a.take k) + n32 (b.take k) ∧ Own W.heap.size w out L ∧ Below W.heap.size W w

set_option maxHeartbeats 4000000 in
theorem bplus_any (va vb : Value) (a b : List Nat) (w : World) (ha : Rd w va a) (hb : Rd w vb b) (da : Dig a) (db : Dig b) (la : a.length ≤ 1000000) (lb : b.length ≤ 1000000) :
    Calls Try.prog 137 #[va, vb] w (BigRes (n32 a + n32 b) w) := by
  obtain ⟨A, ca, rfl, ha1, ha2, ha3⟩ := ha
  obtain ⟨B, cb, rfl, hb1, hb2, hb3⟩ := hb
  have HA := Lib.hid ha3
  have HB := Lib.hid hb3
  have DA := Lib.hid da
  have DB := Lib.hid db
  clear ha3 hb3 da db
  obtain ⟨i0, hi, hz0, hz1, hz2⟩ := info_parts info98
  go_enter Try.func137, Try.ntmps137
  go_wp2
  go_loopw [5, 6, 7] (fun out c i wr => PlusInv w a b out c i wr) (fun _ _ i _ => a.length + b.length - (intOf i).toNat)
  case atStart => exact ⟨0, 0, [], rfl, rfl, by decide, by decide, Or.inl (Nat.zero_le _), rfl, dig_nil, rfl, own_new w, (Below.refl _ _).alloc (Nat.le_refl _) _⟩
  case round =>
    obtain ⟨k, cn, L, rfl, rfl, hcn, hk, hkk, hL, hD, hE, hown, hbel⟩ := hrel
    by_cases h1 : k < a.length
    · by_cases h2 : k < b.length
      · obtain ⟨b1, o1, eA, c1⟩ := HA.out k h1
        obtain ⟨b2, o2, eB, c2⟩ := HB.out k h2
        subst eA eB
        replace c1 := (hbel.cell (World.block_lt_of_cell? w _ c1)).trans c1
        replace c2 := (hbel.cell (World.block_lt_of_cell? w _ c2)).trans c2
        have x1 := DA.out k
        have y1 := DB.out k
        have hst := fun s h => plus_round (s := s) hL hE h
        generalize hx : a.getD k 0 = x at *
        generalize hy : b.getD k 0 = y at *
        have HS := Lib.hid (hst (cn + x + y) rfl)
        have HE := Lib.hid hE
        have HL := Lib.hid hL
        have HX := Lib.hid hx
        have HY := Lib.hid hy
        clear hst hE hL hx hy
        have x2 : (x : Int) ≤ 4294967295 := by omega
        have y2 : (y : Int) ≤ 4294967295 := by omega
        have cn2 : (cn : Int) ≤ 1 := by omega
        have hk2 : (k : Int) ≤ 1000000 := by omega
        go_wp2_with (at_builtin; refine wpList_append_u32 wr rfl (.tmp 43) (.tmp 46) rfl w.heap.size _ L _ ((cn + x + y) % 4294967296) rfl rfl hown (by omega) (by have := HL.out; omega) hbel.size ?_; intro v1 w1 hown1 hb1)
        go_roundw
        case rel => exact ⟨k + 1, (cn + x + y) / 4294967296, _, by go_num, u64_eq (by omega), by omega, by omega, Or.inl h1, by simp [HL.out], dig_snoc hD (Nat.mod_lt _ (by decide)), HS.out, hown1, hbel.trans hb1⟩
        case measure => simp [intOf]; omega
      · obtain ⟨b1, o1, eA, c1⟩ := HA.out k h1
        subst eA
        replace c1 := (hbel.cell (World.block_lt_of_cell? w _ c1)).trans c1
        have x1 := DA.out k
        have hst := fun s h => plus_round (s := s) hL hE h
        have hy : b.getD k 0 = 0 := getD_past (by omega)
        generalize hx : a.getD k 0 = x at *
        rw [hy] at hst
        have HS := Lib.hid (hst (cn + x + 0) rfl)
        have HE := Lib.hid hE
        have HL := Lib.hid hL
        have HX := Lib.hid hx
        clear hst hE hL hx hy
        have x2 : (x : Int) ≤ 4294967295 := by omega
        have cn2 : (cn : Int) ≤ 1 := by omega
        have hk2 : (k : Int) ≤ 1000000 := by omega
        go_wp2_with (at_builtin; refine wpList_append_u32 wr rfl (.tmp 43) (.tmp 46) rfl w.heap.size _ L _ ((cn + x + 0) % 4294967296) rfl rfl hown (by omega) (by have := HL.out; omega) hbel.size ?_; intro v1 w1 hown1 hb1)
        go_roundw
        case rel => exact ⟨k + 1, (cn + x + 0) / 4294967296, _, by go_num, u64_eq (by omega), by omega, by omega, Or.inl h1, by simp [HL.out], dig_snoc hD (Nat.mod_lt _ (by decide)), HS.out, hown1, hbel.trans hb1⟩
        case measure => simp [intOf]; omega
    · by_cases h2 : k < b.length
      · obtain ⟨b2, o2, eB, c2⟩ := HB.out k h2
        subst eB
        replace c2 := (hbel.cell (World.block_lt_of_cell? w _ c2)).trans c2
        have y1 := DB.out k
        have hst := fun s h => plus_round (s := s) hL hE h
        have hx : a.getD k 0 = 0 := getD_past (by omega)
        generalize hy : b.getD k 0 = y at *
        rw [hx] at hst
        have HS := Lib.hid (hst (cn + 0 + y) rfl)
        have HE := Lib.hid hE
        have HL := Lib.hid hL
        have HY := Lib.hid hy
        clear hst hE hL hx hy
        have y2 : (y : Int) ≤ 4294967295 := by omega
        have cn2 : (cn : Int) ≤ 1 := by omega
        have hk2 : (k : Int) ≤ 1000000 := by omega
        go_wp2_with (at_builtin; refine wpList_append_u32 wr rfl (.tmp 43) (.tmp 46) rfl w.heap.size _ L _ ((cn + 0 + y) % 4294967296) rfl rfl hown (by omega) (by have := HL.out; omega) hbel.size ?_; intro v1 w1 hown1 hb1)
        go_roundw
        case rel => exact ⟨k + 1, (cn + 0 + y) / 4294967296, _, by go_num, u64_eq (by omega), by omega, by omega, Or.inr h2, by simp [HL.out], dig_snoc hD (Nat.mod_lt _ (by decide)), HS.out, hown1, hbel.trans hb1⟩
        case measure => simp [intOf]; omega
      · have hend : n32 (L ++ [cn]) = n32 a + n32 b := by
          rw [n32_snoc, hL, hE, List.take_of_length_le (by omega), List.take_of_length_le (by omega)]
        have HE := Lib.hid hend
        have HL := Lib.hid hL
        clear hend hE hL
        have cn2 : (cn : Int) ≤ 1 := by omega
        have hk2 : (k : Int) ≤ 1000000 := by omega
        go_wp2_with (at_builtin; refine wpList_append_u32 wr rfl (.tmp 50) (.tmp 53) rfl w.heap.size _ L _ cn rfl rfl hown (by omega) (by have := HL.out; omega) hbel.size ?_; intro v1 w1 hown1 hb1)
        go_at_call 132
        have ht := trim_any v1 (L ++ [cn]) w1 (Own.rd hown1) (dig_snoc hD (by omega))
        rw [HE.out] at ht
        refine ht.mono ?_
        rintro _ w' ⟨⟨v, rfl, hbig⟩, hb⟩
        go_wp2
        go_ret
        have hb2 := hbel.trans hb1
        exact ⟨⟨_, rfl, hbig⟩, hb2.trans (hb.mono hb2.size)⟩
end Go.Proofs.Ytjdccbigaahkeaa
