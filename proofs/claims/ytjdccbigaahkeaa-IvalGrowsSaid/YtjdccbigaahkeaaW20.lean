/- Contracts: the reference's differences of whole numbers of any length; which one is the greater. -/
import Derived.Test.YtjdccbigaahkeaaW19
namespace Go.Proofs.Ytjdccbigaahkeaa
set_option linter.unusedSimpArgs false
set_option linter.unusedVariables false
open Go.RowKit
open Fl

def LessInv (W : World) (a b : List Nat) (out c i : Value) (w : World) : Prop :=
  ∃ (k cn : Nat) (L : List Nat), i = .int .i64 k ∧ c = .int .i64 cn ∧ cn ≤ 1 ∧ k ≤ a.length ∧ L.length = k ∧ Dig L ∧ n32 L + n32 (b.take k) = n32 (a.take k) + bp k * cn ∧ Own W.heap.size w out L ∧ Below W.heap.size W w

set_option maxHeartbeats 4000000 in
theorem bless_any (va vb : Value) (a b : List Nat) (w : World) (ha : Rd w va a) (hb : Rd w vb b) (da : Dig a) (db : Dig b) (tb : Top b) (hle : n32 b ≤ n32 a) (la : a.length ≤ 1000000) :
    Calls Try.prog 139 #[va, vb] w (BigRes (n32 a - n32 b) w) := by
  obtain ⟨A, ca, rfl, ha1, ha2, ha3⟩ := ha
  obtain ⟨B, cb, rfl, hb1, hb2, hb3⟩ := hb
  have lb : b.length ≤ 1000000 := Nat.le_trans (len_mono tb da hle) la
  have HA := Lib.hid ha3
  have HB := Lib.hid hb3
  have DA := Lib.hid da
  have DB := Lib.hid db
  have TB := Lib.hid tb
  have LE := Lib.hid hle
  clear ha3 hb3 da db tb hle
  go_enter Try.func139, Try.ntmps139
  go_wp2
  go_loopw [5, 6, 7] (fun out c i wr => LessInv w a b out c i wr) (fun _ _ i _ => a.length - (intOf i).toNat)
  case atStart => exact ⟨0, 0, [], rfl, rfl, by decide, Nat.zero_le _, rfl, dig_nil, by simp [n32], own_new w, (Below.refl _ _).alloc (Nat.le_refl _) _⟩
  case round =>
    obtain ⟨k, cn, L, rfl, rfl, hcn, hk, hL, hD, hE, hown, hbel⟩ := hrel
    have hk2 : (k : Int) ≤ 1000000 := by omega
    have cn2 : (cn : Int) ≤ 1 := by omega
    by_cases h1 : k < a.length
    · obtain ⟨b1, o1, eA, c1⟩ := HA.out k h1
      subst eA
      replace c1 := (hbel.cell (World.block_lt_of_cell? w _ c1)).trans c1
      have x1 := DA.out k
      have y1 := DB.out k
      have hst := fun d c' h => less_step (d := d) (c' := c') hL hE h
      by_cases h2 : k < b.length
      · obtain ⟨b2, o2, eB, c2⟩ := HB.out k h2
        subst eB
        replace c2 := (hbel.cell (World.block_lt_of_cell? w _ c2)).trans c2
        generalize hx : a.getD k 0 = x at *
        generalize hy : b.getD k 0 = y at *
        have HS := Lib.hid hst
        have HL := Lib.hid hL
        have HX := Lib.hid hx
        have HY := Lib.hid hy
        clear hst hE hL hx hy
        have x2 : (x : Int) ≤ 4294967295 := by omega
        have y2 : (y : Int) ≤ 4294967295 := by omega
        by_cases hn : (x : Int) - cn - y < 0
        · go_wp2_with (at_builtin; refine wpList_append_u32 wr rfl (.tmp 38) (.tmp 41) rfl w.heap.size _ L _ (x + 4294967296 - cn - y) rfl rfl hown (by omega) (by have := HL.out; omega) hbel.size ?_; intro v1 w1 hown1 hb1)
          go_roundw
          case rel => exact ⟨k + 1, 1, _, by go_num, rfl, by omega, h1, by simp [HL.out], dig_snoc hD (by omega), HS.out _ 1 (by omega), hown1, hbel.trans hb1⟩
          case measure => simp [intOf]; omega
        · go_wp2_with (at_builtin; refine wpList_append_u32 wr rfl (.tmp 38) (.tmp 41) rfl w.heap.size _ L _ (x - cn - y) rfl rfl hown (by omega) (by have := HL.out; omega) hbel.size ?_; intro v1 w1 hown1 hb1)
          go_roundw
          case rel => exact ⟨k + 1, 0, _, by go_num, rfl, by omega, h1, by simp [HL.out], dig_snoc hD (by omega), HS.out _ 0 (by omega), hown1, hbel.trans hb1⟩
          case measure => simp [intOf]; omega
      · have hy : b.getD k 0 = 0 := getD_past (by omega)
        generalize hx : a.getD k 0 = x at *
        rw [hy] at hst
        have HS := Lib.hid hst
        have HL := Lib.hid hL
        have HX := Lib.hid hx
        clear hst hE hL hx hy
        have x2 : (x : Int) ≤ 4294967295 := by omega
        by_cases hn : (x : Int) - cn < 0
        · go_wp2_with (at_builtin; refine wpList_append_u32 wr rfl (.tmp 38) (.tmp 41) rfl w.heap.size _ L _ (x + 4294967296 - cn) rfl rfl hown (by omega) (by have := HL.out; omega) hbel.size ?_; intro v1 w1 hown1 hb1)
          go_roundw
          case rel => exact ⟨k + 1, 1, _, by go_num, rfl, by omega, h1, by simp [HL.out], dig_snoc hD (by omega), HS.out _ 1 (by omega), hown1, hbel.trans hb1⟩
          case measure => simp [intOf]; omega
        · go_wp2_with (at_builtin; refine wpList_append_u32 wr rfl (.tmp 38) (.tmp 41) rfl w.heap.size _ L _ (x - cn) rfl rfl hown (by omega) (by have := HL.out; omega) hbel.size ?_; intro v1 w1 hown1 hb1)
          go_roundw
          case rel => exact ⟨k + 1, 0, _, by go_num, rfl, by omega, h1, by simp [HL.out], dig_snoc hD (by omega), HS.out _ 0 (by omega), hown1, hbel.trans hb1⟩
          case measure => simp [intOf]; omega
    · obtain rfl : k = a.length := by omega
      have hend := less_end hL hD TB.out DA.out LE.out hE
      have HL := Lib.hid hL
      have HE := Lib.hid hend
      clear hL hE hend
      go_wp2_with (fail)
      go_at_call 132
      have ht := trim_any _ L wr (Own.rd hown) hD
      rw [HE.out] at ht
      refine ht.mono ?_
      rintro _ w' ⟨⟨v, rfl, hbig⟩, hb⟩
      go_wp2
      go_ret
      exact ⟨⟨_, rfl, hbig⟩, hbel.trans (hb.mono hbel.size)⟩

def IntRes (n : Int) (w : World) (e : Ending) (w' : World) : Prop := e = .returned (.int .i64 n) ∧ Below w.heap.size w w'

def CmpInv (W : World) (a b : List Nat) (i : Value) (w : World) : Prop :=
  ∃ (k : Nat), i = .int .i64 ((k : Int) - 1) ∧ k ≤ a.length ∧ a.drop k = b.drop k ∧ Below W.heap.size W w

theorem drop_step {a b : List Nat} {k : Nat} (hk : k < a.length) (e : a.length = b.length) (h : a.drop (k + 1) = b.drop (k + 1)) (hd : a.getD k 0 = b.getD k 0) : a.drop k = b.drop k := by
  rw [List.drop_eq_getElem_cons hk, List.drop_eq_getElem_cons (by omega : k < b.length), h]
  congr 1
  simpa [List.getD_eq_getElem?_getD, hk, (by omega : k < b.length)] using hd

set_option maxHeartbeats 4000000 in
theorem bcmp_any (va vb : Value) (a b : List Nat) (w : World) (ha : Rd w va a) (hb : Rd w vb b) (da : Dig a) (db : Dig b) (ta : Top a) (tb : Top b) (la : a.length ≤ 1000000) (lb : b.length ≤ 1000000) :
    Calls Try.prog 138 #[va, vb] w (IntRes (cmpI (n32 a) (n32 b)) w) := by
  obtain ⟨A, ca, rfl, ha1, ha2, ha3⟩ := ha
  obtain ⟨B, cb, rfl, hb1, hb2, hb3⟩ := hb
  rcases Nat.lt_trichotomy a.length b.length with hl | hl | hl
  · have hc : cmpI (n32 a) (n32 b) = -1 := by
      have : n32 a < n32 b := Nat.lt_of_not_le fun h => by have := len_mono tb da h; omega
      unfold cmpI; rw [if_pos this]
    rw [hc]
    have hne : ((a.length : Int) != (b.length : Int)) = true := by simp; omega
    have hlt : decide ((a.length : Int) < (b.length : Int)) = true := by simp; omega
    have hn2 : ¬ a.length = b.length := by omega
    clear ha3 hb3 da db ta tb hc
    go_enter Try.func138, Try.ntmps138
    go_wp2
    go_ret
    exact ⟨rfl, Below.refl _ _⟩
  · have HA := Lib.hid ha3
    have HB := Lib.hid hb3
    have DA := Lib.hid da
    have DB := Lib.hid db
    have HL := Lib.hid hl
    have hne : ((a.length : Int) != (b.length : Int)) = false := by simp; omega
    clear ha3 hb3 da db ta tb hl
    go_enter Try.func138, Try.ntmps138
    go_wp2
    go_loopw [5] (fun i wr => CmpInv w a b i wr) (fun i _ => (intOf i + 1).toNat)
    case atStart => exact ⟨a.length, rfl, Nat.le_refl _, by rw [List.drop_length, HL.out, List.drop_length], Below.refl _ _⟩
    case round =>
      obtain ⟨k, rfl, hk, hE, hbel⟩ := hrel
      clear hne
      cases k with
      | zero =>
        have e : a = b := by simpa using hE
        have hc : cmpI (n32 a) (n32 b) = 0 := by rw [e]; unfold cmpI; simp
        have H := Lib.hid hc
        clear hE e hc
        go_wp2
        go_ret
        exact ⟨by rw [H.out]; rfl, hbel⟩
      | succ j =>
        obtain ⟨b1, o1, eA, c1⟩ := HA.out j (by omega)
        obtain ⟨b2, o2, eB, c2⟩ := HB.out j (by have := HL.out; omega)
        subst eA eB
        replace c1 := (hbel.cell (World.block_lt_of_cell? w _ c1)).trans c1
        replace c2 := (hbel.cell (World.block_lt_of_cell? w _ c2)).trans c2
        have c3 := cmp_at DA.out DB.out HL.out (i := j) (by omega) hE
        have c4 := cmp_at DB.out DA.out HL.out.symm (i := j) (by have := HL.out; omega) hE.symm
        have c5 := drop_step (k := j) (by omega) HL.out hE
        have hj0 : (0 : Int) ≤ (j : Int) := by omega
        have hja : (j : Int) < (a.length : Int) := by omega
        have hjb : (j : Int) < (b.length : Int) := by have := HL.out; omega
        have hjc : (j : Int) ≤ 1000000 := by omega
        generalize a.getD j 0 = x at *
        generalize b.getD j 0 = y at *
        have HC3 := Lib.hid c3
        have HC4 := Lib.hid c4
        have HC5 := Lib.hid c5
        clear c3 c4 c5 hE
        by_cases t1 : x < y
        · have hc : cmpI (n32 a) (n32 b) = -1 := by unfold cmpI; rw [if_pos (HC3.out t1)]
          have H := Lib.hid hc
          clear hc
          go_wp2
          go_quiet (fail)
          go_wp2
          go_ret
          exact ⟨by rw [H.out]; rfl, by (repeat' (first | (with_reducible exact Below.refl _ _) | (with_reducible assumption) | (with_reducible refine Later.belowOf _ ?_ ?_) | (with_reducible refine Below.alloc ?_ ?_ _) | (with_reducible refine Below.setCell ?_ ?_ _) | (with_reducible refine Below.drewN' _ ?_) | (with_reducible refine Below.drew ?_) | (with_reducible exact Ge.le) | go_size))⟩
        · by_cases t2 : y < x
          · have hc : cmpI (n32 a) (n32 b) = 1 := by
              have := HC4.out t2
              unfold cmpI; rw [if_neg (by omega), if_pos this]
            have H := Lib.hid hc
            clear hc
            go_wp2
            go_quiet (fail)
            go_wp2
            go_quiet (fail)
            go_wp2
            go_ret
            exact ⟨by rw [H.out]; rfl, by (repeat' (first | (with_reducible exact Below.refl _ _) | (with_reducible assumption) | (with_reducible refine Later.belowOf _ ?_ ?_) | (with_reducible refine Below.alloc ?_ ?_ _) | (with_reducible refine Below.setCell ?_ ?_ _) | (with_reducible refine Below.drewN' _ ?_) | (with_reducible refine Below.drew ?_) | (with_reducible exact Ge.le) | go_size))⟩
          · have hxy := HC5.out (by omega)
            have H := Lib.hid hxy
            clear hxy
            go_wp2
            go_quiet (fail)
            go_wp2
            go_quiet (fail)
            go_wp2
            go_roundw
            case rel => exact ⟨j, by go_num, by omega, H.out, by (repeat' (first | (with_reducible exact Below.refl _ _) | (with_reducible assumption) | (with_reducible refine Later.belowOf _ ?_ ?_) | (with_reducible refine Below.alloc ?_ ?_ _) | (with_reducible refine Below.setCell ?_ ?_ _) | (with_reducible refine Below.drewN' _ ?_) | (with_reducible refine Below.drew ?_) | (with_reducible exact Ge.le) | go_size))⟩
            case measure => simp [intOf]
  · have hc : cmpI (n32 a) (n32 b) = 1 := by
      have : n32 b < n32 a := Nat.lt_of_not_le fun h => by have := len_mono ta db h; omega
      unfold cmpI; rw [if_neg (by omega), if_pos this]
    rw [hc]
    have hne : ((a.length : Int) != (b.length : Int)) = true := by simp; omega
    have hlt : decide ((a.length : Int) < (b.length : Int)) = false := by simp; omega
    have hn2 : ¬ a.length = b.length := by omega
    have hn3 : ¬ a.length < b.length := by omega
    clear ha3 hb3 da db ta tb hc
    go_enter Try.func138, Try.ntmps138
    go_wp2
    go_ret
    exact ⟨rfl, Below.refl _ _⟩
end Go.Proofs.Ytjdccbigaahkeaa
