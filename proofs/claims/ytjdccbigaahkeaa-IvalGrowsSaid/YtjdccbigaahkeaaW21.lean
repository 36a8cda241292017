/- Contracts: the reference's products of whole numbers of any length. -/
import Derived.Test.YtjdccbigaahkeaaW20
import Derived.IntWalk
namespace Go.Proofs.Ytjdccbigaahkeaa
set_option linter.unusedSimpArgs false
set_option linter.unusedVariables false
open Go.RowKit
open Fl

theorem own_made {w : World} {base g n : Nat} (h : w.ownsRow base 98 1 (.slice (some ⟨g, 0, none⟩) n n) n (madeCells (Value.int .u32 0).cells (n * 1)).toList) : Own base w (.slice (some ⟨g, 0, none⟩) n n) (List.replicate n 0) := by
  unfold Own
  have e : (madeCells (Value.int .u32 0).cells (n * 1)).toList = u32s (List.replicate n 0) := by
    rw [Nat.mul_one]
    show (madeCells #[Value.int .u32 0] n).toList = _
    rw [toList_madeCells_one]
    unfold u32s; simp
  rw [e] at h
  rw [List.length_replicate]
  exact h

theorem Own.stored {base : Nat} {w : World} {g n cap : Nat} {L : List Nat} (h : Own base w (.slice (some ⟨g, 0, none⟩) n cap) L) (hn : L.length = n) (j : Nat) {D : Int} {d : Nat} (hD : D = (d : Int)) :
    Own base (w.setCell ⟨g, j, none⟩ (.int .u32 D)) (.slice (some ⟨g, 0, none⟩) n cap) (L.set j d) ∧ w.grownBy (w.setCell ⟨g, j, none⟩ (.int .u32 D)) (some g) := by
  subst hD hn
  have := World.ownsRow.stored h j (.int .u32 (d : Int))
  refine ⟨?_, this.2⟩
  unfold Own
  rw [List.length_set]
  have e : u32s (L.set j d) = (u32s L).set j (.int .u32 (d : Int)) := by unfold u32s; rw [List.map_set]
  rw [e]
  exact this.1
theorem Own.cellAt {base : Nat} {w : World} {g n cap : Nat} {L : List Nat} (h : Own base w (.slice (some ⟨g, 0, none⟩) n cap) L) (hn : L.length = n) (j : Nat) (hj : j < n) : w.cell? ⟨g, j, none⟩ = some (.int .u32 ((L.getD j 0 : Nat) : Int)) := by
  subst hn
  rw [World.ownsRow.cellAt h j (by omega), u32s_get L hj]
theorem Own.frozenAt {base : Nat} {w : World} {g n cap : Nat} {L : List Nat} (h : Own base w (.slice (some ⟨g, 0, none⟩) n cap) L) (hn : L.length = n) (j : Nat) : w.frozen? ⟨g, j, none⟩ = false := by
  subst hn
  exact World.ownsRow.frozenAt h j
theorem Own.drewN {base : Nat} {w : World} {v : Value} {L : List Nat} (h : Own base w v L) (k : Nat) : Own base (w.drewN k) v L := by
  refine ⟨h.1, ?_⟩
  rcases h.2 with h | ⟨g, cap, cur, r⟩
  · exact Or.inl h
  · exact Or.inr ⟨g, cap, cur, r⟩

theorem getD_set_ne {l : List Nat} {i j d : Nat} (h : i ≠ j) : (l.set i d).getD j 0 = l.getD j 0 := by
  simp only [List.getD_eq_getElem?_getD, List.getElem?_set]
  rw [if_neg h]

def ByInv (W : World) (a b : List Nat) (i : Value) (w : World) : Prop :=
  ∃ (k : Nat) (O : List Nat), i = .int .i64 k ∧ k ≤ a.length ∧ O.length = a.length + b.length + 1 ∧ Dig O ∧ (∀ t, k + b.length ≤ t → O.getD t 0 = 0) ∧ n32 O = n32 (a.take k) * n32 b ∧ Own W.heap.size w (.slice (some ⟨W.heap.size, 0, none⟩) (a.length + b.length + 1) (a.length + b.length + 1)) O ∧ Below W.heap.size W w

def ByInv2 (W : World) (a b : List Nat) (i : Nat) (c j : Value) (w : World) : Prop :=
  ∃ (k cn : Nat) (O : List Nat), j = .int .i64 k ∧ c = .int .u64 cn ∧ cn < 4294967296 ∧ k ≤ b.length ∧ O.length = a.length + b.length + 1 ∧ Dig O ∧ (∀ t, i + b.length ≤ t → O.getD t 0 = 0) ∧
    n32 O + bp (i + k) * cn = n32 (a.take i) * n32 b + bp i * a.getD i 0 * n32 (b.take k) ∧ Own W.heap.size w (.slice (some ⟨W.heap.size, 0, none⟩) (a.length + b.length + 1) (a.length + b.length + 1)) O ∧ Below W.heap.size W w

theorem by_small {x y o c : Nat} (hx : x < 4294967296) (hy : y < 4294967296) (ho : o < 4294967296) (hc : c < 4294967296) : x * y ≤ 18446744065119617025 ∧ x * y + o + c < 18446744073709551616 := by
  have h1 : x * y ≤ 4294967295 * 4294967295 := Nat.mul_le_mul (by omega) (by omega)
  omega

set_option maxHeartbeats 8000000 in
theorem bby_any (va vb : Value) (a b : List Nat) (w : World) (ha : Rd w va a) (hb : Rd w vb b) (da : Dig a) (db : Dig b) (la : a.length ≤ 1000000) (lb : b.length ≤ 1000000) :
    Calls Try.prog 133 #[va, vb] w (BigRes (n32 a * n32 b) w) := by
  obtain ⟨A, ca, rfl, ha1, ha2, ha3⟩ := ha
  obtain ⟨B, cb, rfl, hb1, hb2, hb3⟩ := hb
  have HA := Lib.hid ha3
  have HB := Lib.hid hb3
  have DA := Lib.hid da
  have DB := Lib.hid db
  clear ha3 hb3 da db
  obtain ⟨i0, hi, hz0, hz1, hz2⟩ := info_parts info98
  go_enter Try.func133, Try.ntmps133
  go_wp2_with (at_make; refine wpList_make_full _ rfl _ _ 69 rfl w.heap.size 98 i0 (.int .u32 0) 1 Try.underlying69 hi hz0 hz1 _ _ _ _ (a.length + b.length + 1) rfl rfl (by simp) (by simp) (by rw [hz2]; omega) (by unfold maxLen; omega) (Nat.le_refl _) ?_; intro w1 hown1 hg1)
  go_loopw [6] (fun i wr => ByInv w a b i wr) (fun i _ => a.length - (intOf i).toNat)
  case atStart => exact ⟨0, _, rfl, Nat.zero_le _, by simp, dig_zeros _, (fun t _ => by simp only [List.getD_eq_getElem?_getD, List.getElem?_replicate]; split <;> rfl), by rw [n32_zeros]; simp [n32], own_made hown1, (Below.refl _ _).grown hg1 (Nat.le_refl _) (fun k hk => by cases hk)⟩
  case round =>
    obtain ⟨k, O, rfl, hk, hO, hD, hz, hE, hown, hbel⟩ := hrel
    have hk2 : (k : Int) ≤ 1000000 := by omega
    have ha4 : (a.length : Int) ≤ 1000000 := by omega
    have hb4 : (b.length : Int) ≤ 1000000 := by omega
    by_cases h1 : k < a.length
    · obtain ⟨b1, o1, eA, c1⟩ := HA.out k h1
      subst eA
      have x1 := DA.out k
      generalize hx : a.getD k 0 = x at *
      have HX := Lib.hid hx
      have HZ := Lib.hid hz
      have HO := Lib.hid hO
      have HE := Lib.hid hE
      clear hx hz hO hE
      have x2 : (x : Int) ≤ 4294967295 := by omega
      go_wp2
      obtain ⟨wo, hwo⟩ : ∃ wo : World, wo = wr := ⟨_, rfl⟩
      subst hwo
      go_loopw [7, 8] (fun c j wr => ByInv2 w a b k c j wr) (fun _ j _ => b.length - (intOf j).toNat)
      case atStart => exact ⟨0, 0, O, rfl, rfl, by decide, Nat.zero_le _, HO.out, hD, HZ.out, by simp [n32, HE.out], hown, hbel⟩
      case round =>
        obtain ⟨j, cn, P, rfl, rfl, hcn, hj, hP, hDP, hzP, hEP, hownP, hbelP⟩ := hrel
        have hj2 : (j : Int) ≤ 1000000 := by omega
        have cn2 : (cn : Int) ≤ 4294967295 := by omega
        replace c1 := HA.out k h1
        obtain ⟨b1', o1', eA', c1⟩ := c1
        injection eA' with eA'
        injection eA' with eA1 eA2
        subst eA1 eA2
        rw [HX.out] at c1
        replace c1 := (hbelP.cell (World.block_lt_of_cell? w _ c1)).trans c1
        by_cases h2 : j < b.length
        · obtain ⟨b2, o2, eB, c2⟩ := HB.out j h2
          subst eB
          replace c2 := (hbelP.cell (World.block_lt_of_cell? w _ c2)).trans c2
          have y1 := DB.out j
          have hij : k + j < a.length + b.length + 1 := by omega
          have c3 := Own.cellAt hownP hP (k + j) hij
          have c4 := Own.frozenAt hownP hP (k + j)
          have oo := hDP (k + j)
          have hr := fun n h => by_round (O := P) (a := a) (b := b) (i := k) (j := j) (c := cn) (n := n) (by omega) hEP h
          rw [HX.out] at hr
          generalize hy : b.getD j 0 = y at *
          generalize ho : P.getD (k + j) 0 = o at *
          obtain ⟨p1, p2⟩ := by_small x1 y1 oo hcn
          obtain ⟨ij, hij0⟩ : ∃ ij : Nat, ij = k + j := ⟨_, rfl⟩
          obtain ⟨p, hp⟩ : ∃ p : Nat, p = x * y := ⟨_, rfl⟩
          obtain ⟨n, hn⟩ : ∃ n : Nat, n = p + o + cn := ⟨_, rfl⟩
          obtain ⟨t, ht⟩ : ∃ t : Nat, t = p + o := ⟨_, rfl⟩
          have HR := Lib.hid (hr n (by rw [hn, hp]))
          rw [← hij0] at c3 c4 hij
          rw [← hp] at p1 p2
          have e1 : (k : Int) + (j : Int) = (ij : Int) := by omega
          have e2 : (x : Int) * (y : Int) = (p : Int) := by rw [hp]; simp
          have e3 : (p : Int) + (o : Int) = (t : Int) := by omega
          have e4 : (t : Int) + (cn : Int) = (n : Int) := by omega
          have b1 : (ij : Int) ≤ 3000000 := by omega
          have b2 : (p : Int) ≤ 18446744073709551615 := by omega
          have b3 : (t : Int) ≤ 18446744073709551615 := by omega
          have b4 : (n : Int) ≤ 18446744073709551615 := by omega
          have b5 : (x : Int) ≤ 4294967295 := by omega
          have b6 : (y : Int) ≤ 4294967295 := by omega
          have b7 : (o : Int) ≤ 4294967295 := by omega
          have w1 : IntKind.i64.wrap (ij : Int) = (ij : Int) := IntWalk.i64_in _ ⟨by omega, by omega⟩
          have w2 : IntKind.u64.wrap (p : Int) = (p : Int) := IntWalk.u64_in _ ⟨by omega, by omega⟩
          have w3 : IntKind.u64.wrap (t : Int) = (t : Int) := IntWalk.u64_in _ ⟨by omega, by omega⟩
          have w4 : IntKind.u64.wrap (n : Int) = (n : Int) := IntWalk.u64_in _ ⟨by omega, by omega⟩
          have w5 : IntKind.u64.wrap (x : Int) = (x : Int) := IntWalk.u64_in _ ⟨by omega, by omega⟩
          have w6 : IntKind.u64.wrap (y : Int) = (y : Int) := IntWalk.u64_in _ ⟨by omega, by omega⟩
          have w7 : IntKind.u64.wrap (o : Int) = (o : Int) := IntWalk.u64_in _ ⟨by omega, by omega⟩
          have HEP := Lib.hid hEP
          have HP := Lib.hid hP
          have HZP := Lib.hid hzP
          have HIJ := Lib.hid hij0
          have HP2 := Lib.hid hp
          have HN := Lib.hid hn
          have HT := Lib.hid ht
          have HY := Lib.hid hy
          have HOo := Lib.hid ho
          clear hr hEP hP hzP hij0 hp hn ht hy ho p1 p2
          go_wp2
          go_quiet (fail)
          go_wp2
          refine ⟨⟨j + 1, n / 4294967296, P.set (k + j) (n % 4294967296), by go_num, u64_eq (by omega), by omega, h2, by rw [List.length_set]; exact HP.out, dig_set hDP (Nat.mod_lt _ (by decide)) _, ?_, by rw [HX.out]; exact HR.out, ?_, ?_⟩, by simp [intOf]; omega⟩
          · intro t ht
            rw [getD_set_ne (by omega)]
            exact HZP.out t ht
          · rw [← HIJ.out]
            exact (Own.stored (hownP.drewN nq) HP.out ij (by omega)).1
          · exact Below.setCell (Below.drewN' nq hbelP) (Nat.le_refl _) _
        · obtain rfl : j = b.length := by omega
          have hij : k + b.length < a.length + b.length + 1 := by omega
          have c3 := Own.cellAt hownP hP (k + b.length) hij
          have c4 := Own.frozenAt hownP hP (k + b.length)
          have he := by_end (O := P) (a := a) (b := b) (i := k) (c := cn) (by omega) (hzP _ (Nat.le_refl _)) hEP
          rw [hzP _ (Nat.le_refl _)] at c3
          obtain ⟨ij, hij0⟩ : ∃ ij : Nat, ij = k + b.length := ⟨_, rfl⟩
          rw [← hij0] at c3 c4 hij
          have e1 : (k : Int) + (b.length : Int) = (ij : Int) := by omega
          have b1 : (ij : Int) ≤ 3000000 := by omega
          have HEN := Lib.hid he
          have HEP := Lib.hid hEP
          have HP := Lib.hid hP
          have HZP := Lib.hid hzP
          have HIJ := Lib.hid hij0
          clear he hEP hP hzP hij0
          go_wp2
          refine ⟨⟨k + 1, P.set (k + b.length) cn, by go_num, h1, by rw [List.length_set]; exact HP.out, dig_set hDP hcn _, ?_, HEN.out, ?_, ?_⟩, by simp [intOf]; omega⟩
          · intro t ht
            rw [getD_set_ne (by omega)]
            exact HZP.out t (by omega)
          · rw [← HIJ.out]
            exact (Own.stored hownP HP.out ij (by omega)).1
          · exact Below.setCell hbelP (Nat.le_refl _) _
    · have hend : n32 O = n32 a * n32 b := by rw [hE, List.take_of_length_le (by omega)]
      have H := Lib.hid hend
      clear hend hE hO hz
      go_wp2_with (fail)
      go_at_call 132
      have ht := trim_any _ O wr (Own.rd hown) hD
      rw [H.out] at ht
      refine ht.mono ?_
      rintro _ w' ⟨⟨v, rfl, hbig⟩, hb⟩
      go_wp2
      go_ret
      exact ⟨⟨_, rfl, hbig⟩, hbel.trans (hb.mono hbel.size)⟩
end Go.Proofs.Ytjdccbigaahkeaa
