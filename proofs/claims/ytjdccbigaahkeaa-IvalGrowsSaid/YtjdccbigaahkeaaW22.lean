/- Contracts: the reference's whole numbers of any length to the left; their bits. -/
import Derived.Test.YtjdccbigaahkeaaW21
namespace Go.Proofs.Ytjdccbigaahkeaa
set_option linter.unusedSimpArgs false
set_option linter.unusedVariables false
open Go.RowKit
open Fl

def LeftInv (W : World) (a : List Nat) (q s : Nat) (out c i : Value) (w : World) : Prop :=
  ∃ (k cn : Nat) (L : List Nat), i = .int .i64 k ∧ c = .int .u64 cn ∧ cn < 2 ^ s ∧ k ≤ a.length ∧ L.length = q + k ∧ Dig L ∧ n32 L + bp (q + k) * cn = bp q * 2 ^ s * n32 (a.take k) ∧ Own W.heap.size w out L ∧ Below W.heap.size W w

theorem left_pow (q s : Nat) : bp q * 2 ^ s = 2 ^ (32 * q + s) := by rw [bp_pw, pw_eq, Nat.pow_add]

theorem or_shl {c d s : Nat} (hs : s < 32) (hc : c < 2 ^ s) (hd : d < 4294967296) : bits BinOp.or IntKind.u64 (c : Int) ((d * 2 ^ s : Nat) : Int) = ((c + d * 2 ^ s : Nat) : Int) := by
  have h1 := (left_carry hs hc hd).1
  have h2 : 2 ^ s ≤ 2 ^ 31 := Nat.pow_le_pow_right (by decide) (by omega)
  rw [u64_or _ _ (Int.natCast_nonneg _) (by omega) (Int.natCast_nonneg _) (by omega), Int.toNat_natCast, Int.toNat_natCast]
  congr 1
  rw [Nat.or_comm, ← Nat.shiftLeft_eq, ← Nat.shiftLeft_add_eq_or_of_lt hc]
  omega

set_option maxHeartbeats 8000000 in
set_option maxRecDepth 100000 in
theorem bleft_any (va : Value) (a : List Nat) (n : Nat) (w : World) (ha : Rd w va a) (da : Dig a) (ta : Top a) (la : a.length ≤ 1000000) (hn : n ≤ 1000000) :
    Calls Try.prog 151 #[va, .int .i64 n] w (BigRes (n32 a * 2 ^ n) w) := by
  have ha0 := ha
  rcases ha.open with ⟨rfl, A, c, hcm, rfl⟩ | ⟨hl, b, off, c, rfl, h1, h2, hb, hc⟩
  · have e : n32 [] * 2 ^ n = n32 [] := by simp [n32]
    rw [e]
    have H := Lib.hid ha0
    clear ha ha0 e
    go_enter Try.func151, Try.ntmps151
    go_wp2
    go_ret
    exact ⟨⟨_, rfl, [], H.out, da, ta, rfl⟩, Below.refl _ _⟩
  · clear ha ha0
    have H := Lib.hid hc
    have DA := Lib.hid da
    have TA := Lib.hid ta
    clear hc da ta
    obtain ⟨i0, hi, hz0, hz1, hz2⟩ := info_parts info98
    obtain ⟨q, hq⟩ : ∃ q : Nat, q = n / 32 := ⟨_, rfl⟩
    obtain ⟨s, hs⟩ : ∃ s : Nat, s = n % 32 := ⟨_, rfl⟩
    have hs32 : s < 32 := by omega
    have en : n32 a * 2 ^ n = bp q * 2 ^ s * n32 a := by rw [left_pow, Nat.mul_comm]; congr 2; omega
    rw [en]
    have e1 : (n : Int) / 32 = (q : Int) := by omega
    have e2 : (n : Int) % 32 = (s : Int) := by omega
    have hq2 : (q : Int) ≤ 1000000 := by omega
    have hs2 : (s : Int) ≤ 31 := by omega
    have hn2 : (n : Int) ≤ 1000000 := by omega
    have hz : ((a.length : Int) == 0) = false := by rw [beq_eq_false_iff_ne]; omega
    have hne : ¬ a = [] := by intro h; rw [h] at hl; simp at hl
    have hal : (a.length : Int) ≤ 1000000 := by omega
    clear en hq hs
    go_enter Try.func151, Try.ntmps151
    go_wp2_with (at_make; refine wpList_make_full _ rfl _ _ 69 rfl w.heap.size 98 i0 (.int .u32 0) 1 Try.underlying69 hi hz0 hz1 _ _ _ _ q rfl rfl rfl rfl (by rw [hz2]; omega) (by unfold maxLen; omega) (Nat.le_refl _) ?_; intro w1 hown1 hg1)
    go_loopw [5, 6, 18] (fun out c i wr => LeftInv w a q s out c i wr) (fun _ _ i _ => a.length - (intOf i).toNat)
    case atStart => exact ⟨0, 0, _, rfl, rfl, Nat.two_pow_pos _, Nat.zero_le _, List.length_replicate, dig_zeros _, by rw [n32_zeros]; simp [n32], own_made hown1, (Below.refl _ _).grown hg1 (Nat.le_refl _) (fun k hk => by cases hk)⟩
    case round =>
      obtain ⟨k, cn, L, rfl, rfl, hcn, hk, hL, hD, hE, hown, hbel⟩ := hrel
      have hk2 : (k : Int) ≤ 1000000 := by omega
      have p31 : 2 ^ s ≤ 2 ^ 31 := Nat.pow_le_pow_right (by decide) (by omega)
      by_cases h1 : k < a.length
      · have c1 := H.out k h1
        replace c1 := (hbel.cell (World.block_lt_of_cell? w _ c1)).trans c1
        have d1 := DA.out k
        have hr := fun t h => left_round (O := L) (a := a) (q := q) (s := s) (k := k) (c := cn) (t := t) hL hE h
        generalize hd : a.getD k 0 = d at *
        have lc := left_carry hs32 hcn d1
        have or1 := or_shl hs32 hcn d1
        obtain ⟨t, ht⟩ : ∃ t : Nat, t = d * 2 ^ s := ⟨_, rfl⟩
        obtain ⟨u, hu⟩ : ∃ u : Nat, u = cn + t := ⟨_, rfl⟩
        have hr1 := hr u (by rw [hu, ht])
        rw [← ht] at lc or1
        rw [← hu] at lc or1
        have u1 : (u : Int) ≤ 18446744073709551615 := by omega
        have sh1 : IntKind.u64.wrap ((d : Int) * 2 ^ s) = (t : Int) := by
          have : (d : Int) * 2 ^ s = (t : Int) := by rw [ht]; simp
          rw [this]; exact IntWalk.u64_in _ ⟨by omega, by omega⟩
        have HR := Lib.hid hr1
        have HL := Lib.hid hL
        have HDd := Lib.hid hd
        have HT := Lib.hid ht
        have HU := Lib.hid hu
        have LC := Lib.hid lc
        have HE := Lib.hid hE
        have HC := Lib.hid hcn
        have d2 : (d : Int) ≤ 4294967295 := by omega
        have cn2 : (cn : Int) ≤ 2147483647 := by omega
        clear hr hr1 hL hd ht hu lc hE hcn p31
        go_wp2_with (at_builtin; refine wpList_append_u32 wr rfl (.tmp 30) (.tmp 33) rfl w.heap.size _ L _ (u % 4294967296) rfl rfl hown (by omega) (by have := HL.out; omega) hbel.size ?_; intro v1 w1 hown1 hb1)
        exact ⟨⟨k + 1, u / 4294967296, _, by go_num, u64_eq (by omega), LC.out.2, h1, by simp [HL.out]; omega, dig_snoc hD (Nat.mod_lt _ (by decide)), HR.out, hown1, hbel.trans hb1⟩, by simp [intOf]; omega⟩
      · obtain rfl : k = a.length := by omega
        have hend : n32 (L ++ [cn]) = bp q * 2 ^ s * n32 a := by rw [n32_snoc, hL, hE, List.take_length]
        have HE := Lib.hid hend
        have HL := Lib.hid hL
        have cn2 : (cn : Int) ≤ 2147483647 := by omega
        clear hend hE hL hcn p31
        go_wp2_with (at_builtin; refine wpList_append_u32 wr rfl (.tmp 38) (.tmp 41) rfl w.heap.size _ L _ cn rfl rfl hown (by omega) (by have := HL.out; omega) hbel.size ?_; intro v1 w1 hown1 hb1)
        go_at_call 132
        have ht := trim_any v1 (L ++ [cn]) w1 (Own.rd hown1) (dig_snoc hD (by omega))
        rw [HE.out] at ht
        refine ht.mono ?_
        rintro _ w' ⟨⟨v, rfl, hbig⟩, hb⟩
        go_wp2
        go_ret
        have hb2 := hbel.trans hb1
        exact ⟨⟨_, rfl, hbig⟩, hb2.trans (hb.mono hb2.size)⟩

theorem blen_half (d : Nat) (h : d ≠ 0) : blen (d / 2) + 1 = blen d := by
  have p := blen_pos h
  have a1 := blen_ge h
  have a2 := blen_lt d
  by_cases hz : d / 2 = 0
  · rw [hz, blen_zero]
    have : d = 1 := by omega
    rw [this]
    exact (blen_unique (k := 0) (by decide) (by decide)).symm
  · obtain ⟨k, hk⟩ : ∃ k, blen d = k + 2 := by
      refine ⟨blen d - 2, ?_⟩
      by_cases c : blen d = 1
      · rw [c] at a2; omega
      · omega
    rw [hk] at a1 a2
    rw [hk]
    have e1 : (2 : Nat) ^ (k + 2) = 2 ^ k * 2 * 2 := by rw [Nat.pow_succ, Nat.pow_succ]
    have e2 : (2 : Nat) ^ (k + 2 - 1) = 2 ^ k * 2 := by rw [show k + 2 - 1 = k + 1 by omega, Nat.pow_succ]
    rw [e1] at a2
    rw [e2] at a1
    have := blen_unique (k := k) (n := d / 2) (by omega) (by rw [Nat.pow_succ]; omega)
    omega

set_option maxHeartbeats 4000000 in
theorem bbits_any (va : Value) (a : List Nat) (w : World) (ha : Rd w va a) (da : Dig a) (ta : Top a) (la : a.length ≤ 1000000) :
    Calls Try.prog 156 #[va] w (IntRes (blen (n32 a)) w) := by
  rcases ha.open with ⟨rfl, A, c, hcm, rfl⟩ | ⟨hl, b, off, c, rfl, h1, h2, hb, hc⟩
  · clear ha da ta
    have e : blen (n32 []) = 0 := by show blen 0 = 0; exact blen_zero
    rw [e]
    go_enter Try.func156, Try.ntmps156
    go_wp2
    go_ret
    exact ⟨rfl, Below.refl _ _⟩
  · clear ha
    have e := blen_bits da ta hl
    rw [e]
    have hcell := hc (a.length - 1) (by omega)
    have hd := da (a.length - 1)
    have hz : ((a.length : Int) == 0) = false := by rw [beq_eq_false_iff_ne]; omega
    have hne : ¬ a = [] := by intro h; rw [h] at hl; simp at hl
    obtain ⟨j, hj⟩ : ∃ j, a.length = j + 1 := ⟨a.length - 1, by omega⟩
    rw [hj] at hcell hd e ⊢
    rw [Nat.add_sub_cancel] at hcell hd e ⊢
    generalize a.getD j 0 = d at *
    have hj2 : (j : Int) ≤ 1000000 := by omega
    have e2 : ((j + 1 : Nat) : Int) - 1 = (j : Int) := by omega
    have H := Lib.hid hc
    clear e hc da ta
    go_enter Try.func156, Try.ntmps156
    go_wp2
    go_loop [3, 4] (fun n x => ∃ (y k : Nat), n = .int .i64 k ∧ x = .int .u32 y ∧ y < 4294967296 ∧ k ≤ 32 * j + 32 ∧ k + blen y = 32 * j + blen d) (fun _ x => (intOf x).toNat)
    case atStart => exact ⟨d, 32 * j, by go_num, rfl, hd, by omega, rfl⟩
    case round =>
      obtain ⟨y, k, rfl, rfl, hy, hk, hE⟩ := hrel
      have hk2 : (k : Int) ≤ 40000000 := by omega
      have hy2 : (y : Int) ≤ 4294967295 := by omega
      by_cases hy0 : y = 0
      · subst hy0
        rw [blen_zero] at hE
        have HE := Lib.hid hE
        clear hE
        go_wp2
        go_ret
        refine ⟨?_, Below.refl _ _⟩
        show Ending.returned (.int .i64 (k : Int)) = _
        exact ret_int (by have := HE.out; omega)
      · have hh := blen_half y hy0
        have hb1 : blen d ≤ 32 := blen_le hd
        have hb2 := blen_pos hy0
        have HH := Lib.hid hh
        have HE := Lib.hid hE
        have hy1 : (0 : Int) < (y : Int) := by omega
        clear hh hE
        go_wp2
        go_round
        case rel => exact ⟨y / 2, k + 1, by go_num, by go_num, by omega, by have := HE.out; omega, by have := HH.out; have := HE.out; omega⟩
        case measure => simp [intOf]; omega
end Go.Proofs.Ytjdccbigaahkeaa
