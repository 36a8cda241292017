/- Contracts: the reference's whole numbers of any length to the left; their bits. -/
import Derived.Test.YtkmgfbhnioojhaaGreatPmW18
import Derived.Test.YtkmgfbhnioojhaaGreatPmFlC
namespace Go.Proofs.YtkmgfbhnioojhaaGreat
set_option linter.unusedSimpArgs false
set_option linter.unusedVariables false
open Go.RowKit
open Fl

def LeftInv (W : World) (a : List Nat) (q s : Nat) (out c i : Value) (w : World) : Prop :=
  ∃ (k cn : Nat) (L : List Nat), i = .int .i64 k ∧ c = .int .u64 cn ∧ cn < 2 ^ s ∧ k ≤ a.length ∧ L.length = q + k ∧ Dig L ∧ n32 L + bp (q + k) * cn = bp q * 2 ^ s * n32 (a.take k) ∧ Own W.heap.size w out L ∧ Below W.heap.size W w

theorem left_pow (q s : Nat) : bp q * 2 ^ s = 2 ^ (32 * q + s) := by rw [bp_pw, pw_eq, Nat.pow_add]

theorem or_shl {c d s : Nat} (hs : s < 32) (hc : c < 2 ^ s) (hd : d < 4294967296) : bits BinOp.or IntKind.u64 (c : Int) ((d * 2 ^ s : Nat) : Int) = ((c + d * 2 ^ s : Nat) : Int) := by
  have h1 := (left_carry hs hc hd).1
  have h2 : 2 ^ s ≤ 2 ^ 31 := Nat.pow_le_pow_right (by decide) (by omega)
  rw [u64_or _ _ (Int.natCast_nonneg _) (by omega) (Int.natCast_nonneg _) (by omega), Int.toNat_natCast, Int.toNat_natCast]
  congr 1
  rw [Nat.or_comm, ← Nat.shiftLeft_eq, ← Nat.shiftLeft_add_eq_or_of_lt hc]
  omega

set_option maxHeartbeats 8000000 in
set_option maxRecDepth 100000 in
theorem bleft_any (va : Value) (a : List Nat) (n : Nat) (w : World) (ha : Rd w va a) (da : Dig a) (ta : Top a) (la : a.length ≤ 1000000) (hn : n ≤ 1000000) :
    Calls Tryz.prog 243 #[va, .int .i64 n] w (BigRes (n32 a * 2 ^ n) w) := by
  have ha0 := ha
  rcases ha.open with ⟨rfl, A, c, hcm, rfl⟩ | ⟨hl, b, off, c, rfl, h1, h2, hb, hc⟩
  · have e : n32 [] * 2 ^ n = n32 [] := by simp [n32]
    rw [e]
    have H := Lib.hid ha0
    clear ha ha0 e
    go_enter Tryz.func243, Tryz.ntmps243
    go_wp2
    go_ret
    exact ⟨⟨_, rfl, [], H.out, da, ta, rfl⟩, Below.refl _ _⟩
  · clear ha ha0
    have H := Lib.hid hc
    have DA := Lib.hid da
    have TA := Lib.hid ta
    clear hc da ta
    obtain ⟨i0, hi, hz0, hz1, hz2⟩ := info_parts info107
    obtain ⟨q, hq⟩ : ∃ q : Nat, q = n / 32 := ⟨_, rfl⟩
    obtain ⟨s, hs⟩ : ∃ s : Nat, s = n % 32 := ⟨_, rfl⟩
    have hs32 : s < 32 := by omega
    have en : n32 a * 2 ^ n = bp q * 2 ^ s * n32 a := by rw [left_pow, Nat.mul_comm]; congr 2; omega
    rw [en]
    have e1 : (n : Int) / 32 = (q : Int) := by omega
    have e2 : (n : Int) % 32 = (s : Int) := by omega
    have hq2 : (q : Int) ≤ 1000000 := by omega
    have hs2 : (s : Int) ≤ 31 := by omega
    have hn2 : (n : Int) ≤ 1000000 := by omega
    have hz : ((a.length : Int) == 0) = false := by rw [beq_eq_false_iff_ne]; omega
    have hne : ¬ a = [] := by intro h; rw [h] at hl; simp at hl
    have hal : (a.length : Int) ≤ 1000000 := by omega
    clear en hq hs
    go_enter Tryz.func243, Tryz.ntmps243
    go_wp2_with (at_make; refine wpList_make_full _ rfl _ _ 31 rfl w.heap.size 107 i0 (.int .u32 0) 1 Tryz.underlying31 hi hz0 hz1 _ _ _ _ q rfl rfl rfl rfl (by rw [hz2]; omega) (by unfold maxLen; omega) (Nat.le_refl _) ?_; intro w1 hown1 hg1)
    go_loopw [5, 6, 18] (fun out c i wr => LeftInv w a q s out c i wr) (fun _ _ i _ => a.length - (intOf i).toNat)
    case atStart => exact ⟨0, 0, _, rfl, rfl, Nat.two_pow_pos _, Nat.zero_le _, List.length_replicate, dig_zeros _, by rw [n32_zeros]; simp [n32], own_made hown1, (Below.refl _ _).grown hg1 (Nat.le_refl _) (fun k hk => by cases hk)⟩
    case round =>
      obtain ⟨k, cn, L, rfl, rfl, hcn, hk, hL, hD, hE, hown, hbel⟩ := hrel
      have hk2 : (k : Int) ≤ 1000000 := by omega
      have p31 : 2 ^ s ≤ 2 ^ 31 := Nat.pow_le_pow_right (by decide) (by omega)
      by_cases h1 : k < a.length
      · have c1 := H.out k h1
        replace c1 := (hbel.cell (World.block_lt_of_cell? w _ c1)).trans c1
        have d1 := DA.out k
        have hr := fun t h => left_round (O := L) (a := a) (q := q) (s := s) (k := k) (c := cn) (t := t) hL hE h
        generalize hd : a.getD k 0 = d at *
        have lc := left_carry hs32 hcn d1
        have or1 := or_shl hs32 hcn d1
        obtain ⟨t, ht⟩ : ∃ t : Nat, t = d * 2 ^ s := ⟨_, rfl⟩
        obtain ⟨u, hu⟩ : ∃ u : Nat, u = cn + t := ⟨_, rfl⟩
        have hr1 := hr u (by rw [hu, ht])
        rw [← ht] at lc or1
        rw [← hu] at lc or1
        have u1 : (u : Int) ≤ 18446744073709551615 := by omega
        have sh1 : IntKind.u64.wrap ((d : Int) * 2 ^ s) = (t : Int) := by
          have : (d : Int) * 2 ^ s = (t : Int) := by rw [ht]; simp
          rw [this]; exact IntWalk.u64_in _ ⟨by omega, by omega⟩
        have HR := Lib.hid hr1
        have HL := Lib.hid hL
        have HDd := Lib.hid hd
        have HT := Lib.hid ht
        have HU := Lib.hid hu
        have LC := Lib.hid lc
        have HE := Lib.hid hE
        have HC := Lib.hid hcn
        have d2 : (d : Int) ≤ 4294967295 := by omega
        have cn2 : (cn : Int) ≤ 2147483647 := by omega
        clear hr hr1 hL hd ht hu lc hE hcn p31
        go_wp2_with (at_builtin; refine wpList_append_u32 wr rfl (.tmp 30) (.tmp 33) rfl w.heap.size _ L _ (u % 4294967296) rfl rfl hown (by omega) (by have := HL.out; omega) hbel.size ?_; intro v1 w1 hown1 hb1)
        exact ⟨⟨k + 1, u / 4294967296, _, by go_num, u64_eq (by omega), LC.out.2, h1, by simp [HL.out]; omega, dig_snoc hD (Nat.mod_lt _ (by decide)), HR.out, hown1, hbel.trans hb1⟩, by simp [intOf]; omega⟩
      · obtain rfl : k = a.length := by omega
        have hend : n32 (L ++ [cn]) = bp q * 2 ^ s * n32 a := by rw [n32_snoc, hL, hE, List.take_length]
        have HE := Lib.hid hend
        have HL := Lib.hid hL
        have cn2 : (cn : Int) ≤ 2147483647 := by omega
        clear hend hE hL hcn p31
        go_wp2_with (at_builtin; refine wpList_append_u32 wr rfl (.tmp 38) (.tmp 41) rfl w.heap.size _ L _ cn rfl rfl hown (by omega) (by have := HL.out; omega) hbel.size ?_; intro v1 w1 hown1 hb1)
        go_at_call 94
        have ht := trim_any v1 (L ++ [cn]) w1 (Own.rd hown1) (dig_snoc hD (by omega))
        rw [HE.out] at ht
        refine ht.mono ?_
        rintro _ w' ⟨⟨v, rfl, hbig⟩, hb⟩
        go_wp2
        go_ret
        have hb2 := hbel.trans hb1
        exact ⟨⟨_, rfl, hbig⟩, hb2.trans (hb.mono hb2.size)⟩

theorem blen_half (d : Nat) (h : d ≠ 0) : blen (d / 2) + 1 = blen d := by
  have p := blen_pos h
  have a1 := blen_ge h
  have a2 := blen_lt d
  by_cases hz : d / 2 = 0
  · rw [hz, blen_zero]
    have : d = 1 := by omega
    rw [this]
    exact (blen_unique (k := 0) (by decide) (by decide)).symm
  · obtain ⟨k, hk⟩ : ∃ k, blen d = k + 2 := by
      refine ⟨blen d - 2, ?_⟩
      by_cases c : blen d = 1
      · rw [c] at a2; omega
      · omega
    rw [hk] at a1 a2
    rw [hk]
    have e1 : (2 : Nat) ^ (k + 2) = 2 ^ k * 2 * 2 := by rw [Nat.pow_succ, Nat.pow_succ]
    have e2 : (2 : Nat) ^ (k + 2 - 1) = 2 ^ k * 2 := by rw [show k + 2 - 1 = k + 1 by omega, Nat.pow_succ]
    rw [e1] at a2
    rw [e2] at a1
    have := blen_unique (k := k) (n := d / 2) (by omega) (by rw [Nat.pow_succ]; omega)
    omega

set_option maxHeartbeats 4000000 in
theorem bbits_any (va : Value) (a : List Nat) (w : World) (ha : Rd w va a) (da : Dig a) (ta : Top a) (la : a.length ≤ 1000000) :
    Calls Tryz.prog 95 #[va] w (IntRes (blen (n32 a)) w) := by
  rcases ha.open with ⟨rfl, A, c, hcm, rfl⟩ | ⟨hl, b, off, c, rfl, h1, h2, hb, hc⟩
  · clear ha da ta
    have e : blen (n32 []) = 0 := by show blen 0 = 0; exact blen_zero
    rw [e]
    go_enter Tryz.func95, Tryz.ntmps95
    go_wp2
    go_ret
    exact ⟨rfl, Below.refl _ _⟩
  · clear ha
    have e := blen_bits da ta hl
    rw [e]
    have hcell := hc (a.length - 1) (by omega)
    have hd := da (a.length - 1)
    have hz : ((a.length : Int) == 0) = false := by rw [beq_eq_false_iff_ne]; omega
    have hne : ¬ a = [] := by intro h; rw [h] at hl; simp at hl
    obtain ⟨j, hj⟩ : ∃ j, a.length = j + 1 := ⟨a.length - 1, by omega⟩
    rw [hj] at hcell hd e ⊢
    rw [Nat.add_sub_cancel] at hcell hd e ⊢
    generalize a.getD j 0 = d at *
    have hj2 : (j : Int) ≤ 1000000 := by omega
    have e2 : ((j + 1 : Nat) : Int) - 1 = (j : Int) := by omega
    have H := Lib.hid hc
    clear e hc da ta
    go_enter Tryz.func95, Tryz.ntmps95
    go_wp2
    go_loop [3, 4] (fun n x => ∃ (y k : Nat), n = .int .i64 k ∧ x = .int .u32 y ∧ y < 4294967296 ∧ k ≤ 32 * j + 32 ∧ k + blen y = 32 * j + blen d) (fun _ x => (intOf x).toNat)
    case atStart => exact ⟨d, 32 * j, by go_num, rfl, hd, by omega, rfl⟩
    case round =>
      obtain ⟨y, k, rfl, rfl, hy, hk, hE⟩ := hrel
      have hk2 : (k : Int) ≤ 40000000 := by omega
      have hy2 : (y : Int) ≤ 4294967295 := by omega
      by_cases hy0 : y = 0
      · subst hy0
        rw [blen_zero] at hE
        have HE := Lib.hid hE
        clear hE
        go_wp2
        go_ret
        refine ⟨?_, Below.refl _ _⟩
        show Ending.returned (.int .i64 (k : Int)) = _
        exact ret_int (by have := HE.out; omega)
      · have hh := blen_half y hy0
        have hb1 : blen d ≤ 32 := blen_le hd
        have hb2 := blen_pos hy0
        have HH := Lib.hid hh
        have HE := Lib.hid hE
        have hy1 : (0 : Int) < (y : Int) := by omega
        clear hh hE
        go_wp2
        go_round
        case rel => exact ⟨y / 2, k + 1, by go_num, by go_num, by omega, by have := HE.out; omega, by have := HH.out; have := HE.out; omega⟩
        case measure => simp [intOf]; omega
end Go.Proofs.YtkmgfbhnioojhaaGreat

/- Contracts: the reference's numbers M 2^E: their sign; brought to one exponent; products. -/
namespace Go.Proofs.YtkmgfbhnioojhaaGreat
set_option linter.unusedSimpArgs false
set_option linter.unusedVariables false
open Go.RowKit
open Fl

theorem big_len {l : List Nat} {n : Nat} (ht : Top l) (e : n32 l = n) (hn : n < bp 30000) : l.length ≤ 1000000 := by
  subst e
  have := len_le ht hn
  omega

/-- A whole number that stays so in later worlds. -/
def BigS (w : World) (v : Value) (n : Nat) : Prop := ∀ w', Below w.heap.size w w' → Big w' v n
theorem Big.stays {w : World} {v : Value} {n : Nat} (h : Big w v n) : BigS w v n := fun _ hb => h.below hb

/-- How long a slice is that is a whole number: 0 or not. -/
theorem Big.len {w : World} {v : Value} {n : Nat} (h : Big w v n) : ∃ A k c, v = .slice A k c ∧ (k = 0 ↔ n = 0) ∧ k ≤ 9223372036854775807 := by
  obtain ⟨l, ⟨A, c, h1, h2, h3, _⟩, _, ht, rfl⟩ := h
  exact ⟨A, l.length, c, h1, (n32_nil ht).symm, by omega⟩

theorem BigRes.go {f : FuncId} {args : Array Value} {n : Nat} {w : World} (h : Calls Tryz.prog f args w (BigRes n w)) : Calls Tryz.prog f args w fun e w' => ∃ (A : Option Addr) (k c : Nat) (q : Later w), Hid (Big q.val (.slice A k c) n) ∧ Hid (k = 0 ↔ n = 0) ∧ k ≤ 9223372036854775807 ∧ e = .returned (.slice A k c) ∧ w' = q.val :=
  h.mono fun _ w' ⟨⟨v, he, hb⟩, hbl⟩ => by
    obtain ⟨A, k, c, rfl, h1, h2⟩ := hb.len
    exact ⟨A, k, c, ⟨w', hbl⟩, hb, h1, h2, he, rfl⟩
theorem IntRes.go {f : FuncId} {args : Array Value} {n : Int} {w : World} (h : Calls Tryz.prog f args w (IntRes n w)) : Calls Tryz.prog f args w fun e w' => ∃ (k : Later w), e = .returned (.int .i64 n) ∧ w' = k.val :=
  h.mono fun _ w' ⟨he, hbl⟩ => ⟨⟨w', hbl⟩, he, rfl⟩

theorem left_big {v : Value} {m : Nat} {w : World} (h : Big w v m) (hm : m < bp 30000) (n : Nat) (hn : n ≤ 1000000) : Calls Tryz.prog 243 #[v, .int .i64 n] w (BigRes (m * 2 ^ n) w) := by
  obtain ⟨l, h1, h2, h3, rfl⟩ := h
  exact bleft_any v l n w h1 h2 h3 (big_len h3 rfl hm) hn
theorem bits_big {v : Value} {m : Nat} {w : World} (h : Big w v m) (hm : m < bp 30000) : Calls Tryz.prog 95 #[v] w (IntRes (blen m) w) := by
  obtain ⟨l, h1, h2, h3, rfl⟩ := h
  exact bbits_any v l w h1 h2 h3 (big_len h3 rfl hm)
theorem cmp_big {v u : Value} {m n : Nat} {w : World} (h : Big w v m) (g : Big w u n) (hm : m < bp 30000) (hn : n < bp 30000) : Calls Tryz.prog 163 #[v, u] w (IntRes (cmpI m n) w) := by
  obtain ⟨l, h1, h2, h3, rfl⟩ := h
  obtain ⟨k, g1, g2, g3, rfl⟩ := g
  exact bcmp_any v u l k w h1 g1 h2 g2 h3 g3 (big_len h3 rfl hm) (big_len g3 rfl hn)
theorem plus_big {v u : Value} {m n : Nat} {w : World} (h : Big w v m) (g : Big w u n) (hm : m < bp 30000) (hn : n < bp 30000) : Calls Tryz.prog 162 #[v, u] w (BigRes (m + n) w) := by
  obtain ⟨l, h1, h2, h3, rfl⟩ := h
  obtain ⟨k, g1, g2, g3, rfl⟩ := g
  exact bplus_any v u l k w h1 g1 h2 g2 (big_len h3 rfl hm) (big_len g3 rfl hn)
theorem less_big {v u : Value} {m n : Nat} {w : World} (h : Big w v m) (g : Big w u n) (hm : m < bp 30000) (hle : n ≤ m) : Calls Tryz.prog 164 #[v, u] w (BigRes (m - n) w) := by
  obtain ⟨l, h1, h2, h3, rfl⟩ := h
  obtain ⟨k, g1, g2, g3, rfl⟩ := g
  exact bless_any v u l k w h1 g1 h2 g2 g3 hle (big_len h3 rfl hm)
theorem by_big {v u : Value} {m n : Nat} {w : World} (h : Big w v m) (g : Big w u n) (hm : m < bp 30000) (hn : n < bp 30000) : Calls Tryz.prog 131 #[v, u] w (BigRes (m * n) w) := by
  obtain ⟨l, h1, h2, h3, rfl⟩ := h
  obtain ⟨k, g1, g2, g3, rfl⟩ := g
  exact bby_any v u l k w h1 g1 h2 g2 (big_len h3 rfl hm) (big_len g3 rfl hn)

/-! ### Numbers -/

@[go_sem] theorem build_nm (s : Bool) (A : Option Addr) (k c : Nat) (e : Int) (w : World) : (Instr.build 33 #[(0, .bool s), (1, .slice A k c), (2, .int .i64 e)]).run Tryz.prog w = .ok (.agg #[.bool s, (.slice A k c), .int .i64 e]) w := run_build w 33 _ _ (by kernel_rfl)
@[go_sem] theorem build_nm0 (w : World) : (Instr.build 33 #[]).run Tryz.prog w = .ok (.agg #[.bool false, (.slice none 0 0), .int .i64 0]) w := run_build w 33 _ _ (by kernel_rfl)

set_option maxHeartbeats 1000000 in
theorem sign_any (s : Bool) (v : Value) (m : Nat) (e : Int) (w : World) (h : BigS w v m) : Calls Tryz.prog 81 #[(.agg #[.bool s, v, .int .i64 e])] w (IntRes (sgnI s m) w) := by
  obtain ⟨A, k, c, rfl, hk, hk2⟩ := (h w (Below.refl _ _)).len
  unfold sgnI
  clear h
  by_cases hm : m = 0
  · obtain rfl := hk.2 hm
    rw [if_pos hm]
    clear hk hm
    go_enter Tryz.func81, Tryz.ntmps81
    go_wp2
    go_ret
    exact ⟨rfl, by (repeat' first | (with_reducible first | exact Below.refl _ _ | assumption | refine Later.belowOf _ ?_ ?_ | refine Below.alloc ?_ ?_ _ | refine Below.setCell ?_ ?_ _ | refine Below.drewN' _ ?_ | refine Below.drew ?_ | exact Ge.le) | go_size)⟩
  · have hz : ((k : Int) == 0) = false := by rw [beq_eq_false_iff_ne]; intro h; exact hm (hk.1 (by omega))
    rw [if_neg hm]
    clear hk hm
    cases s
    all_goals
      go_enter Tryz.func81, Tryz.ntmps81
      go_wp2
      go_ret
      exact ⟨rfl, by (repeat' first | (with_reducible first | exact Below.refl _ _ | assumption | refine Later.belowOf _ ?_ ?_ | refine Below.alloc ?_ ?_ _ | refine Below.setCell ?_ ?_ _ | refine Below.drewN' _ ?_ | refine Below.drew ?_ | exact Ge.le) | go_size)⟩

/-! ### What a store into a cell that is no digit leaves -/

def notU32 (c : Option Value) : Bool := match c with | some (.int .u32 _) => false | _ => true
@[go_sem] theorem notU32_bool (b : Bool) : notU32 (some (.bool b)) = true := rfl
@[go_sem] theorem notU32_slice (A : Option Addr) (k c : Nat) : notU32 (some (.slice A k c)) = true := rfl
@[go_sem] theorem notU32_i64 (e : Int) : notU32 (some (.int .i64 e)) = true := rfl
@[go_sem] theorem notU32_u64 (e : Int) : notU32 (some (.int .u64 e)) = true := rfl
@[go_sem] theorem notU32_float (e : Nat) : notU32 (some (.float .f64 e)) = true := rfl
theorem Rd.setCell {w : World} {v : Value} {l : List Nat} (h : Rd w v l) {p : Addr} (x : Value) (hp : notU32 (w.cell? p) = true) : Rd (w.setCell p x) v l := by
  obtain ⟨A, c, e, h1, h2, h3⟩ := h
  refine ⟨A, c, e, h1, h2, fun i hi => ?_⟩
  obtain ⟨b, off, e1, e2⟩ := h3 i hi
  refine ⟨b, off, e1, ?_⟩
  have hne : (⟨b, off + i, none⟩ : Addr) ≠ p := by
    intro hh
    rw [hh] at e2
    rw [e2] at hp
    simp [notU32] at hp
  exact (World.cell?_setCell_other _ _ _ _ (Ne.symm hne)).trans e2
theorem Big.setCell {w : World} {v : Value} {n : Nat} (h : Big w v n) {p : Addr} (x : Value) (hp : notU32 (w.cell? p) = true) : Big (w.setCell p x) v n := by
  obtain ⟨l, h1, h2⟩ := h
  exact ⟨l, h1.setCell x hp, h2⟩
theorem Big.drew {w : World} {v : Value} {n : Nat} (h : Big w v n) : Big w.drew v n := h.below (Below.refl _ w).drew
theorem Big.drewN {w : World} {v : Value} {n : Nat} (h : Big w v n) (k : Nat) : Big (w.drewN k) v n := h.below (Below.drewN' k (Below.refl _ w))
theorem Big.alloc {w : World} {v : Value} {n : Nat} (h : Big w v n) (o : Obj) : Big (w.alloc o) v n := h.below ((Below.refl _ w).alloc (Nat.le_refl _) o)
theorem Big.later {w : World} {v : Value} {n : Nat} (h : Big w v n) (q : Later w) : Big q.val v n := h.below q.below

def LevelRes (s t : Bool) (m n : Nat) (e f : Int) (w : World) (E : Ending) (w' : World) : Prop :=
  (∃ (A : Option Addr) (k c : Nat) (B : Option Addr) (l d : Nat), E = .returned (.tuple #[(.agg #[.bool s, (.slice A k c), .int .i64 (min e f)]), (.agg #[.bool t, (.slice B l d), .int .i64 (min e f)])]) ∧ Big w' (.slice A k c) (m * 2 ^ (e - min e f).toNat) ∧ Big w' (.slice B l d) (n * 2 ^ (f - min e f).toNat)) ∧ Below w.heap.size w w'

set_option maxHeartbeats 4000000 in
set_option maxRecDepth 100000 in
theorem level_any (s t : Bool) (A : Option Addr) (ka ca : Nat) (B : Option Addr) (kb cb : Nat) (m n : Nat) (e f : Int) (w : World) (ha : BigS w (.slice A ka ca) m) (hb : BigS w (.slice B kb cb) n) (hm : m < bp 30000) (hn : n < bp 30000)
    (e0 : -100000 ≤ e) (e1 : e ≤ 100000) (f0 : -100000 ≤ f) (f1 : f ≤ 100000) :
    Calls Tryz.prog 161 #[(.agg #[.bool s, (.slice A ka ca), .int .i64 e]), (.agg #[.bool t, (.slice B kb cb), .int .i64 f])] w (LevelRes s t m n e f w) := by
  have HA := Lib.hid ha
  have HB := Lib.hid hb
  have HM := Lib.hid hm
  have HN := Lib.hid hn
  clear ha hb hm hn
  rcases Int.lt_trichotomy e f with hl | hl | hl
  · obtain ⟨d, hd⟩ : ∃ d : Nat, f - e = (d : Int) := ⟨(f - e).toNat, by omega⟩
    have hd2 : d ≤ 1000000 := by omega
    have h4 := Lib.hid (show min e f = e ∧ (f - e).toNat = d ∧ (e - e).toNat = 0 by omega)
    go_enter Tryz.func161, Tryz.ntmps161
    go_wp2_with (go_at_call 243; refine (BigRes.go (left_big (HB.out _ (by (repeat' first | (with_reducible first | exact Below.refl _ _ | assumption | refine Later.belowOf _ ?_ ?_ | refine Below.alloc ?_ ?_ _ | refine Below.setCell ?_ ?_ _ | refine Below.drewN' _ ?_ | refine Below.drew ?_ | exact Ge.le) | go_size))) HN.out d hd2)).mono ?_; rintro _ _ ⟨A', k', c', q, hq, hk, hk2, rfl, rfl⟩)
    go_region
    all_goals
      go_wp2
      go_returns
      unfold LevelRes
      rw [h4.out.1, h4.out.2.1, h4.out.2.2, Nat.pow_zero, Nat.mul_one]
      have hq1 := hq.out
      exact ⟨⟨_, _, _, _, _, _, rfl, HA.out _ (by (repeat' first | (with_reducible first | exact Below.refl _ _ | assumption | refine Later.belowOf _ ?_ ?_ | refine Below.alloc ?_ ?_ _ | refine Below.setCell ?_ ?_ _ | refine Below.drewN' _ ?_ | refine Below.drew ?_ | exact Ge.le) | go_size)), by (repeat (first | (with_reducible assumption) | (with_reducible refine Big.drew ?_) | (with_reducible refine Big.drewN ?_ _) | (with_reducible refine Big.alloc ?_ _) | (with_reducible refine Big.later ?_ _) | (with_reducible refine Big.setCell ?_ _ (by go_simp))))⟩, by (repeat' first | (with_reducible first | exact Below.refl _ _ | assumption | refine Later.belowOf _ ?_ ?_ | refine Below.alloc ?_ ?_ _ | refine Below.setCell ?_ ?_ _ | refine Below.drewN' _ ?_ | refine Below.drew ?_ | exact Ge.le) | go_size)⟩
  · subst hl
    have h4 := Lib.hid (show min e e = e ∧ (e - e).toNat = 0 by omega)
    go_enter Tryz.func161, Tryz.ntmps161
    go_wp2
    go_region
    all_goals
      go_wp2
      go_returns
      unfold LevelRes
      rw [h4.out.1, h4.out.2, Nat.pow_zero, Nat.mul_one, Nat.mul_one]
      exact ⟨⟨_, _, _, _, _, _, rfl, HA.out _ (by (repeat' first | (with_reducible first | exact Below.refl _ _ | assumption | refine Later.belowOf _ ?_ ?_ | refine Below.alloc ?_ ?_ _ | refine Below.setCell ?_ ?_ _ | refine Below.drewN' _ ?_ | refine Below.drew ?_ | exact Ge.le) | go_size)), HB.out _ (by (repeat' first | (with_reducible first | exact Below.refl _ _ | assumption | refine Later.belowOf _ ?_ ?_ | refine Below.alloc ?_ ?_ _ | refine Below.setCell ?_ ?_ _ | refine Below.drewN' _ ?_ | refine Below.drew ?_ | exact Ge.le) | go_size))⟩, by (repeat' first | (with_reducible first | exact Below.refl _ _ | assumption | refine Later.belowOf _ ?_ ?_ | refine Below.alloc ?_ ?_ _ | refine Below.setCell ?_ ?_ _ | refine Below.drewN' _ ?_ | refine Below.drew ?_ | exact Ge.le) | go_size)⟩
  · obtain ⟨d, hd⟩ : ∃ d : Nat, e - f = (d : Int) := ⟨(e - f).toNat, by omega⟩
    have hd2 : d ≤ 1000000 := by omega
    have h4 := Lib.hid (show min e f = f ∧ (e - f).toNat = d ∧ (f - f).toNat = 0 by omega)
    go_enter Tryz.func161, Tryz.ntmps161
    go_wp2_with (go_at_call 243; refine (BigRes.go (left_big (HA.out _ (by (repeat' first | (with_reducible first | exact Below.refl _ _ | assumption | refine Later.belowOf _ ?_ ?_ | refine Below.alloc ?_ ?_ _ | refine Below.setCell ?_ ?_ _ | refine Below.drewN' _ ?_ | refine Below.drew ?_ | exact Ge.le) | go_size))) HM.out d hd2)).mono ?_; rintro _ _ ⟨A', k', c', q, hq, hk, hk2, rfl, rfl⟩)
    go_region
    all_goals
      go_wp2
      go_returns
      unfold LevelRes
      rw [h4.out.1, h4.out.2.1, h4.out.2.2, Nat.pow_zero, Nat.mul_one]
      have hq1 := hq.out
      exact ⟨⟨_, _, _, _, _, _, rfl, by (repeat (first | (with_reducible assumption) | (with_reducible refine Big.drew ?_) | (with_reducible refine Big.drewN ?_ _) | (with_reducible refine Big.alloc ?_ _) | (with_reducible refine Big.later ?_ _) | (with_reducible refine Big.setCell ?_ _ (by go_simp)))), HB.out _ (by (repeat' first | (with_reducible first | exact Below.refl _ _ | assumption | refine Later.belowOf _ ?_ ?_ | refine Below.alloc ?_ ?_ _ | refine Below.setCell ?_ ?_ _ | refine Below.drewN' _ ?_ | refine Below.drew ?_ | exact Ge.le) | go_size))⟩, by (repeat' first | (with_reducible first | exact Below.refl _ _ | assumption | refine Later.belowOf _ ?_ ?_ | refine Below.alloc ?_ ?_ _ | refine Below.setCell ?_ ?_ _ | refine Below.drewN' _ ?_ | refine Below.drew ?_ | exact Ge.le) | go_size)⟩
end Go.Proofs.YtkmgfbhnioojhaaGreat

/- Contracts: the reference's numbers: products, sums. -/
namespace Go.Proofs.YtkmgfbhnioojhaaGreat
set_option linter.unusedSimpArgs false
set_option linter.unusedVariables false
open Go.RowKit
open Fl

def NumRes (s : Bool) (m : Nat) (e : Int) (w : World) (E : Ending) (w' : World) : Prop :=
  (∃ (A : Option Addr) (k c : Nat), E = .returned (.agg #[.bool s, (.slice A k c), .int .i64 e]) ∧ Big w' (.slice A k c) m) ∧ Below w.heap.size w w'
theorem NumRes.go {f : FuncId} {args : Array Value} {s : Bool} {m : Nat} {e : Int} {w : World} (h : Calls Tryz.prog f args w (NumRes s m e w)) : Calls Tryz.prog f args w fun E w' => ∃ (A : Option Addr) (k c : Nat) (q : Later w), Hid (Big q.val (.slice A k c) m) ∧ E = .returned (.agg #[.bool s, (.slice A k c), .int .i64 e]) ∧ w' = q.val :=
  h.mono fun _ w' ⟨⟨A, k, c, he, hb⟩, hbl⟩ => ⟨A, k, c, ⟨w', hbl⟩, hb, he, rfl⟩

theorem big_nil (w : World) : Big w (.slice none 0 0) 0 := ⟨[], ⟨none, 0, rfl, Nat.le_refl _, by decide, fun i hi => by simp at hi⟩, dig_nil, fun h => by simp at h, rfl⟩

set_option maxHeartbeats 4000000 in
set_option maxRecDepth 100000 in
theorem product_any (s t : Bool) (A : Option Addr) (ka ca : Nat) (B : Option Addr) (kb cb : Nat) (m n : Nat) (e f : Int) (w : World) (ha : BigS w (.slice A ka ca) m) (hb : BigS w (.slice B kb cb) n) (hm : m < bp 30000) (hn : n < bp 30000)
    (e0 : -100000 ≤ e) (e1 : e ≤ 100000) (f0 : -100000 ≤ f) (f1 : f ≤ 100000) :
    Calls Tryz.prog 67 #[(.agg #[.bool s, (.slice A ka ca), .int .i64 e]), (.agg #[.bool t, (.slice B kb cb), .int .i64 f])] w (NumRes (prodS s t m n) (m * n) (prodE m n e f) w) := by
  have HA := Lib.hid ha
  have HB := Lib.hid hb
  have HM := Lib.hid hm
  have HN := Lib.hid hn
  clear ha hb hm hn
  by_cases hz : m * n = 0
  · have H := Lib.hid hz
    clear hz
    go_enter Tryz.func67, Tryz.ntmps67
    go_wp2_with (fail)
    go_at_call 131
    refine (BigRes.go (by_big (HA.out _ (by (repeat' first | (with_reducible first | exact Below.refl _ _ | assumption | refine Later.belowOf _ ?_ ?_ | refine Below.alloc ?_ ?_ _ | refine Below.setCell ?_ ?_ _ | refine Below.drewN' _ ?_ | refine Below.drew ?_ | exact Ge.le) | go_size))) (HB.out _ (by (repeat' first | (with_reducible first | exact Below.refl _ _ | assumption | refine Later.belowOf _ ?_ ?_ | refine Below.alloc ?_ ?_ _ | refine Below.setCell ?_ ?_ _ | refine Below.drewN' _ ?_ | refine Below.drew ?_ | exact Ge.le) | go_size))) HM.out HN.out)).mono ?_
    rintro _ _ ⟨A', k', c', q, hq, hk, hk2, rfl, rfl⟩
    obtain rfl := hk.out.2 H.out
    go_wp2
    go_returns
    unfold NumRes prodS prodE
    rw [H.out, if_pos rfl, if_pos rfl]
    exact ⟨⟨_, _, _, rfl, big_nil _⟩, by (repeat' first | (with_reducible first | exact Below.refl _ _ | assumption | refine Later.belowOf _ ?_ ?_ | refine Below.alloc ?_ ?_ _ | refine Below.setCell ?_ ?_ _ | refine Below.drewN' _ ?_ | refine Below.drew ?_ | exact Ge.le) | go_size)⟩
  · have H := Lib.hid hz
    clear hz
    cases s <;> cases t
    all_goals
      go_enter Tryz.func67, Tryz.ntmps67
      go_wp2_with (fail)
      go_at_call 131
      refine (BigRes.go (by_big (HA.out _ (by (repeat' first | (with_reducible first | exact Below.refl _ _ | assumption | refine Later.belowOf _ ?_ ?_ | refine Below.alloc ?_ ?_ _ | refine Below.setCell ?_ ?_ _ | refine Below.drewN' _ ?_ | refine Below.drew ?_ | exact Ge.le) | go_size))) (HB.out _ (by (repeat' first | (with_reducible first | exact Below.refl _ _ | assumption | refine Later.belowOf _ ?_ ?_ | refine Below.alloc ?_ ?_ _ | refine Below.setCell ?_ ?_ _ | refine Below.drewN' _ ?_ | refine Below.drew ?_ | exact Ge.le) | go_size))) HM.out HN.out)).mono ?_
      rintro _ _ ⟨A', k', c', q, hq, hk, hk2, rfl, rfl⟩
      have hk3 : ((k' : Int) == 0) = false := by rw [beq_eq_false_iff_ne]; intro h; exact H.out (hk.out.1 (by omega))
      go_wp2
      go_returns
      unfold NumRes prodS prodE
      rw [if_neg H.out, if_neg H.out]
      have hq1 := hq.out
      exact ⟨⟨_, _, _, rfl, by (repeat (first | (with_reducible assumption) | (with_reducible refine Big.drew ?_) | (with_reducible refine Big.drewN ?_ _) | (with_reducible refine Big.alloc ?_ _) | (with_reducible refine Big.later ?_ _) | (with_reducible refine Big.setCell ?_ _ (by go_simp))))⟩, by (repeat' first | (with_reducible first | exact Below.refl _ _ | assumption | refine Later.belowOf _ ?_ ?_ | refine Below.alloc ?_ ?_ _ | refine Below.setCell ?_ ?_ _ | refine Below.drewN' _ ?_ | refine Below.drew ?_ | exact Ge.le) | go_size)⟩
end Go.Proofs.YtkmgfbhnioojhaaGreat
