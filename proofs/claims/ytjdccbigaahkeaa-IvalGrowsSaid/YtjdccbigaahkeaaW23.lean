/- Contracts: the reference's numbers M 2^E: their sign; brought to one exponent; products. -/
import Derived.Test.YtjdccbigaahkeaaW22
namespace Go.Proofs.Ytjdccbigaahkeaa
set_option linter.unusedSimpArgs false
set_option linter.unusedVariables false
open Go.RowKit
open Fl

theorem big_len {l : List Nat} {n : Nat} (ht : Top l) (e : n32 l = n) (hn : n < bp 30000) : l.length ≤ 1000000 := by
  subst e
  have := len_le ht hn
  omega

/-- A whole number that stays so in later worlds. -/
def BigS (w : World) (v : Value) (n : Nat) : Prop := ∀ w', Below w.heap.size w w' → Big w' v n
theorem Big.stays {w : World} {v : Value} {n : Nat} (h : Big w v n) : BigS w v n := fun _ hb => h.below hb

/-- How long a slice is that is a whole number: 0 or not. -/
theorem Big.len {w : World} {v : Value} {n : Nat} (h : Big w v n) : ∃ A k c, v = .slice A k c ∧ (k = 0 ↔ n = 0) ∧ k ≤ 9223372036854775807 := by
  obtain ⟨l, ⟨A, c, h1, h2, h3, _⟩, _, ht, rfl⟩ := h
  exact ⟨A, l.length, c, h1, (n32_nil ht).symm, by omega⟩

theorem BigRes.go {f : FuncId} {args : Array Value} {n : Nat} {w : World} (h : Calls Try.prog f args w (BigRes n w)) : Calls Try.prog f args w fun e w' => ∃ (A : Option Addr) (k c : Nat) (q : Later w), Hid (Big q.val (.slice A k c) n) ∧ Hid (k = 0 ↔ n = 0) ∧ k ≤ 9223372036854775807 ∧ e = .returned (.slice A k c) ∧ w' = q.val :=
  h.mono fun _ w' ⟨⟨v, he, hb⟩, hbl⟩ => by
    obtain ⟨A, k, c, rfl, h1, h2⟩ := hb.len
    exact ⟨A, k, c, ⟨w', hbl⟩, hb, h1, h2, he, rfl⟩
theorem IntRes.go {f : FuncId} {args : Array Value} {n : Int} {w : World} (h : Calls Try.prog f args w (IntRes n w)) : Calls Try.prog f args w fun e w' => ∃ (k : Later w), e = .returned (.int .i64 n) ∧ w' = k.val :=
  h.mono fun _ w' ⟨he, hbl⟩ => ⟨⟨w', hbl⟩, he, rfl⟩

theorem left_big {v : Value} {m : Nat} {w : World} (h : Big w v m) (hm : m < bp 30000) (n : Nat) (hn : n ≤ 1000000) : Calls Try.prog 151 #[v, .int .i64 n] w (BigRes (m * 2 ^ n) w) := by
  obtain ⟨l, h1, h2, h3, rfl⟩ := h
  exact bleft_any v l n w h1 h2 h3 (big_len h3 rfl hm) hn
theorem bits_big {v : Value} {m : Nat} {w : World} (h : Big w v m) (hm : m < bp 30000) : Calls Try.prog 156 #[v] w (IntRes (blen m) w) := by
  obtain ⟨l, h1, h2, h3, rfl⟩ := h
  exact bbits_any v l w h1 h2 h3 (big_len h3 rfl hm)
theorem cmp_big {v u : Value} {m n : Nat} {w : World} (h : Big w v m) (g : Big w u n) (hm : m < bp 30000) (hn : n < bp 30000) : Calls Try.prog 138 #[v, u] w (IntRes (cmpI m n) w) := by
  obtain ⟨l, h1, h2, h3, rfl⟩ := h
  obtain ⟨k, g1, g2, g3, rfl⟩ := g
  exact bcmp_any v u l k w h1 g1 h2 g2 h3 g3 (big_len h3 rfl hm) (big_len g3 rfl hn)
theorem plus_big {v u : Value} {m n : Nat} {w : World} (h : Big w v m) (g : Big w u n) (hm : m < bp 30000) (hn : n < bp 30000) : Calls Try.prog 137 #[v, u] w (BigRes (m + n) w) := by
  obtain ⟨l, h1, h2, h3, rfl⟩ := h
  obtain ⟨k, g1, g2, g3, rfl⟩ := g
  exact bplus_any v u l k w h1 g1 h2 g2 (big_len h3 rfl hm) (big_len g3 rfl hn)
theorem less_big {v u : Value} {m n : Nat} {w : World} (h : Big w v m) (g : Big w u n) (hm : m < bp 30000) (hle : n ≤ m) : Calls Try.prog 139 #[v, u] w (BigRes (m - n) w) := by
  obtain ⟨l, h1, h2, h3, rfl⟩ := h
  obtain ⟨k, g1, g2, g3, rfl⟩ := g
  exact bless_any v u l k w h1 g1 h2 g2 g3 hle (big_len h3 rfl hm)
theorem by_big {v u : Value} {m n : Nat} {w : World} (h : Big w v m) (g : Big w u n) (hm : m < bp 30000) (hn : n < bp 30000) : Calls Try.prog 133 #[v, u] w (BigRes (m * n) w) := by
  obtain ⟨l, h1, h2, h3, rfl⟩ := h
  obtain ⟨k, g1, g2, g3, rfl⟩ := g
  exact bby_any v u l k w h1 g1 h2 g2 (big_len h3 rfl hm) (big_len g3 rfl hn)

/-! ### Numbers -/

@[go_sem] theorem build_nm (s : Bool) (A : Option Addr) (k c : Nat) (e : Int) (w : World) : (Instr.build 72 #[(0, .bool s), (1, .slice A k c), (2, .int .i64 e)]).run Try.prog w = .ok (.agg #[.bool s, (.slice A k c), .int .i64 e]) w := run_build w 72 _ _ (by kernel_rfl)
@[go_sem] theorem build_nm0 (w : World) : (Instr.build 72 #[]).run Try.prog w = .ok (.agg #[.bool false, (.slice none 0 0), .int .i64 0]) w := run_build w 72 _ _ (by kernel_rfl)

set_option maxHeartbeats 1000000 in
theorem sign_any (s : Bool) (v : Value) (m : Nat) (e : Int) (w : World) (h : BigS w v m) : Calls Try.prog 152 #[(.agg #[.bool s, v, .int .i64 e])] w (IntRes (sgnI s m) w) := by
  obtain ⟨A, k, c, rfl, hk, hk2⟩ := (h w (Below.refl _ _)).len
  unfold sgnI
  clear h
  by_cases hm : m = 0
  · obtain rfl := hk.2 hm
    rw [if_pos hm]
    clear hk hm
    go_enter Try.func152, Try.ntmps152
    go_wp2
    go_ret
    exact ⟨rfl, by (repeat' (first | (with_reducible exact Below.refl _ _) | (with_reducible assumption) | (with_reducible refine Later.belowOf _ ?_ ?_) | (with_reducible refine Below.alloc ?_ ?_ _) | (with_reducible refine Below.setCell ?_ ?_ _) | (with_reducible refine Below.drewN' _ ?_) | (with_reducible refine Below.drew ?_) | (with_reducible exact Ge.le) | go_size))⟩
  · have hz : ((k : Int) == 0) = false := by rw [beq_eq_false_iff_ne]; intro h; exact hm (hk.1 (by omega))
    rw [if_neg hm]
    clear hk hm
    cases s
    all_goals
      go_enter Try.func152, Try.ntmps152
      go_wp2
      go_ret
      exact ⟨rfl, by (repeat' (first | (with_reducible exact Below.refl _ _) | (with_reducible assumption) | (with_reducible refine Later.belowOf _ ?_ ?_) | (with_reducible refine Below.alloc ?_ ?_ _) | (with_reducible refine Below.setCell ?_ ?_ _) | (with_reducible refine Below.drewN' _ ?_) | (with_reducible refine Below.drew ?_) | (with_reducible exact Ge.le) | go_size))⟩

/-! ### What a store into a cell that is no digit leaves -/

def notU32 (c : Option Value) : Bool := match c with | some (.int .u32 _) => false | _ => true
@[go_sem] theorem notU32_bool (b : Bool) : notU32 (some (.bool b)) = true := rfl
@[go_sem] theorem notU32_slice (A : Option Addr) (k c : Nat) : notU32 (some (.slice A k c)) = true := rfl
@[go_sem] theorem notU32_i64 (e : Int) : notU32 (some (.int .i64 e)) = true := rfl
@[go_sem] theorem notU32_u64 (e : Int) : notU32 (some (.int .u64 e)) = true := rfl
@[go_sem] theorem notU32_float (e : Nat) : notU32 (some (.float .f64 e)) = true := rfl
theorem Rd.setCell {w : World} {v : Value} {l : List Nat} (h : Rd w v l) {p : Addr} (x : Value) (hp : notU32 (w.cell? p) = true) : Rd (w.setCell p x) v l := by
  obtain ⟨A, c, e, h1, h2, h3⟩ := h
  refine ⟨A, c, e, h1, h2, fun i hi => ?_⟩
  obtain ⟨b, off, e1, e2⟩ := h3 i hi
  refine ⟨b, off, e1, ?_⟩
  have hne : (⟨b, off + i, none⟩ : Addr) ≠ p := by
    intro hh
    rw [hh] at e2
    rw [e2] at hp
    simp [notU32] at hp
  exact (World.cell?_setCell_other _ _ _ _ (Ne.symm hne)).trans e2
theorem Big.setCell {w : World} {v : Value} {n : Nat} (h : Big w v n) {p : Addr} (x : Value) (hp : notU32 (w.cell? p) = true) : Big (w.setCell p x) v n := by
  obtain ⟨l, h1, h2⟩ := h
  exact ⟨l, h1.setCell x hp, h2⟩
theorem Big.drew {w : World} {v : Value} {n : Nat} (h : Big w v n) : Big w.drew v n := h.below (Below.refl _ w).drew
theorem Big.drewN {w : World} {v : Value} {n : Nat} (h : Big w v n) (k : Nat) : Big (w.drewN k) v n := h.below (Below.drewN' k (Below.refl _ w))
theorem Big.alloc {w : World} {v : Value} {n : Nat} (h : Big w v n) (o : Obj) : Big (w.alloc o) v n := h.below ((Below.refl _ w).alloc (Nat.le_refl _) o)
theorem Big.later {w : World} {v : Value} {n : Nat} (h : Big w v n) (q : Later w) : Big q.val v n := h.below q.below

def LevelRes (s t : Bool) (m n : Nat) (e f : Int) (w : World) (E : Ending) (w' : World) : Prop :=
  (∃ (A : Option Addr) (k c : Nat) (B : Option Addr) (l d : Nat), E = .returned (.tuple #[(.agg #[.bool s, (.slice A k c), .int .i64 (min e f)]), (.agg #[.bool t, (.slice B l d), .int .i64 (min e f)])]) ∧ Big w' (.slice A k c) (m * 2 ^ (e - min e f).toNat) ∧ Big w' (.slice B l d) (n * 2 ^ (f - min e f).toNat)) ∧ Below w.heap.size w w'

set_option maxHeartbeats 4000000 in
set_option maxRecDepth 100000 in
theorem level_any (s t : Bool) (A : Option Addr) (ka ca : Nat) (B : Option Addr) (kb cb : Nat) (m n : Nat) (e f : Int) (w : World) (ha : BigS w (.slice A ka ca) m) (hb : BigS w (.slice B kb cb) n) (hm : m < bp 30000) (hn : n < bp 30000)
    (e0 : -100000 ≤ e) (e1 : e ≤ 100000) (f0 : -100000 ≤ f) (f1 : f ≤ 100000) :
    Calls Try.prog 136 #[(.agg #[.bool s, (.slice A ka ca), .int .i64 e]), (.agg #[.bool t, (.slice B kb cb), .int .i64 f])] w (LevelRes s t m n e f w) := by
  have HA := Lib.hid ha
  have HB := Lib.hid hb
  have HM := Lib.hid hm
  have HN := Lib.hid hn
  clear ha hb hm hn
  rcases Int.lt_trichotomy e f with hl | hl | hl
  · obtain ⟨d, hd⟩ : ∃ d : Nat, f - e = (d : Int) := ⟨(f - e).toNat, by omega⟩
    have hd2 : d ≤ 1000000 := by omega
    have h4 := Lib.hid (show min e f = e ∧ (f - e).toNat = d ∧ (e - e).toNat = 0 by omega)
    go_enter Try.func136, Try.ntmps136
    go_wp2_with (go_at_call 151; refine (BigRes.go (left_big (HB.out _ (by (repeat' (first | (with_reducible exact Below.refl _ _) | (with_reducible assumption) | (with_reducible refine Later.belowOf _ ?_ ?_) | (with_reducible refine Below.alloc ?_ ?_ _) | (with_reducible refine Below.setCell ?_ ?_ _) | (with_reducible refine Below.drewN' _ ?_) | (with_reducible refine Below.drew ?_) | (with_reducible exact Ge.le) | go_size)))) HN.out d hd2)).mono ?_; rintro _ _ ⟨A', k', c', q, hq, hk, hk2, rfl, rfl⟩)
    go_region
    all_goals
      go_wp2
      go_returns
      unfold LevelRes
      rw [h4.out.1, h4.out.2.1, h4.out.2.2, Nat.pow_zero, Nat.mul_one]
      have hq1 := hq.out
      exact ⟨⟨_, _, _, _, _, _, rfl, HA.out _ (by (repeat' (first | (with_reducible exact Below.refl _ _) | (with_reducible assumption) | (with_reducible refine Later.belowOf _ ?_ ?_) | (with_reducible refine Below.alloc ?_ ?_ _) | (with_reducible refine Below.setCell ?_ ?_ _) | (with_reducible refine Below.drewN' _ ?_) | (with_reducible refine Below.drew ?_) | (with_reducible exact Ge.le) | go_size))), by (repeat (first | (with_reducible assumption) | (with_reducible refine Big.drew ?_) | (with_reducible refine Big.drewN ?_ _) | (with_reducible refine Big.alloc ?_ _) | (with_reducible refine Big.later ?_ _) | (with_reducible refine Big.setCell ?_ _ (by go_simp))))⟩, by (repeat' (first | (with_reducible exact Below.refl _ _) | (with_reducible assumption) | (with_reducible refine Later.belowOf _ ?_ ?_) | (with_reducible refine Below.alloc ?_ ?_ _) | (with_reducible refine Below.setCell ?_ ?_ _) | (with_reducible refine Below.drewN' _ ?_) | (with_reducible refine Below.drew ?_) | (with_reducible exact Ge.le) | go_size))⟩
  · subst hl
    have h4 := Lib.hid (show min e e = e ∧ (e - e).toNat = 0 by omega)
    go_enter Try.func136, Try.ntmps136
    go_wp2
    go_region
    all_goals
      go_wp2
      go_returns
      unfold LevelRes
      rw [h4.out.1, h4.out.2, Nat.pow_zero, Nat.mul_one, Nat.mul_one]
      exact ⟨⟨_, _, _, _, _, _, rfl, HA.out _ (by (repeat' (first | (with_reducible exact Below.refl _ _) | (with_reducible assumption) | (with_reducible refine Later.belowOf _ ?_ ?_) | (with_reducible refine Below.alloc ?_ ?_ _) | (with_reducible refine Below.setCell ?_ ?_ _) | (with_reducible refine Below.drewN' _ ?_) | (with_reducible refine Below.drew ?_) | (with_reducible exact Ge.le) | go_size))), HB.out _ (by (repeat' (first | (with_reducible exact Below.refl _ _) | (with_reducible assumption) | (with_reducible refine Later.belowOf _ ?_ ?_) | (with_reducible refine Below.alloc ?_ ?_ _) | (with_reducible refine Below.setCell ?_ ?_ _) | (with_reducible refine Below.drewN' _ ?_) | (with_reducible refine Below.drew ?_) | (with_reducible exact Ge.le) | go_size)))⟩, by (repeat' (first | (with_reducible exact Below.refl _ _) | (with_reducible assumption) | (with_reducible refine Later.belowOf _ ?_ ?_) | (with_reducible refine Below.alloc ?_ ?_ _) | (with_reducible refine Below.setCell ?_ ?_ _) | (with_reducible refine Below.drewN' _ ?_) | (with_reducible refine Below.drew ?_) | (with_reducible exact Ge.le) | go_size))⟩
  · obtain ⟨d, hd⟩ : ∃ d : Nat, e - f = (d : Int) := ⟨(e - f).toNat, by omega⟩
    have hd2 : d ≤ 1000000 := by omega
    have h4 := Lib.hid (show min e f = f ∧ (e - f).toNat = d ∧ (f - f).toNat = 0 by omega)
    go_enter Try.func136, Try.ntmps136
    go_wp2_with (go_at_call 151; refine (BigRes.go (left_big (HA.out _ (by (repeat' (first | (with_reducible exact Below.refl _ _) | (with_reducible assumption) | (with_reducible refine Later.belowOf _ ?_ ?_) | (with_reducible refine Below.alloc ?_ ?_ _) | (with_reducible refine Below.setCell ?_ ?_ _) | (with_reducible refine Below.drewN' _ ?_) | (with_reducible refine Below.drew ?_) | (with_reducible exact Ge.le) | go_size)))) HM.out d hd2)).mono ?_; rintro _ _ ⟨A', k', c', q, hq, hk, hk2, rfl, rfl⟩)
    go_region
    all_goals
      go_wp2
      go_returns
      unfold LevelRes
      rw [h4.out.1, h4.out.2.1, h4.out.2.2, Nat.pow_zero, Nat.mul_one]
      have hq1 := hq.out
      exact ⟨⟨_, _, _, _, _, _, rfl, by (repeat (first | (with_reducible assumption) | (with_reducible refine Big.drew ?_) | (with_reducible refine Big.drewN ?_ _) | (with_reducible refine Big.alloc ?_ _) | (with_reducible refine Big.later ?_ _) | (with_reducible refine Big.setCell ?_ _ (by go_simp)))), HB.out _ (by (repeat' (first | (with_reducible exact Below.refl _ _) | (with_reducible assumption) | (with_reducible refine Later.belowOf _ ?_ ?_) | (with_reducible refine Below.alloc ?_ ?_ _) | (with_reducible refine Below.setCell ?_ ?_ _) | (with_reducible refine Below.drewN' _ ?_) | (with_reducible refine Below.drew ?_) | (with_reducible exact Ge.le) | go_size)))⟩, by (repeat' (first | (with_reducible exact Below.refl _ _) | (with_reducible assumption) | (with_reducible refine Later.belowOf _ ?_ ?_) | (with_reducible refine Below.alloc ?_ ?_ _) | (with_reducible refine Below.setCell ?_ ?_ _) | (with_reducible refine Below.drewN' _ ?_) | (with_reducible refine Below.drew ?_) | (with_reducible exact Ge.le) | go_size))⟩
end Go.Proofs.Ytjdccbigaahkeaa
