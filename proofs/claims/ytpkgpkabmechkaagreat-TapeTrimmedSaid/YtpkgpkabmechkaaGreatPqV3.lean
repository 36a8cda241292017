/- Contracts: the value of a tape's operation; slices of intervals. -/
import Derived.Test.YtpkgpkabmechkaaGreatPqV2
namespace Go.Proofs.YtpkgpkabmechkaaGreat
set_option linter.unusedSimpArgs false
set_option linter.unusedVariables false
open Go.RowKit
open Fl

/-- A slice of n intervals. -/
def IvsAt (w : World) (v : Value) (xs : Nat → Nat × Nat) (n : Nat) : Prop :=
  ∃ A c, v = .slice A n c ∧ n ≤ 9223372036854775807 ∧ ∀ i, i < n → ∃ b o, A = some ⟨b, o, none⟩ ∧ Lt (xs i) ∧ w.cell? ⟨b, o + i * 2, none⟩ = some (.float .f64 ((xs i).1)) ∧ w.cell? ⟨b, o + i * 2 + 1, none⟩ = some (.float .f64 ((xs i).2))
theorem IvsAt.below {w w' : World} {v : Value} {xs : Nat → Nat × Nat} {n : Nat} (h : IvsAt w v xs n) (hb : Below w.heap.size w w') : IvsAt w' v xs n := by
  obtain ⟨A, c, e, hn, h⟩ := h
  refine ⟨A, c, e, hn, fun i hi => ?_⟩
  obtain ⟨b, o, e2, l, h0, h1⟩ := h i hi
  exact ⟨b, o, e2, l, cellBelow hb h0, cellBelow hb h1⟩
theorem IvsAt.lt {w : World} {v : Value} {xs : Nat → Nat × Nat} {n : Nat} (h : IvsAt w v xs n) {i : Nat} (hi : i < n) : Lt (xs i) := by
  obtain ⟨A, c, e, hn, h⟩ := h
  obtain ⟨b, o, e2, l, _⟩ := h i hi
  exact l
theorem IvsAt.congr {w : World} {v : Value} {xs ys : Nat → Nat × Nat} {n : Nat} (h : IvsAt w v xs n) (e : ∀ i, i < n → xs i = ys i) : IvsAt w v ys n := by
  obtain ⟨A, c, rfl, hn, h⟩ := h
  refine ⟨A, c, rfl, hn, fun i hi => ?_⟩
  rw [← e i hi]
  exact h i hi
theorem ivs_nil (w : World) (xs : Nat → Nat × Nat) : IvsAt w (.slice none 0 0) xs 0 := ⟨none, 0, rfl, by decide, fun i hi => by omega⟩

/-- What an operation gives; whether it has a value there. -/
def valY (o : OpT) (a b x : Nat × Nat) : Nat × Nat :=
  if o.K = 1 then (o.lo, o.hi) else if o.K = 2 then x else if o.K = 3 then addP a b else if o.K = 4 then subP a b else if o.K = 5 then mulP a b else if o.K = 6 then divP a b else if o.K = 7 then negP a
  else if o.K = 8 then powsP a o.N else if o.K = 9 then rootP a else if o.K = 10 then expP a else if o.K = 11 then logP a else if o.K = 12 then roundP a 0 else if o.K = 13 then roundP a 1 else atanP a
def valB (o : OpT) (a b : Nat × Nat) : Bool :=
  if o.K = 6 then !hasB b.1 b.2 0 else if o.K = 8 then (if 0 ≤ o.N then true else !hasB a.1 a.2 0) else if o.K = 9 then fle 0 a.1 else if o.K = 11 then flt 0 a.1 else true

theorem lt_round {x : Nat × Nat} (hx : Lt x) {on : Int} : Lt (roundP x on) := by
  unfold roundP
  rcases fot (noneB x.1 x.2) with hn | hn
  · rw [hn, if_neg Bool.false_ne_true]
    rcases fot (flt 4652007308841189376 (magI x.1 x.2)) with hm | hm
    · rw [hm, if_neg Bool.false_ne_true]
      obtain ⟨⟨i1, i2⟩, i3, i4⟩ := ends_1000 hx hn hm
      obtain ⟨n1, n2⟩ := nums_of hn
      exact lt_meet (lt_roundGo _ _ (lt_hull (lt_turnV hx.1 (near_quarter n1 i1 i2).2.2.2.2.1 on) (lt_turnV hx.2 (near_quarter n2 i3 i4).2.2.2.2.1 on))) lt_unit
    · rw [hm, if_pos rfl]; exact lt_unit
  · rw [hn, if_pos rfl]; exact lt_emp
theorem lt_rise_at {x : Nat × Nat} {f : Nat → Nat × Nat} (h1 : noneB x.1 x.2 = false → Lt (f x.1)) (h2 : noneB x.1 x.2 = false → Lt (f x.2)) : Lt (riseP x f) := by
  unfold riseP
  rcases fot (noneB x.1 x.2) with h | h
  · rw [h, if_neg Bool.false_ne_true]; exact lt_make (h1 h).1 (h2 h).2
  · rw [h, if_pos rfl]; exact lt_emp
theorem lt_logV {v : Nat} (hv : v ≤ 9218868437227405312) : Lt (logV v) := by
  unfold logV; split
  · exact lt_make (by decide) (by decide)
  · split
    · exact lt_make (by decide) (by omega)
    · exact lt_add (lt_mul (lt_whole _) lt_ln2) (by unfold logT; exact lt_mul (lt_mul (lt_whole _) lt_div) (lt_around (lt_ser (fun i => lt_div) _ (lt_whole 1)) (ldx_lt _)))
theorem lt_log {x : Nat × Nat} (hx : Lt x) : Lt (logP x) := by
  unfold logP
  split
  · exact lt_emp
  · exact lt_rise_at (fun h => lt_logV (meet_low hx h).1) (fun h => lt_logV (meet_low hx h).2)
theorem lt_atan {x : Nat × Nat} (hx : Lt x) : Lt (atanP x) := lt_rise_at (fun _ => lt_atanV hx.1) (fun _ => lt_atanV hx.2)

theorem op_kinds2 {o : OpT} {i : Nat} {V : Int} (h : opR o i V) : o.K = 1 ∨ (o.K = 2 ∧ 0 ≤ o.N ∧ o.N < V) ∨ ((o.K = 3 ∨ o.K = 4 ∨ o.K = 5 ∨ o.K = 6) ∧ 0 ≤ o.A ∧ o.A < i ∧ 0 ≤ o.B ∧ o.B < i) ∨ (o.K = 8 ∧ 0 ≤ o.A ∧ o.A < i ∧ -64 ≤ o.N ∧ o.N ≤ 64)
    ∨ ((o.K = 7 ∨ o.K = 9 ∨ o.K = 10 ∨ o.K = 11 ∨ o.K = 12 ∨ o.K = 13 ∨ o.K = 14) ∧ 0 ≤ o.A ∧ o.A < i) := by
  unfold opR OpR at h
  rcases h with h | h | h | h | h
  · exact Or.inl h.1
  · exact Or.inr (Or.inl h)
  · exact Or.inr (Or.inr (Or.inl ⟨by omega, h.2.2⟩))
  · exact Or.inr (Or.inr (Or.inr (Or.inl h)))
  · exact Or.inr (Or.inr (Or.inr (Or.inr ⟨by omega, h.2⟩)))

theorem lt_val {o : OpT} {a b x : Nat × Nat} {i : Nat} {V : Int} (ho : opR o i V) (h1 : o.lo < 18446744073709551616) (h2 : o.hi < 18446744073709551616) (ha : 0 ≤ o.A → o.A < i → Lt a) (hb : 0 ≤ o.B → o.B < i → Lt b) (hx : 0 ≤ o.N → o.N < V → Lt x) : Lt (valY o a b x) := by
  unfold valY
  rcases op_kinds2 ho with h | ⟨h, h3, h4⟩ | ⟨h, h3, h4, h5, h6⟩ | ⟨h, h3, h4, _⟩ | ⟨h, h3, h4⟩
  · rw [if_pos h]; exact ⟨h1, h2⟩
  · rw [if_neg (by omega), if_pos h]; exact hx h3 h4
  · have la := ha h3 h4
    have lb := hb h5 h6
    rcases h with h | h | h | h <;> simp only [h] <;> simp
    · exact lt_add la lb
    · exact lt_sub la lb
    · exact lt_mul la lb
    · exact lt_div
  · have la := ha h3 h4
    simp only [h]; simp
    exact lt_pow la _
  · have la := ha h3 h4
    rcases h with h | h | h | h | h | h | h <;> simp only [h] <;> simp
    · exact lt_neg la
    · exact lt_root la
    · exact lt_exp _
    · exact lt_log la
    · exact lt_round la
    · exact lt_round la
    · exact lt_atan la

theorem value_c {o : OpT} {w : World} {vv vx : Value} {vs xs : Nat → Nat × Nat} {nv nx : Nat} (hv : IvsAt w vv vs nv) (hx : IvsAt w vx xs nx) (ho : opR o nv nx) :
    Calls Tryz.prog 84 #[(.agg #[.int .i64 o.K, .int .i64 o.A, .int .i64 o.B, .int .i64 o.N, .float .f64 o.lo, .float .f64 o.hi]), vv, vx] w (Val2 w (valY o (vs o.A.toNat) (vs o.B.toNat) (xs o.N.toNat)) (valB o (vs o.A.toNat) (vs o.B.toNat))) := by
  have ks := op_kinds2 ho
  obtain ⟨K, A, B, N, lo, hi⟩ := o
  simp only at ks
  unfold valY valB
  simp only
  rcases ks with h | ⟨h, h3, h4⟩ | ⟨h, h3, h4, h5, h6⟩ | ⟨h, h3, h4, _⟩ | ⟨h, h3, h4⟩
  · subst h
    exact value_1 w A B N lo hi vv vx
  · subst h
    obtain ⟨i, rfl⟩ := Int.eq_ofNat_of_zero_le h3
    obtain ⟨A', c, rfl, hn, hc⟩ := hx
    obtain ⟨b, q, rfl, l, c0, c1⟩ := hc i (by omega)
    exact value_2 w A B lo hi vv i b q c nx _ _ (by omega) c0 c1
  · obtain ⟨ia, rfl⟩ := Int.eq_ofNat_of_zero_le h3
    obtain ⟨ib, rfl⟩ := Int.eq_ofNat_of_zero_le h5
    obtain ⟨A', c, rfl, hn, hc⟩ := hv
    obtain ⟨b, q, rfl, la, a0, a1⟩ := hc ia (by omega)
    obtain ⟨b', q', e, lb, b0, b1⟩ := hc ib (by omega)
    cases e
    rcases h with rfl | rfl | rfl | rfl
    · exact value_3 w N lo hi vx ia ib b q c nv _ _ _ _ _ _ (by omega) a0 a1 (by omega) b0 b1 (addC la lb)
    · exact value_4 w N lo hi vx ia ib b q c nv _ _ _ _ _ _ (by omega) a0 a1 (by omega) b0 b1 (subC la lb)
    · exact value_5 w N lo hi vx ia ib b q c nv _ _ _ _ _ _ (by omega) a0 a1 (by omega) b0 b1 (mulC la lb)
    · exact value_6 w N lo hi vx ia ib b q c nv _ _ _ _ _ _ (by omega) a0 a1 (by omega) b0 b1 _ (has_any _ _ 0 (by decide)) (divC la lb)
  · subst h
    obtain ⟨ia, rfl⟩ := Int.eq_ofNat_of_zero_le h3
    obtain ⟨A', c, rfl, hn, hc⟩ := hv
    obtain ⟨b, q, rfl, la, a0, a1⟩ := hc ia (by omega)
    by_cases hN : 0 ≤ N
    · simp only [if_pos hN]
      exact value_8p w B N lo hi vx ia b q c nv _ _ _ _ (by omega) a0 a1 hN (powC la N)
    · simp only [if_neg hN]
      exact value_8m w B N lo hi vx ia b q c nv _ _ _ _ (by omega) a0 a1 (by omega) _ (has_any _ _ 0 (by decide)) (powC la N)
  · obtain ⟨ia, rfl⟩ := Int.eq_ofNat_of_zero_le h3
    obtain ⟨A', c, rfl, hn, hc⟩ := hv
    obtain ⟨b, q, rfl, la, a0, a1⟩ := hc ia (by omega)
    rcases h with rfl | rfl | rfl | rfl | rfl | rfl | rfl
    · exact value_7 w B N lo hi vx ia b q c nv _ _ _ _ (by omega) a0 a1 (negC la)
    · exact value_9 w B N lo hi vx ia b q c nv _ _ _ _ (by omega) a0 a1 (rootC la)
    · exact value_10 w B N lo hi vx ia b q c nv _ _ _ _ (by omega) a0 a1 (Exp_c la)
    · exact value_11 w B N lo hi vx ia b q c nv _ _ _ _ (by omega) a0 a1 (Log_c la)
    · exact value_12 w B N lo hi vx ia b q c nv _ _ _ _ (by omega) a0 a1 (Sin_c la)
    · exact value_13 w B N lo hi vx ia b q c nv _ _ _ _ (by omega) a0 a1 (Cos_c la)
    · exact value_14 w B N lo hi vx ia b q c nv _ _ _ _ (by omega) a0 a1 (Atan_c la)
end Go.Proofs.YtpkgpkabmechkaaGreat

/- Contracts: is an interval too wide; does a slice hold one that may not be; may a tape be worked out on a slice. -/
namespace Go.Proofs.YtpkgpkabmechkaaGreat
set_option linter.unusedSimpArgs false
set_option linter.unusedVariables false
open Go.RowKit
open Fl

def wideB (x : Nat × Nat) : Bool := eqI x.1 x.2 9218868437227405312 18442240474082181120 || (flt 9218868437227405311 (rung x.1) || flt 9218868437227405311 (rung x.2))

set_option maxHeartbeats 1000000 in
theorem wide_c {x : Nat × Nat} (hx : Lt x) : Gives 85 #[(.agg #[.float .f64 x.1, .float .f64 x.2])] (.bool (wideB x)) := by
  intro w
  have I1 := isInf0_any x.1 hx.1
  have I2 := isInf0_any x.2 hx.2
  unfold wideB
  obtain ⟨a, b⟩ := x
  simp only at *
  generalize flt 9218868437227405311 (rung a) = p at *
  generalize flt 9218868437227405311 (rung b) = q at *
  clear hx
  rcases fot (eqI a b 9218868437227405312 18442240474082181120) with h0 | h0
  · cases p
    all_goals
      rw [h0]
      go_enter Tryz.func85, Tryz.ntmps85
      go_wp2_with (fail)
      refine wp_region_later (by kernel_rfl) (by kernel_rfl) ?_
      repeat (go_big_quiet_step (first | (go_at_call 135; (with_reducible exact empty_any.later _)) | (go_at_call 167; first | (with_reducible exact I1.later _) | (with_reducible exact I2.later _))))
      (refine wpQuiet_nil ?_; rintro _ ⟨nq, rfl⟩)
      go_wp2
      go_ret
      exact ⟨rfl, by (repeat' first | (with_reducible first | exact Below.refl _ _ | assumption | refine Later.belowOf _ ?_ ?_ | refine Below.alloc ?_ ?_ _ | refine Below.setCell ?_ ?_ _ | refine Below.drewN' _ ?_ | refine Below.drew ?_ | exact Ge.le) | go_size)⟩
  · rw [h0]
    go_enter Tryz.func85, Tryz.ntmps85
    go_wp2_with (fail)
    refine wp_region_later (by kernel_rfl) (by kernel_rfl) ?_
    repeat (go_big_quiet_step (first | (go_at_call 135; (with_reducible exact empty_any.later _)) | (go_at_call 167; first | (with_reducible exact I1.later _) | (with_reducible exact I2.later _))))
    (refine wpQuiet_nil ?_; rintro _ ⟨nq, rfl⟩)
    go_wp2
    go_ret
    exact ⟨rfl, by (repeat' first | (with_reducible first | exact Below.refl _ _ | assumption | refine Later.belowOf _ ?_ ?_ | refine Below.alloc ?_ ?_ _ | refine Below.setCell ?_ ?_ _ | refine Below.drewN' _ ?_ | refine Below.drew ?_ | exact Ge.le) | go_size)⟩

/-- A plain test of intervals. -/
def FnB (K : FuncId) (bad : Nat × Nat → Bool) : Prop :=
  (∀ (x : Value) (w' : World), (callFunc K #[x]).run Tryz.prog w' = .ok (.enter K #[x]) w') ∧ ∀ x, Lt x → Gives K #[(.agg #[.float .f64 x.1, .float .f64 x.2])] (.bool (bad x))

set_option maxHeartbeats 1000000 in
theorem none_closure : FnB 162 (fun x => noneB x.1 x.2) := by
  refine ⟨fun x w' => by simp [go_sem], fun x hx w => ?_⟩
  have R := right_any x.1 x.2
  show Calls _ _ _ _ fun e w' => e = .returned (.bool (noneB x.1 x.2)) ∧ _
  obtain ⟨a, b⟩ := x
  simp only at *
  unfold noneB
  rcases fot (rightB a b) with h1 | h1
  · rw [h1] at R ⊢
    go_enter Tryz.func162, Tryz.ntmps162
    go_wp2_with (fail)
    refine wp_region_later (by kernel_rfl) (by kernel_rfl) ?_
    repeat (go_big_quiet_step (first | (go_at_call 134; (with_reducible exact R.later _)) | (go_at_call 135; (with_reducible exact empty_any.later _))))
    (refine wpQuiet_nil ?_; rintro _ ⟨nq, rfl⟩)
    go_wp2
    go_ret
    exact ⟨rfl, by (repeat' first | (with_reducible first | exact Below.refl _ _ | assumption | refine Later.belowOf _ ?_ ?_ | refine Below.alloc ?_ ?_ _ | refine Below.setCell ?_ ?_ _ | refine Below.drewN' _ ?_ | refine Below.drew ?_ | exact Ge.le) | go_size)⟩
  · rw [h1] at R ⊢
    go_enter Tryz.func162, Tryz.ntmps162
    go_wp2_with (fail)
    refine wp_region_later (by kernel_rfl) (by kernel_rfl) ?_
    repeat (go_big_quiet_step (first | (go_at_call 134; (with_reducible exact R.later _)) | (go_at_call 135; (with_reducible exact empty_any.later _))))
    (refine wpQuiet_nil ?_; rintro _ ⟨nq, rfl⟩)
    go_wp2
    go_ret
    exact ⟨rfl, by (repeat' first | (with_reducible first | exact Below.refl _ _ | assumption | refine Later.belowOf _ ?_ ?_ | refine Below.alloc ?_ ?_ _ | refine Below.setCell ?_ ?_ _ | refine Below.drewN' _ ?_ | refine Below.drew ?_ | exact Ge.le) | go_size)⟩

def IvInv (W : World) (xs : Nat → Nat × Nat) (n : Nat) (bad : Nat × Nat → Bool) (i : Value) (w : World) : Prop :=
  ∃ k : Nat, i = .int .i64 k ∧ k ≤ n ∧ (∀ j, j < k → bad (xs j) = false) ∧ Below W.heap.size W w

set_option maxHeartbeats 2000000 in
theorem indexI_c {K : FuncId} {bad : Nat × Nat → Bool} (hK : FnB K bad) {v : Value} {xs : Nat → Nat × Nat} {n : Nat} {w : World} (hv : IvsAt w v xs n) :
    Calls Tryz.prog 205 #[v, .func (.func K) #[] #[]] w fun e w' => (∃ r, e = .returned (.int .i64 r) ∧ (0 ≤ r ↔ ∃ j, j < n ∧ bad (xs j) = true)) ∧ Below w.heap.size w w' := by
  obtain ⟨A2, c2, rfl, hn, hv⟩ := hv
  have HV := Lib.hid hv
  have HK := Lib.hid hK
  have hcf := hK.1
  clear hv hK
  go_enter Tryz.func205, Tryz.ntmps205
  go_wp2
  go_loopw [8] (fun i wr => IvInv w xs n bad i wr) (fun i _ => n - (intOf i).toNat)
  case atStart => exact ⟨0, rfl, Nat.zero_le _, fun j hj => by omega, Below.refl _ _⟩
  case round =>
    obtain ⟨k, rfl, hk, hE, hbel⟩ := hrel
    have HE := Lib.hid hE
    clear hE
    have hk2 : (k : Int) ≤ 9223372036854775807 := by omega
    by_cases h1 : k < n
    · obtain ⟨b1, o1, eA, lx, c1, c2'⟩ := HV.out k h1
      subst eA
      replace c1 := cellBelow hbel c1
      replace c2' := cellBelow hbel c2'
      have ca := HK.out.2 (xs k) lx
      generalize hx : xs k = x at *
      have HX := Lib.hid hx
      clear hx lx
      obtain ⟨x1, x2⟩ := x
      simp only at c1 c2' ca
      generalize hbx : bad (x1, x2) = bx at ca
      have HBX := Lib.hid hbx
      clear hbx
      cases bx
      · go_wp2_with ((with_reducible refine (ca.go _).mono ?_); rintro _ _ ⟨n1, rfl, rfl⟩)
        go_roundw
        case rel => exact ⟨k + 1, by go_num, h1, fun j hj => by rcases Nat.lt_succ_iff_lt_or_eq.1 hj with h | h; exact HE.out j h; rw [h, HX.out]; exact HBX.out, hbel.trans (n1.below.mono hbel.size)⟩
        case measure => simp [intOf]; omega
      · go_wp2_with ((with_reducible refine (ca.go _).mono ?_); rintro _ _ ⟨n1, rfl, rfl⟩)
        go_ret
        exact ⟨⟨_, rfl, by constructor; (intro _; exact ⟨k, h1, by rw [HX.out]; exact HBX.out⟩); (intro _; omega)⟩, hbel.trans (n1.below.mono hbel.size)⟩
    · go_wp2
      go_ret
      exact ⟨⟨_, rfl, by constructor; (intro hh; omega); (rintro ⟨j, hj, hb⟩; have := HE.out j (by omega); rw [hb] at this; cases this)⟩, hbel⟩

def anyB (xs : Nat → Nat × Nat) (n : Nat) (bad : Nat × Nat → Bool) : Bool := (List.range n).any fun j => bad (xs j)
theorem anyB_iff {xs : Nat → Nat × Nat} {n : Nat} {bad : Nat × Nat → Bool} : anyB xs n bad = true ↔ ∃ j, j < n ∧ bad (xs j) = true := by
  unfold anyB
  rw [List.any_eq_true]
  constructor
  · rintro ⟨j, hj, h⟩; exact ⟨j, List.mem_range.1 hj, h⟩
  · rintro ⟨j, hj, h⟩; exact ⟨j, List.mem_range.2 hj, h⟩

set_option maxHeartbeats 1000000 in
theorem containsI_c {K : FuncId} {bad : Nat × Nat → Bool} (hK : FnB K bad) {v : Value} {xs : Nat → Nat × Nat} {n : Nat} {w : World} (hv : IvsAt w v xs n) :
    Calls Tryz.prog 161 #[v, .func (.func K) #[] #[]] w fun e w' => ∃ q : Later w, e = .returned (.bool (anyB xs n bad)) ∧ w' = q.val := by
  have ix := indexI_c hK hv
  clear hv hK
  go_enter Tryz.func161, Tryz.ntmps161
  go_wp2_with (go_at_call 205; (with_reducible refine ix.mono ?_); rintro _ w1 ⟨⟨r, rfl, hr⟩, hb1⟩)
  go_ret
  exact ⟨⟨_, hb1⟩, ret_bool (by rw [Bool.eq_iff_iff, anyB_iff, decide_eq_true_eq]), rfl⟩

/-- May a tape be worked out on a slice? -/
noncomputable def startE (V : Int) (nO : Nat) (ops : Nat → OpT) (nN : Nat) (outs : Nat → Int) (xs : Nat → Nat × Nat) (nx : Nat) : Int :=
  open Classical in if TapeR V nO ops nN outs then (if (nx : Int) = V ∧ anyB xs nx (fun x => noneB x.1 x.2) = false then 0 else 1) else 50

set_option maxHeartbeats 2000000 in
theorem start_c {V : Int} {vO vN vx : Value} {ops : Nat → OpT} {outs : Nat → Int} {nO nN nx : Nat} {xs : Nat → Nat × Nat} {w : World} (hO : OpsAt w vO ops nO) (hN : OutsAt w vN outs nN) (hx : IvsAt w vx xs nx) :
    Calls Tryz.prog 83 #[.agg #[.int .i64 V, vO, vN], vx] w fun e w' => ∃ q : Later w, e = .returned (.int .i64 (startE V nO ops nN outs xs nx)) ∧ w' = q.val := by
  have b0 : Below w.heap.size w (w.alloc (Obj.cells #[.int .i64 V, vO, vN] 45)) := (Below.refl _ _).alloc (Nat.le_refl _) _
  have TR := to_later (tright_any V vO vN ops outs nO nN _ (hO.below b0) (hN.below b0))
  have TC := fun (m : Later (w.alloc (Obj.cells #[.int .i64 V, vO, vN] 45))) => containsI_c none_closure (hx.below (b0.trans (m.below.mono b0.size)))
  unfold startE
  obtain ⟨Ax, cx, rfl, hnx, hcx⟩ := hx
  have hx0 : (0 : Int) ≤ (nx : Int) := by omega
  by_cases hT : TapeR V nO ops nN outs
  · rw [if_pos hT] at TR ⊢
    by_cases hl : (nx : Int) = V
    · obtain rfl : V = nx := hl.symm
      generalize anyB xs nx (fun x => noneB x.1 x.2) = ab at *
      clear hT hO hN hcx b0
      have hll : ((nx : Int) != (nx : Int)) = false := by simp
      cases ab
      · rw [if_pos ⟨rfl, rfl⟩]
        go_enter Tryz.func83, Tryz.ntmps83
        go_wp2_with (first | (go_at_call 49; (with_reducible refine TR.mono ?_); rintro _ _ ⟨n, rfl, rfl⟩) | (go_at_call 161; (with_reducible refine (TC _).mono ?_); rintro _ _ ⟨n2, rfl, rfl⟩))
        go_ret
        exact ⟨⟨_, by (repeat' first | (with_reducible first | exact Below.refl _ _ | assumption | refine Later.belowOf _ ?_ ?_ | refine Below.alloc ?_ ?_ _ | refine Below.setCell ?_ ?_ _ | refine Below.drewN' _ ?_ | refine Below.drew ?_ | exact Ge.le) | go_size)⟩, rfl, rfl⟩
      · rw [if_neg (fun hh => by cases hh.2)]
        go_enter Tryz.func83, Tryz.ntmps83
        go_wp2_with (first | (go_at_call 49; (with_reducible refine TR.mono ?_); rintro _ _ ⟨n, rfl, rfl⟩) | (go_at_call 161; (with_reducible refine (TC _).mono ?_); rintro _ _ ⟨n2, rfl, rfl⟩))
        go_ret
        exact ⟨⟨_, by (repeat' first | (with_reducible first | exact Below.refl _ _ | assumption | refine Later.belowOf _ ?_ ?_ | refine Below.alloc ?_ ?_ _ | refine Below.setCell ?_ ?_ _ | refine Below.drewN' _ ?_ | refine Below.drew ?_ | exact Ge.le) | go_size)⟩, rfl, rfl⟩
    · rw [if_neg (fun hh => hl hh.1)]
      have hll : ((nx : Int) != V) = true := by simpa using hl
      clear hT hO hN hcx b0 TC
      go_enter Tryz.func83, Tryz.ntmps83
      go_wp2_with (go_at_call 49; (with_reducible refine TR.mono ?_); rintro _ _ ⟨n, rfl, rfl⟩)
      go_ret
      exact ⟨⟨_, by (repeat' first | (with_reducible first | exact Below.refl _ _ | assumption | refine Later.belowOf _ ?_ ?_ | refine Below.alloc ?_ ?_ _ | refine Below.setCell ?_ ?_ _ | refine Below.drewN' _ ?_ | refine Below.drew ?_ | exact Ge.le) | go_size)⟩, rfl, rfl⟩
  · rw [if_neg hT] at TR ⊢
    clear hT hO hN hcx b0 TC
    go_enter Tryz.func83, Tryz.ntmps83
    go_wp2_with (go_at_call 49; (with_reducible refine TR.mono ?_); rintro _ _ ⟨n, rfl, rfl⟩)
    go_ret
    exact ⟨⟨_, by (repeat' first | (with_reducible first | exact Below.refl _ _ | assumption | refine Later.belowOf _ ?_ ?_ | refine Below.alloc ?_ ?_ _ | refine Below.setCell ?_ ?_ _ | refine Below.drewN' _ ?_ | refine Below.drew ?_ | exact Ge.le) | go_size)⟩, rfl, rfl⟩
end Go.Proofs.YtpkgpkabmechkaaGreat

/- A slice of intervals that the call makes; what a tape is worked out as. -/
namespace Go.Proofs.YtpkgpkabmechkaaGreat
set_option linter.unusedSimpArgs false
set_option linter.unusedVariables false
open Go.RowKit
open Fl

def ivCells (xs : Nat → Nat × Nat) (k : Nat) : List Value := (List.range k).flatMap fun i => [(.float .f64 ((xs i).1)), (.float .f64 ((xs i).2))]
theorem ivCells_succ (xs : Nat → Nat × Nat) (k : Nat) : ivCells xs (k + 1) = ivCells xs k ++ [(.float .f64 ((xs k).1)), (.float .f64 ((xs k).2))] := by
  unfold ivCells; rw [List.range_succ, List.flatMap_append]; simp
theorem ivCells_len (xs : Nat → Nat × Nat) (k : Nat) : (ivCells xs k).length = k * 2 := by
  induction k with
  | zero => rfl
  | succ k ih => rw [ivCells_succ, List.length_append, ih]; simp; omega
theorem ivCells_get (xs : Nat → Nat × Nat) {k i : Nat} (h : i < k) : (ivCells xs k)[i * 2]? = some (.float .f64 ((xs i).1)) ∧ (ivCells xs k)[i * 2 + 1]? = some (.float .f64 ((xs i).2)) := by
  induction k with
  | zero => omega
  | succ k ih =>
    have l := ivCells_len xs k
    rw [ivCells_succ]
    by_cases e : i = k
    · subst e
      rw [List.getElem?_append_right (by omega), List.getElem?_append_right (by omega), l]
      simp
    · rw [List.getElem?_append_left (by omega), List.getElem?_append_left (by omega)]
      exact ih (by omega)
/-- A slice value that owns k intervals, of the call's own. -/
def OwnIv (base : Nat) (w : World) (v : Value) (xs : Nat → Nat × Nat) (k : Nat) : Prop := (∀ i, i < k → Lt (xs i)) ∧ w.ownsRow base 24 2 v k (ivCells xs k)
theorem OwnIv.lt {base : Nat} {w : World} {v : Value} {xs : Nat → Nat × Nat} {k : Nat} (h : OwnIv base w v xs k) : ∀ g, v.ownBlock = some g → base ≤ g ∧ g < w.heap.size := by
  intro g hg
  rcases h.2.2 with ⟨e, _⟩ | ⟨g', cap, cur, e, h1, h2, _⟩
  · subst e; cases hg
  · subst e
    obtain rfl : g' = g := by simpa [Value.ownBlock] using hg
    exact ⟨h1, lt_of_block h2⟩
theorem OwnIv.below {base : Nat} {w w' : World} {v : Value} {xs : Nat → Nat × Nat} {k : Nat} (h : OwnIv base w v xs k) (hb : Below w.heap.size w w') : OwnIv base w' v xs k := by
  refine ⟨h.1, h.2.1, ?_⟩
  rcases h.2.2 with e | ⟨g, cap, cur, e, h1, h2, r⟩
  · exact Or.inl e
  · exact Or.inr ⟨g, cap, cur, e, h1, (hb.block g (lt_of_block h2)).trans h2, r⟩
theorem OwnIv.ivs {base : Nat} {w : World} {v : Value} {xs : Nat → Nat × Nat} {k : Nat} (h : OwnIv base w v xs k) : IvsAt w v xs k := by
  obtain ⟨hl, ho⟩ := h
  rcases ho.2 with ⟨e, rfl⟩ | ⟨g, cap, cur, rfl, hg, hh, hnc, hcm, r⟩
  · subst e; exact ivs_nil w xs
  · refine ⟨_, cap, rfl, Nat.le_trans hnc hcm, fun i hi => ⟨g, 0, rfl, hl i hi, ?_, ?_⟩⟩
    · rw [Nat.zero_add, World.ownsRow.cellAt ho (i * 2) (by omega), (ivCells_get xs hi).1]
    · rw [Nat.zero_add, World.ownsRow.cellAt ho (i * 2 + 1) (by omega), (ivCells_get xs hi).2]
theorem ownIv_nil (base : Nat) (w : World) (xs : Nat → Nat × Nat) : OwnIv base w (.slice none 0 0) xs 0 := ⟨fun i hi => by omega, World.ownsRow_nil _ _ _ _⟩

theorem info24 : (Tryz.prog.info? 24).map (fun i => (i.zero, i.size, i.bytes)) = some (some (.agg #[.float .f64 0, .float .f64 0]), 2, 16) := by kernel_rfl

/-- One interval is appended. -/
theorem wpList_append_iv (wr : World) {ops : Array Oper} {rest : List Oper} {o : Oper} {a : Act} {Q : Exit → Act → World → Prop} (hgd : o.guard = none) (s x : Operand)
    (ho : o.op = .call { callee := .builtin .append, args := #[s, x], argTypes := #[46, 46] }) (base : Nat) (v : Value) (xs : Nat → Nat × Nat) (k p q : Nat)
    (hs : a.eval s = v) (hx : a.eval x = .slice (some ⟨wr.heap.size, 0, none⟩) 1 1) (hown : OwnIv base wr v xs k) (hpq : xs k = (p, q)) (hl : Lt (p, q)) (hL : k ≤ 3000000) (hb : base ≤ wr.heap.size)
    (h : ∀ v' w', OwnIv base w' v' xs (k + 1) → Below base wr w' → wpList Tryz.prog ops Q rest (a.put o.dst v') w') :
    wpList Tryz.prog ops Q (o :: rest) a (wr.alloc (.cells #[(.float .f64 p), (.float .f64 q)] 24)) := by
  obtain ⟨i0, hi, hz0, hz1, hz2⟩ := info_parts info24
  refine wpList_append_own _ hgd s x 46 ho base 24 i0 (.agg #[.float .f64 0, .float .f64 0]) 2 16 Tryz.underlying46 hi hz0 hz1 hz2 rfl (by decide) v _ _ hs (World.ownsRow.alloc hown.2 _) ⟨wr.heap.size, 0, none⟩ 1 1 [(.float .f64 p), (.float .f64 q)] hx rfl ?_ ?_ ?_ ?_ ?_ ?_
  · intro j u hu
    match j, hu with
    | 0, hu =>
      have : u = (.float .f64 p) := by simpa using hu.symm
      subst this
      show World.cell? _ ⟨wr.heap.size, 0, none⟩ = _
      rw [World.cell?_alloc_at _ _ _ _ rfl]; rfl
    | 1, hu =>
      have : u = (.float .f64 q) := by simpa using hu.symm
      subst this
      show World.cell? _ ⟨wr.heap.size, 1, none⟩ = _
      rw [World.cell?_alloc_at _ _ _ _ rfl]; rfl
  · intro u hu
    simp at hu
    rcases hu with rfl | rfl <;> rfl
  · unfold maxLen; omega
  · omega
  · simp; omega
  · intro v' w' h1 h2 _
    refine h v' w' ⟨fun i hi => ?_, ?_⟩ ?_
    · by_cases e : i = k
      · rw [e, hpq]; exact hl
      · exact hown.1 i (by omega)
    · rw [ivCells_succ, hpq]; exact h1
    · refine ((Below.refl base wr).alloc hb _).grown h2 (by simp; omega) ?_
      intro g hg
      exact (hown.lt g hg).1

/-! ### What a tape is worked out as -/
def evL (ops : Nat → OpT) (xs : Nat → Nat × Nat) : Nat → List (Nat × Nat)
  | 0 => []
  | k + 1 => evL ops xs k ++ [valY (ops k) ((evL ops xs k).getD (ops k).A.toNat (0, 0)) ((evL ops xs k).getD (ops k).B.toNat (0, 0)) (xs (ops k).N.toNat)]
def evF (ops : Nat → OpT) (xs : Nat → Nat × Nat) (i : Nat) : Nat × Nat := (evL ops xs (i + 1)).getD i (0, 0)
theorem evL_len (ops : Nat → OpT) (xs : Nat → Nat × Nat) (k : Nat) : (evL ops xs k).length = k := by
  induction k with
  | zero => rfl
  | succ k ih => unfold evL; simp [ih]
theorem evL_get (ops : Nat → OpT) (xs : Nat → Nat × Nat) {i k : Nat} (h : i < k) : (evL ops xs k).getD i (0, 0) = evF ops xs i := by
  induction k with
  | zero => omega
  | succ k ih =>
    by_cases e : i = k
    · subst e; rfl
    · rw [← ih (by omega)]
      have l := evL_len ops xs k
      show (evL ops xs k ++ _).getD i (0, 0) = _
      simp only [List.getD_eq_getElem?_getD]
      rw [List.getElem?_append_left (by omega)]
/-- The value of an operation, by those of its operands. -/
theorem evF_eq {ops : Nat → OpT} {xs : Nat → Nat × Nat} {k : Nat} {V : Int} (ho : opR (ops k) k V) : evF ops xs k = valY (ops k) (evF ops xs (ops k).A.toNat) (evF ops xs (ops k).B.toNat) (xs (ops k).N.toNat) := by
  have l := evL_len ops xs k
  have e : evF ops xs k = valY (ops k) ((evL ops xs k).getD (ops k).A.toNat (0, 0)) ((evL ops xs k).getD (ops k).B.toNat (0, 0)) (xs (ops k).N.toNat) := by
    show (evL ops xs k ++ [_]).getD k (0, 0) = _
    simp only [List.getD_eq_getElem?_getD]
    rw [List.getElem?_append_right (by omega), l]
    simp
  rw [e]
  rcases op_kinds2 ho with h | ⟨h, h3, h4⟩ | ⟨h, h3, h4, h5, h6⟩ | ⟨h, h3, h4, _⟩ | ⟨h, h3, h4⟩
  · unfold valY; rw [if_pos h, if_pos h]
  · unfold valY; rw [if_neg (by omega), if_pos h, if_neg (by omega), if_pos h]
  · rw [evL_get ops xs (by omega : (ops k).A.toNat < k), evL_get ops xs (by omega : (ops k).B.toNat < k)]
  · rw [evL_get ops xs (by omega : (ops k).A.toNat < k)]
    unfold valY; simp only [h]; simp
  · rw [evL_get ops xs (by omega : (ops k).A.toNat < k)]
    unfold valY
    rcases h with h | h | h | h | h | h | h <;> simp only [h] <;> simp
def evB (ops : Nat → OpT) (xs : Nat → Nat × Nat) (k : Nat) : Bool := valB (ops k) (evF ops xs (ops k).A.toNat) (evF ops xs (ops k).B.toNat)
theorem lt_ev {ops : Nat → OpT} {xs : Nat → Nat × Nat} {n nx : Nat} (ho : ∀ i, i < n → opR (ops i) i nx) (hl : ∀ i, i < n → (ops i).lo < 18446744073709551616 ∧ (ops i).hi < 18446744073709551616) (hx : ∀ i, i < nx → Lt (xs i)) :
    ∀ k, k < n → Lt (evF ops xs k) := by
  intro k
  induction k using Nat.strongRecOn with
  | _ k ih =>
    intro hk
    rw [evF_eq (ho k hk)]
    refine lt_val (ho k hk) (hl k hk).1 (hl k hk).2 (fun h1 h2 => ih _ (by omega) (by omega)) (fun h1 h2 => ih _ (by omega) (by omega)) (fun h1 h2 => hx _ (by omega))
end Go.Proofs.YtpkgpkabmechkaaGreat
