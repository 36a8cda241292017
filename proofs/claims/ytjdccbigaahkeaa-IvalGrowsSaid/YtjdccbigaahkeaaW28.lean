/- Contracts: the reference: is a number not above an exact one, is it it? -/
import Derived.Test.YtjdccbigaahkeaaW27
namespace Go.Proofs.Ytjdccbigaahkeaa
set_option linter.unusedSimpArgs false
set_option linter.unusedVariables false
open Go.RowKit
open Fl

def BoolRes (b : Bool) (w : World) (E : Ending) (w' : World) : Prop := E = .returned (.bool b) ∧ Below w.heap.size w w'
theorem BoolRes.go {f : FuncId} {args : Array Value} {b : Bool} {w : World} (h : Calls Try.prog f args w (BoolRes b w)) : Calls Try.prog f args w fun e w' => ∃ (k : Later w), e = .returned (.bool b) ∧ w' = k.val :=
  h.mono fun _ w' ⟨he, hbl⟩ => ⟨⟨w', hbl⟩, he, rfl⟩

set_option maxHeartbeats 8000000 in
set_option maxRecDepth 100000 in
theorem belowQ_walk (s sa sb : Bool) (p ma mb : Nat) (g ea eb K : Int) (R A B : Option Addr) (rk rc ak ac bk bc : Nat) (w : World) (hr : BigS w (.slice R rk rc) p) (ha : BigS w (.slice A ak ac) ma) (hb : BigS w (.slice B bk bc) mb)
    (lp : p < bp 100) (lma : ma < bp 2000) (lmb : mb < bp 100) (g0 : -20000 ≤ g) (g1 : g ≤ 20000) (a0 : -20000 ≤ ea) (a1 : ea ≤ 20000) (b0 : -20000 ≤ eb) (b1 : eb ≤ 20000) (hK1 : 0 ≤ prodE p mb g eb + K) (hK2 : 0 ≤ ea + K) :
    Calls Try.prog 144 #[(.agg #[.bool s, (.slice R rk rc), .int .i64 g]), (.agg #[.bool sa, (.slice A ak ac), .int .i64 ea, .bool sb, (.slice B bk bc), .int .i64 eb, .bool false])] w
      (BoolRes (if sgnI sb mb < 0 then decide (0 ≤ ordI (nv K (prodS s sb p mb) (p * mb) (prodE p mb g eb)) (nv K sa ma ea)) else decide (ordI (nv K (prodS s sb p mb) (p * mb) (prodE p mb g eb)) (nv K sa ma ea) ≤ 0)) w) := by
  have lpm : p * mb < bp 200 := by
    have := Nat.mul_lt_mul'' lp lmb
    rwa [← bp_add] at this
  have pr := fun (w1 : World) (h : Below w.heap.size w w1) => NumRes.go (product_any s sb R rk rc B bk bc p mb g eb w1 (hr.at h) (hb.at h) (Nat.lt_of_lt_of_le lp (bp_le (by decide))) (Nat.lt_of_lt_of_le lmb (bp_le (by decide))) (by omega) (by omega) (by omega) (by omega))
  have pe : -40000 ≤ prodE p mb g eb ∧ prodE p mb g eb ≤ 40000 := by unfold prodE; split <;> omega
  have od := fun (w2 : World) (h : Below w.heap.size w w2) (A' : Option Addr) (k' c' : Nat) (hq : BigS w2 (.slice A' k' c') (p * mb)) => IntRes.go (order_any (K := K) (prodS s sb p mb) sa A' k' c' A ak ac (p * mb) ma (prodE p mb g eb) ea w2 hq (ha.at h) (Nat.lt_of_lt_of_le lpm (bp_le (by decide))) (Nat.lt_of_lt_of_le lma (bp_le (by decide))) (by omega) (by omega) (by omega) (by omega) hK1 hK2)
  have sg := fun (w1 : World) (h : Below w.heap.size w w1) => IntRes.go (sign_any sb (.slice B bk bc) mb eb w1 (hb.at h))
  generalize ordI (nv K (prodS s sb p mb) (p * mb) (prodE p mb g eb)) (nv K sa ma ea) = n at *
  generalize prodS s sb p mb = ps at *
  generalize prodE p mb g eb = pe' at *
  generalize p * mb = pm at *
  generalize sgnI sb mb = sn at *
  have PR := Lib.hid pr
  have OD := Lib.hid od
  have SG := Lib.hid sg
  clear pr od sg hr ha hb lp lma lmb lpm hK1 hK2
  by_cases hs : sn < 0
  all_goals
    first | rw [if_pos hs] | rw [if_neg hs]
    go_enter Try.func144, Try.ntmps144
    go_wp2_with (fail)
    go_region_held3 (fun w' => w'.cell? ⟨w.heap.size, 0, none⟩ = some (.bool s) ∧ w'.cell? ⟨w.heap.size, 1, none⟩ = some (.slice R rk rc) ∧ w'.cell? ⟨w.heap.size, 2, none⟩ = some (.int .i64 g) ∧ w'.cell? ⟨w.heap.size + 1, 0, none⟩ = some (.bool sa) ∧ w'.cell? ⟨w.heap.size + 1, 1, none⟩ = some (.slice A ak ac) ∧ w'.cell? ⟨w.heap.size + 1, 2, none⟩ = some (.int .i64 ea) ∧ w'.cell? ⟨w.heap.size + 1, 3, none⟩ = some (.bool sb) ∧ w'.cell? ⟨w.heap.size + 1, 4, none⟩ = some (.slice B bk bc) ∧ w'.cell? ⟨w.heap.size + 1, 5, none⟩ = some (.int .i64 eb))
      (first | (go_simp; done) | go_keep)
      ((first | (go_at_call 109; refine (PR.out _ (by (repeat' (first | (with_reducible exact Below.refl _ _) | (with_reducible assumption) | (with_reducible refine Later.belowOf _ ?_ ?_) | (with_reducible refine Below.alloc ?_ ?_ _) | (with_reducible refine Below.setCell ?_ ?_ _) | (with_reducible refine Below.drewN' _ ?_) | (with_reducible refine Below.drew ?_) | (with_reducible exact Ge.le) | go_size)))).mono ?_; rintro _ _ ⟨A2, k2, c2, q2, hq3, rfl, rfl⟩; have hq3' := hq3.out) | (go_at_call 153; refine (OD.out _ (by (repeat' (first | (with_reducible exact Below.refl _ _) | (with_reducible assumption) | (with_reducible refine Later.belowOf _ ?_ ?_) | (with_reducible refine Below.alloc ?_ ?_ _) | (with_reducible refine Below.setCell ?_ ?_ _) | (with_reducible refine Below.drewN' _ ?_) | (with_reducible refine Below.drew ?_) | (with_reducible exact Ge.le) | go_size))) _ _ _ (Big.stays (by (repeat (first | (with_reducible assumption) | (with_reducible refine Big.drew ?_) | (with_reducible refine Big.drewN ?_ _) | (with_reducible refine Big.alloc ?_ _) | (with_reducible refine Big.later ?_ _) | (with_reducible refine Big.setCell ?_ _ (by go_simp))))))).mono ?_; rintro _ _ ⟨q4, rfl, rfl⟩)))
    all_goals
      rename_i hHeld
      clear hHeld
      go_wp2_with (go_at_call 152; refine (SG.out _ (by (repeat' (first | (with_reducible exact Below.refl _ _) | (with_reducible assumption) | (with_reducible refine Later.belowOf _ ?_ ?_) | (with_reducible refine Below.alloc ?_ ?_ _) | (with_reducible refine Below.setCell ?_ ?_ _) | (with_reducible refine Below.drewN' _ ?_) | (with_reducible refine Below.drew ?_) | (with_reducible exact Ge.le) | go_size)))).mono ?_; rintro _ _ ⟨q6, rfl, rfl⟩)
      go_ret
      exact ⟨rfl, by (repeat' (first | (with_reducible exact Below.refl _ _) | (with_reducible assumption) | (with_reducible refine Later.belowOf _ ?_ ?_) | (with_reducible refine Below.alloc ?_ ?_ _) | (with_reducible refine Below.setCell ?_ ?_ _) | (with_reducible refine Below.drewN' _ ?_) | (with_reducible refine Below.drew ?_) | (with_reducible exact Ge.le) | go_size))⟩

set_option maxHeartbeats 8000000 in
set_option maxRecDepth 100000 in
theorem sameQ_walk (s sa sb : Bool) (p ma mb : Nat) (g ea eb K : Int) (R A B : Option Addr) (rk rc ak ac bk bc : Nat) (w : World) (hr : BigS w (.slice R rk rc) p) (ha : BigS w (.slice A ak ac) ma) (hb : BigS w (.slice B bk bc) mb)
    (lp : p < bp 100) (lma : ma < bp 2000) (lmb : mb < bp 100) (g0 : -20000 ≤ g) (g1 : g ≤ 20000) (a0 : -20000 ≤ ea) (a1 : ea ≤ 20000) (b0 : -20000 ≤ eb) (b1 : eb ≤ 20000) (hK1 : 0 ≤ prodE p mb g eb + K) (hK2 : 0 ≤ ea + K) :
    Calls Try.prog 142 #[(.agg #[.bool s, (.slice R rk rc), .int .i64 g]), (.agg #[.bool sa, (.slice A ak ac), .int .i64 ea, .bool sb, (.slice B bk bc), .int .i64 eb, .bool false])] w
      (BoolRes (ordI (nv K (prodS s sb p mb) (p * mb) (prodE p mb g eb)) (nv K sa ma ea) == 0) w) := by
  have lpm : p * mb < bp 200 := by
    have := Nat.mul_lt_mul'' lp lmb
    rwa [← bp_add] at this
  have pr := fun (w1 : World) (h : Below w.heap.size w w1) => NumRes.go (product_any s sb R rk rc B bk bc p mb g eb w1 (hr.at h) (hb.at h) (Nat.lt_of_lt_of_le lp (bp_le (by decide))) (Nat.lt_of_lt_of_le lmb (bp_le (by decide))) (by omega) (by omega) (by omega) (by omega))
  have pe : -40000 ≤ prodE p mb g eb ∧ prodE p mb g eb ≤ 40000 := by unfold prodE; split <;> omega
  have od := fun (w2 : World) (h : Below w.heap.size w w2) (A' : Option Addr) (k' c' : Nat) (hq : BigS w2 (.slice A' k' c') (p * mb)) => IntRes.go (order_any (K := K) (prodS s sb p mb) sa A' k' c' A ak ac (p * mb) ma (prodE p mb g eb) ea w2 hq (ha.at h) (Nat.lt_of_lt_of_le lpm (bp_le (by decide))) (Nat.lt_of_lt_of_le lma (bp_le (by decide))) (by omega) (by omega) (by omega) (by omega) hK1 hK2)
  generalize ordI (nv K (prodS s sb p mb) (p * mb) (prodE p mb g eb)) (nv K sa ma ea) = n at *
  generalize prodS s sb p mb = ps at *
  generalize prodE p mb g eb = pe' at *
  generalize p * mb = pm at *
  have PR := Lib.hid pr
  have OD := Lib.hid od
  clear pr od hr ha hb lp lma lmb lpm hK1 hK2
  cases hn : (n == 0)
  all_goals
    go_enter Try.func142, Try.ntmps142
    go_wp2_with (fail)
    go_region_held3 (fun w' => w'.cell? ⟨w.heap.size, 0, none⟩ = some (.bool s) ∧ w'.cell? ⟨w.heap.size, 1, none⟩ = some (.slice R rk rc) ∧ w'.cell? ⟨w.heap.size, 2, none⟩ = some (.int .i64 g) ∧ w'.cell? ⟨w.heap.size + 1, 0, none⟩ = some (.bool sa) ∧ w'.cell? ⟨w.heap.size + 1, 1, none⟩ = some (.slice A ak ac) ∧ w'.cell? ⟨w.heap.size + 1, 2, none⟩ = some (.int .i64 ea) ∧ w'.cell? ⟨w.heap.size + 1, 3, none⟩ = some (.bool sb) ∧ w'.cell? ⟨w.heap.size + 1, 4, none⟩ = some (.slice B bk bc) ∧ w'.cell? ⟨w.heap.size + 1, 5, none⟩ = some (.int .i64 eb))
      (first | (go_simp; done) | go_keep)
      ((first | (go_at_call 109; refine (PR.out _ (by (repeat' (first | (with_reducible exact Below.refl _ _) | (with_reducible assumption) | (with_reducible refine Later.belowOf _ ?_ ?_) | (with_reducible refine Below.alloc ?_ ?_ _) | (with_reducible refine Below.setCell ?_ ?_ _) | (with_reducible refine Below.drewN' _ ?_) | (with_reducible refine Below.drew ?_) | (with_reducible exact Ge.le) | go_size)))).mono ?_; rintro _ _ ⟨A2, k2, c2, q2, hq3, rfl, rfl⟩; have hq3' := hq3.out) | (go_at_call 153; refine (OD.out _ (by (repeat' (first | (with_reducible exact Below.refl _ _) | (with_reducible assumption) | (with_reducible refine Later.belowOf _ ?_ ?_) | (with_reducible refine Below.alloc ?_ ?_ _) | (with_reducible refine Below.setCell ?_ ?_ _) | (with_reducible refine Below.drewN' _ ?_) | (with_reducible refine Below.drew ?_) | (with_reducible exact Ge.le) | go_size))) _ _ _ (Big.stays (by (repeat (first | (with_reducible assumption) | (with_reducible refine Big.drew ?_) | (with_reducible refine Big.drewN ?_ _) | (with_reducible refine Big.alloc ?_ _) | (with_reducible refine Big.later ?_ _) | (with_reducible refine Big.setCell ?_ _ (by go_simp))))))).mono ?_; rintro _ _ ⟨q4, rfl, rfl⟩)))
    all_goals
      rename_i hHeld
      clear hHeld
      go_wp2
      go_ret
      exact ⟨rfl, by (repeat' (first | (with_reducible exact Below.refl _ _) | (with_reducible assumption) | (with_reducible refine Later.belowOf _ ?_ ?_) | (with_reducible refine Below.alloc ?_ ?_ _) | (with_reducible refine Below.setCell ?_ ?_ _) | (with_reducible refine Below.drewN' _ ?_) | (with_reducible refine Below.drew ?_) | (with_reducible exact Ge.le) | go_size))⟩

set_option maxHeartbeats 8000000 in
set_option maxRecDepth 100000 in
theorem belowR_walk (s sa : Bool) (p ma : Nat) (g ea K : Int) (R A : Option Addr) (rk rc ak ac : Nat) (w : World) (hr : BigS w (.slice R rk rc) p) (ha : BigS w (.slice A ak ac) ma)
    (lp : p < bp 100) (lma : ma < bp 2000) (g0 : -20000 ≤ g) (g1 : g ≤ 20000) (a0 : -20000 ≤ ea) (a1 : ea ≤ 20000) (hK1 : 0 ≤ prodE p p g g + K) (hK2 : 0 ≤ ea + K) :
    Calls Try.prog 144 #[(.agg #[.bool s, (.slice R rk rc), .int .i64 g]), (.agg #[.bool sa, (.slice A ak ac), .int .i64 ea, .bool false, (.slice none 0 0), .int .i64 0, .bool true])] w
      (BoolRes (decide (sgnI s p ≤ 0) || decide (ordI (nv K (prodS s s p p) (p * p) (prodE p p g g)) (nv K sa ma ea) ≤ 0)) w) := by
  have lpm : p * p < bp 200 := by
    have := Nat.mul_lt_mul'' lp lp
    rwa [← bp_add] at this
  have pr := fun (w1 : World) (h : Below w.heap.size w w1) => NumRes.go (product_any s s R rk rc R rk rc p p g g w1 (hr.at h) (hr.at h) (Nat.lt_of_lt_of_le lp (bp_le (by decide))) (Nat.lt_of_lt_of_le lp (bp_le (by decide))) (by omega) (by omega) (by omega) (by omega))
  have pe : -40000 ≤ prodE p p g g ∧ prodE p p g g ≤ 40000 := by unfold prodE; split <;> omega
  have od := fun (w2 : World) (h : Below w.heap.size w w2) (A' : Option Addr) (k' c' : Nat) (hq : BigS w2 (.slice A' k' c') (p * p)) => IntRes.go (order_any (K := K) (prodS s s p p) sa A' k' c' A ak ac (p * p) ma (prodE p p g g) ea w2 hq (ha.at h) (Nat.lt_of_lt_of_le lpm (bp_le (by decide))) (Nat.lt_of_lt_of_le lma (bp_le (by decide))) (by omega) (by omega) (by omega) (by omega) hK1 hK2)
  have sg := fun (w1 : World) (h : Below w.heap.size w w1) => IntRes.go (sign_any s (.slice R rk rc) p g w1 (hr.at h))
  have sl := fun (w1 : World) (h : Below w.heap.size w w1) (q : Later w1) => sign_later q s R rk rc p g (hr.at h)
  generalize ordI (nv K (prodS s s p p) (p * p) (prodE p p g g)) (nv K sa ma ea) = n at *
  generalize prodS s s p p = ps at *
  generalize prodE p p g g = pe' at *
  generalize p * p = pm at *
  generalize sgnI s p = sn at *
  have PR := Lib.hid pr
  have OD := Lib.hid od
  have SG := Lib.hid sg
  have SL := Lib.hid sl
  clear pr od sg sl hr ha lp lma lpm hK1 hK2
  by_cases hs : sn ≤ 0
  · have hs1 : decide (sn ≤ 0) = true := by simpa using hs
    skip
    all_goals
      go_enter Try.func144, Try.ntmps144
      go_wp2_with (fail)
      refine wp_region_later (by kernel_rfl) (by kernel_rfl) ?_
      repeat (go_big_quiet_step ((go_at_call 152; (with_reducible exact SL.out _ (by (repeat' (first | (with_reducible exact Below.refl _ _) | (with_reducible assumption) | (with_reducible refine Later.belowOf _ ?_ ?_) | (with_reducible refine Below.alloc ?_ ?_ _) | (with_reducible refine Below.setCell ?_ ?_ _) | (with_reducible refine Below.drewN' _ ?_) | (with_reducible refine Below.drew ?_) | (with_reducible exact Ge.le) | go_size))) _))))
      (refine wpQuiet_nil ?_; rintro _ ⟨nq, rfl⟩)
      go_wp2
      go_ret
      exact ⟨by simp [*], by (repeat' (first | (with_reducible exact Below.refl _ _) | (with_reducible assumption) | (with_reducible refine Later.belowOf _ ?_ ?_) | (with_reducible refine Below.alloc ?_ ?_ _) | (with_reducible refine Below.setCell ?_ ?_ _) | (with_reducible refine Below.drewN' _ ?_) | (with_reducible refine Below.drew ?_) | (with_reducible exact Ge.le) | go_size))⟩
  · have hs1 : decide (sn ≤ 0) = false := by simpa using hs
    have hs2 : 0 < sn := by omega
    by_cases hn : n ≤ 0
    all_goals
      go_enter Try.func144, Try.ntmps144
      go_wp2_with (fail)
      go_region_held3 (fun w' => w'.cell? ⟨w.heap.size, 0, none⟩ = some (.bool s) ∧ w'.cell? ⟨w.heap.size, 1, none⟩ = some (.slice R rk rc) ∧ w'.cell? ⟨w.heap.size, 2, none⟩ = some (.int .i64 g) ∧ w'.cell? ⟨w.heap.size + 1, 0, none⟩ = some (.bool sa) ∧ w'.cell? ⟨w.heap.size + 1, 1, none⟩ = some (.slice A ak ac) ∧ w'.cell? ⟨w.heap.size + 1, 2, none⟩ = some (.int .i64 ea))
        (first | (go_simp; done) | go_keep)
        ((first | (go_at_call 152; refine (SG.out _ (by (repeat' (first | (with_reducible exact Below.refl _ _) | (with_reducible assumption) | (with_reducible refine Later.belowOf _ ?_ ?_) | (with_reducible refine Below.alloc ?_ ?_ _) | (with_reducible refine Below.setCell ?_ ?_ _) | (with_reducible refine Below.drewN' _ ?_) | (with_reducible refine Below.drew ?_) | (with_reducible exact Ge.le) | go_size)))).mono ?_; rintro _ _ ⟨q6, rfl, rfl⟩) | (go_at_call 109; refine (PR.out _ (by (repeat' (first | (with_reducible exact Below.refl _ _) | (with_reducible assumption) | (with_reducible refine Later.belowOf _ ?_ ?_) | (with_reducible refine Below.alloc ?_ ?_ _) | (with_reducible refine Below.setCell ?_ ?_ _) | (with_reducible refine Below.drewN' _ ?_) | (with_reducible refine Below.drew ?_) | (with_reducible exact Ge.le) | go_size)))).mono ?_; rintro _ _ ⟨A2, k2, c2, q2, hq3, rfl, rfl⟩; have hq3' := hq3.out) | (go_at_call 153; refine (OD.out _ (by (repeat' (first | (with_reducible exact Below.refl _ _) | (with_reducible assumption) | (with_reducible refine Later.belowOf _ ?_ ?_) | (with_reducible refine Below.alloc ?_ ?_ _) | (with_reducible refine Below.setCell ?_ ?_ _) | (with_reducible refine Below.drewN' _ ?_) | (with_reducible refine Below.drew ?_) | (with_reducible exact Ge.le) | go_size))) _ _ _ (Big.stays (by (repeat (first | (with_reducible assumption) | (with_reducible refine Big.drew ?_) | (with_reducible refine Big.drewN ?_ _) | (with_reducible refine Big.alloc ?_ _) | (with_reducible refine Big.later ?_ _) | (with_reducible refine Big.setCell ?_ _ (by go_simp))))))).mono ?_; rintro _ _ ⟨q4, rfl, rfl⟩)))
      all_goals
        rename_i hHeld
        clear hHeld
        go_wp2
        go_ret
        exact ⟨by simp [*], by (repeat' (first | (with_reducible exact Below.refl _ _) | (with_reducible assumption) | (with_reducible refine Later.belowOf _ ?_ ?_) | (with_reducible refine Below.alloc ?_ ?_ _) | (with_reducible refine Below.setCell ?_ ?_ _) | (with_reducible refine Below.drewN' _ ?_) | (with_reducible refine Below.drew ?_) | (with_reducible exact Ge.le) | go_size))⟩

set_option maxHeartbeats 8000000 in
set_option maxRecDepth 100000 in
theorem sameR_walk (s sa : Bool) (p ma : Nat) (g ea K : Int) (R A : Option Addr) (rk rc ak ac : Nat) (w : World) (hr : BigS w (.slice R rk rc) p) (ha : BigS w (.slice A ak ac) ma)
    (lp : p < bp 100) (lma : ma < bp 2000) (g0 : -20000 ≤ g) (g1 : g ≤ 20000) (a0 : -20000 ≤ ea) (a1 : ea ≤ 20000) (hK1 : 0 ≤ prodE p p g g + K) (hK2 : 0 ≤ ea + K) :
    Calls Try.prog 142 #[(.agg #[.bool s, (.slice R rk rc), .int .i64 g]), (.agg #[.bool sa, (.slice A ak ac), .int .i64 ea, .bool false, (.slice none 0 0), .int .i64 0, .bool true])] w
      (BoolRes (decide (0 ≤ sgnI s p) && (ordI (nv K (prodS s s p p) (p * p) (prodE p p g g)) (nv K sa ma ea) == 0)) w) := by
  have lpm : p * p < bp 200 := by
    have := Nat.mul_lt_mul'' lp lp
    rwa [← bp_add] at this
  have pr := fun (w1 : World) (h : Below w.heap.size w w1) => NumRes.go (product_any s s R rk rc R rk rc p p g g w1 (hr.at h) (hr.at h) (Nat.lt_of_lt_of_le lp (bp_le (by decide))) (Nat.lt_of_lt_of_le lp (bp_le (by decide))) (by omega) (by omega) (by omega) (by omega))
  have pe : -40000 ≤ prodE p p g g ∧ prodE p p g g ≤ 40000 := by unfold prodE; split <;> omega
  have od := fun (w2 : World) (h : Below w.heap.size w w2) (A' : Option Addr) (k' c' : Nat) (hq : BigS w2 (.slice A' k' c') (p * p)) => IntRes.go (order_any (K := K) (prodS s s p p) sa A' k' c' A ak ac (p * p) ma (prodE p p g g) ea w2 hq (ha.at h) (Nat.lt_of_lt_of_le lpm (bp_le (by decide))) (Nat.lt_of_lt_of_le lma (bp_le (by decide))) (by omega) (by omega) (by omega) (by omega) hK1 hK2)
  have sg := fun (w1 : World) (h : Below w.heap.size w w1) => IntRes.go (sign_any s (.slice R rk rc) p g w1 (hr.at h))
  have sl := fun (w1 : World) (h : Below w.heap.size w w1) (q : Later w1) => sign_later q s R rk rc p g (hr.at h)
  generalize ordI (nv K (prodS s s p p) (p * p) (prodE p p g g)) (nv K sa ma ea) = n at *
  generalize prodS s s p p = ps at *
  generalize prodE p p g g = pe' at *
  generalize p * p = pm at *
  generalize sgnI s p = sn at *
  have PR := Lib.hid pr
  have OD := Lib.hid od
  have SG := Lib.hid sg
  have SL := Lib.hid sl
  clear pr od sg sl hr ha lp lma lpm hK1 hK2
  by_cases hs : 0 ≤ sn
  · have hs1 : decide (0 ≤ sn) = true := by simpa using hs
    cases hn : (n == 0)
    all_goals
      go_enter Try.func142, Try.ntmps142
      go_wp2_with (fail)
      go_region_held3 (fun w' => w'.cell? ⟨w.heap.size, 0, none⟩ = some (.bool s) ∧ w'.cell? ⟨w.heap.size, 1, none⟩ = some (.slice R rk rc) ∧ w'.cell? ⟨w.heap.size, 2, none⟩ = some (.int .i64 g) ∧ w'.cell? ⟨w.heap.size + 1, 0, none⟩ = some (.bool sa) ∧ w'.cell? ⟨w.heap.size + 1, 1, none⟩ = some (.slice A ak ac) ∧ w'.cell? ⟨w.heap.size + 1, 2, none⟩ = some (.int .i64 ea))
        (first | (go_simp; done) | go_keep)
        ((first | (go_at_call 152; refine (SG.out _ (by (repeat' (first | (with_reducible exact Below.refl _ _) | (with_reducible assumption) | (with_reducible refine Later.belowOf _ ?_ ?_) | (with_reducible refine Below.alloc ?_ ?_ _) | (with_reducible refine Below.setCell ?_ ?_ _) | (with_reducible refine Below.drewN' _ ?_) | (with_reducible refine Below.drew ?_) | (with_reducible exact Ge.le) | go_size)))).mono ?_; rintro _ _ ⟨q6, rfl, rfl⟩) | (go_at_call 109; refine (PR.out _ (by (repeat' (first | (with_reducible exact Below.refl _ _) | (with_reducible assumption) | (with_reducible refine Later.belowOf _ ?_ ?_) | (with_reducible refine Below.alloc ?_ ?_ _) | (with_reducible refine Below.setCell ?_ ?_ _) | (with_reducible refine Below.drewN' _ ?_) | (with_reducible refine Below.drew ?_) | (with_reducible exact Ge.le) | go_size)))).mono ?_; rintro _ _ ⟨A2, k2, c2, q2, hq3, rfl, rfl⟩; have hq3' := hq3.out) | (go_at_call 153; refine (OD.out _ (by (repeat' (first | (with_reducible exact Below.refl _ _) | (with_reducible assumption) | (with_reducible refine Later.belowOf _ ?_ ?_) | (with_reducible refine Below.alloc ?_ ?_ _) | (with_reducible refine Below.setCell ?_ ?_ _) | (with_reducible refine Below.drewN' _ ?_) | (with_reducible refine Below.drew ?_) | (with_reducible exact Ge.le) | go_size))) _ _ _ (Big.stays (by (repeat (first | (with_reducible assumption) | (with_reducible refine Big.drew ?_) | (with_reducible refine Big.drewN ?_ _) | (with_reducible refine Big.alloc ?_ _) | (with_reducible refine Big.later ?_ _) | (with_reducible refine Big.setCell ?_ _ (by go_simp))))))).mono ?_; rintro _ _ ⟨q4, rfl, rfl⟩)))
      all_goals
        rename_i hHeld
        clear hHeld
        go_wp2
        go_ret
        exact ⟨by simp [*], by (repeat' (first | (with_reducible exact Below.refl _ _) | (with_reducible assumption) | (with_reducible refine Later.belowOf _ ?_ ?_) | (with_reducible refine Below.alloc ?_ ?_ _) | (with_reducible refine Below.setCell ?_ ?_ _) | (with_reducible refine Below.drewN' _ ?_) | (with_reducible refine Below.drew ?_) | (with_reducible exact Ge.le) | go_size))⟩
  · have hs1 : decide (0 ≤ sn) = false := by simpa using hs
    skip
    all_goals
      go_enter Try.func142, Try.ntmps142
      go_wp2_with (fail)
      refine wp_region_later (by kernel_rfl) (by kernel_rfl) ?_
      repeat (go_big_quiet_step ((go_at_call 152; (with_reducible exact SL.out _ (by (repeat' (first | (with_reducible exact Below.refl _ _) | (with_reducible assumption) | (with_reducible refine Later.belowOf _ ?_ ?_) | (with_reducible refine Below.alloc ?_ ?_ _) | (with_reducible refine Below.setCell ?_ ?_ _) | (with_reducible refine Below.drewN' _ ?_) | (with_reducible refine Below.drew ?_) | (with_reducible exact Ge.le) | go_size))) _))))
      (refine wpQuiet_nil ?_; rintro _ ⟨nq, rfl⟩)
      go_wp2
      go_ret
      exact ⟨by simp [*], by (repeat' (first | (with_reducible exact Below.refl _ _) | (with_reducible assumption) | (with_reducible refine Later.belowOf _ ?_ ?_) | (with_reducible refine Below.alloc ?_ ?_ _) | (with_reducible refine Below.setCell ?_ ?_ _) | (with_reducible refine Below.drewN' _ ?_) | (with_reducible refine Below.drew ?_) | (with_reducible exact Ge.le) | go_size))⟩
end Go.Proofs.Ytjdccbigaahkeaa
