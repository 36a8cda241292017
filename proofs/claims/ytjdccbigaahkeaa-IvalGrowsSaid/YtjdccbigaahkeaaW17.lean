/- Contracts: the sides' order, asked. -/
import Derived.Test.YtjdccbigaahkeaaW16
import Derived.Test.YtjdccbigaahkeaaFlC
namespace Go.Proofs.Ytjdccbigaahkeaa
set_option linter.unusedSimpArgs false
set_option linter.unusedVariables false
open Go.RowKit
open Fl

theorem mul_f (a b : Nat) (dir : Int) (ha : a < 18446744073709551616) (hb : b < 18446744073709551616) : GivesF 46 #[(.float .f64 a), (.float .f64 b), .int .i64 dir] (mulS a b dir) := by
  refine (mul_any a b dir ha hb).nums ?_ (Or.inl rfl)
  unfold mulS
  repeat' split
  all_goals first | exact rnd_lt _ _ _ | decide | exact infW_lt _

theorem zero_or {i : Int} (h1 : -9218868437227405312 ≤ i) (h2 : i ≤ 9218868437227405312) : bitsOf i = 0 ∨ feq (bitsOf i) 0 = false := by
  by_cases h : i = 0
  · left; rw [h]; rfl
  · right
    obtain ⟨e1, e2, e3⟩ := nan_bits h1 h2
    unfold feq
    rw [e2, show idx 0 = 0 by decide]
    simp [h]

set_option maxHeartbeats 2000000 in
theorem sides_any (d n u : Nat) (h : SidesOk d n u) : Gives 82 #[(.float .f64 d), (.float .f64 n), (.float .f64 u)] (.bool true) := by
  intro w
  rcases h with ⟨h1, h2, h3⟩ | ⟨i, j, k, hd, hn, hu, b1, b2, b3, b4, b5⟩
  · go_enter Try.func82, Try.ntmps82
    go_wp2_with (go_at_call 43; refine ((isNum_any _).go _).mono ?_; rintro _ _ ⟨n, rfl, rfl⟩)
    go_ret
    exact ⟨rfl, by (repeat' (first | (with_reducible exact Below.refl _ _) | (with_reducible assumption) | (with_reducible refine Later.belowOf _ ?_ ?_) | (with_reducible refine Below.alloc ?_ ?_ _) | (with_reducible refine Below.setCell ?_ ?_ _) | (with_reducible refine Below.drewN' _ ?_) | (with_reducible refine Below.drew ?_) | (with_reducible exact Ge.le) | go_size))⟩
  · obtain ⟨d1, d2, d3⟩ := nan_bits b1 (show i ≤ 9218868437227405312 by omega)
    obtain ⟨n1, n2, n3⟩ := nan_bits (show -9218868437227405312 ≤ j by omega) (by omega)
    obtain ⟨u1, u2, u3⟩ := nan_bits (show -9218868437227405312 ≤ k by omega) b5
    have z1 := zero_or b1 (show i ≤ 9218868437227405312 by omega)
    have z2 := zero_or (show -9218868437227405312 ≤ j by omega) (by omega)
    have z3 := zero_or (show -9218868437227405312 ≤ k by omega) b5
    have l1 : fle (bitsOf i) (bitsOf j) = true := fle_true.2 ⟨d1, n1, by rw [d2, n2]; exact b2⟩
    have l2 : fle (bitsOf j) (bitsOf k) = true := fle_true.2 ⟨n1, u1, by rw [n2, u2]; exact b3⟩
    have nx : feq (bitsOf i) (bitsOf k) = true ∨ (feq (bitsOf i) (bitsOf k) = false ∧ nextB (bitsOf i) = bitsOf k) := by
      by_cases e : i = k
      · left; rw [e, feq_self, u1]; rfl
      · right
        constructor
        · unfold feq; rw [d2, u2]; simp [e]
        · unfold nextB
          rw [if_neg (by rw [d1]; decide), d2, if_neg (by omega), show i + 1 = k by omega]
    have su : feq (bitsOf k) (bitsOf k) = true := by rw [feq_self, u1]; rfl
    have nd := next_any (bitsOf i) d3
    rw [← hd] at d1 z1 l1 nx nd
    rw [← hn] at z2 l1 l2
    rw [← hu] at z3 l2 nx su
    clear hd hn hu d2 d3 n1 n2 n3 u1 u2 u3 b1 b2 b3 b4 b5
    rcases nx with nx | ⟨nx, nx2⟩
    all_goals
      try rw [nx2] at nd
      try clear nx2
      rcases z1 with rfl | z1 <;> rcases z2 with rfl | z2 <;> rcases z3 with rfl | z3
      all_goals try (exfalso; rw [z1] at nx; cases nx; done)
      all_goals
        go_enter Try.func82, Try.ntmps82
        go_wp2_with (go_at_call 43; refine ((isNum_any _).go _).mono ?_; rintro _ _ ⟨n, rfl, rfl⟩)
        refine wp_loop_rounds 4 ?_
        rw [rounds_succ]
        go_wp2
        rw [rounds_succ]
        go_wp2
        rw [rounds_succ]
        go_wp2
        rw [rounds_succ]
        go_wp2_with (go_at_call 31; refine (nd.go _).mono ?_; rintro _ _ ⟨n, rfl, rfl⟩)
        go_ret
        exact ⟨rfl, by (repeat' (first | (with_reducible exact Below.refl _ _) | (with_reducible assumption) | (with_reducible refine Later.belowOf _ ?_ ?_) | (with_reducible refine Below.alloc ?_ ?_ _) | (with_reducible refine Below.setCell ?_ ?_ _) | (with_reducible refine Below.drewN' _ ?_) | (with_reducible refine Below.drew ?_) | (with_reducible exact Ge.le) | go_size))⟩
end Go.Proofs.Ytjdccbigaahkeaa
