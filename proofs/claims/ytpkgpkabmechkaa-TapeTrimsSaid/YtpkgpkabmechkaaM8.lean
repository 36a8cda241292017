/- Contracts: what the reference's trimming needs: needed, same. -/
import Derived.Test.YtpkgpkabmechkaaM7
namespace Go.Proofs.Ytpkgpkabmechkaa
set_option linter.unusedSimpArgs false
set_option linter.unusedVariables false
open Go.RowKit
open Fl

/-- The same operation, by the reference. -/
def sameR (o p : OpT) : Bool := decide (o.K = p.K) && (decide (o.A = p.A) && (decide (o.B = p.B) && (decide (o.N = p.N) && (sameB o.lo p.lo && sameB o.hi p.hi))))

set_option maxHeartbeats 4000000 in
set_option maxRecDepth 100000 in
theorem rsame_any (o p : OpT) : Gives 17 #[opV o, opV p] (.bool (sameR o p)) := by
  intro w
  obtain ⟨K, A, B, N, lo, hi⟩ := o
  obtain ⟨K', A', B', N', lo', hi'⟩ := p
  have S := same2_any lo hi lo' hi'
  unfold opV sameR
  simp only
  generalize (sameB lo lo' && sameB hi hi') = q at *
  have q0 : K = K' ∨ (K == K') = false := by by_cases h : K = K' <;> simp [h]
  have q1 : A = A' ∨ (A == A') = false := by by_cases h : A = A' <;> simp [h]
  have q2 : B = B' ∨ (B == B') = false := by by_cases h : B = B' <;> simp [h]
  have q3 : N = N' ∨ (N == N') = false := by by_cases h : N = N' <;> simp [h]
  rcases q0 with rfl | h0
  · rcases q1 with rfl | h1
    · rcases q2 with rfl | h2
      · rcases q3 with rfl | h3
        · go_enter Try.func17, Try.ntmps17
          go_wp2_with (go_at_call 14; refine (S.go _).mono ?_; rintro _ _ ⟨n, rfl, rfl⟩)
          go_ret
          exact ⟨ret_bool (by simp), by (repeat' first | (with_reducible first | exact Below.refl _ _ | assumption | refine Later.belowOf _ ?_ ?_ | refine Below.alloc ?_ ?_ _ | refine Below.setCell ?_ ?_ _ | refine Below.drewN' _ ?_ | refine Below.drew ?_ | exact Ge.le) | go_size)⟩
        · go_enter Try.func17, Try.ntmps17
          go_wp2_with (go_at_call 14; refine (S.go _).mono ?_; rintro _ _ ⟨n, rfl, rfl⟩)
          go_ret
          exact ⟨ret_bool (by simp [by simpa using h3]), by (repeat' first | (with_reducible first | exact Below.refl _ _ | assumption | refine Later.belowOf _ ?_ ?_ | refine Below.alloc ?_ ?_ _ | refine Below.setCell ?_ ?_ _ | refine Below.drewN' _ ?_ | refine Below.drew ?_ | exact Ge.le) | go_size)⟩
      · go_enter Try.func17, Try.ntmps17
        go_wp2_with (go_at_call 14; refine (S.go _).mono ?_; rintro _ _ ⟨n, rfl, rfl⟩)
        go_ret
        exact ⟨ret_bool (by simp [by simpa using h2]), by (repeat' first | (with_reducible first | exact Below.refl _ _ | assumption | refine Later.belowOf _ ?_ ?_ | refine Below.alloc ?_ ?_ _ | refine Below.setCell ?_ ?_ _ | refine Below.drewN' _ ?_ | refine Below.drew ?_ | exact Ge.le) | go_size)⟩
    · go_enter Try.func17, Try.ntmps17
      go_wp2_with (go_at_call 14; refine (S.go _).mono ?_; rintro _ _ ⟨n, rfl, rfl⟩)
      go_ret
      exact ⟨ret_bool (by simp [by simpa using h1]), by (repeat' first | (with_reducible first | exact Below.refl _ _ | assumption | refine Later.belowOf _ ?_ ?_ | refine Below.alloc ?_ ?_ _ | refine Below.setCell ?_ ?_ _ | refine Below.drewN' _ ?_ | refine Below.drew ?_ | exact Ge.le) | go_size)⟩
  · go_enter Try.func17, Try.ntmps17
    go_wp2_with (go_at_call 14; refine (S.go _).mono ?_; rintro _ _ ⟨n, rfl, rfl⟩)
    go_ret
    exact ⟨ret_bool (by simp [by simpa using h0]), by (repeat' first | (with_reducible first | exact Below.refl _ _ | assumption | refine Later.belowOf _ ?_ ?_ | refine Below.alloc ?_ ?_ _ | refine Below.setCell ?_ ?_ _ | refine Below.drewN' _ ?_ | refine Below.drew ?_ | exact Ge.le) | go_size)⟩
end Go.Proofs.Ytpkgpkabmechkaa
