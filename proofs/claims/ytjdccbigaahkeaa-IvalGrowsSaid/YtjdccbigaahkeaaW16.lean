/- Contracts: roots. -/
import Derived.Test.YtjdccbigaahkeaaW15
import Derived.Test.YtjdccbigaahkeaaFlC
import Derived.Deep.LoopGhost
namespace Go.Proofs.Ytjdccbigaahkeaa
set_option linter.unusedSimpArgs false
set_option linter.unusedVariables false
open Go.RowKit
open Fl

@[go_sem] theorem build_va0m (c d : Int) (m : Bool) (w : World) : (Instr.build 66 #[(2, .int .u64 c), (3, .int .i64 d), (4, .bool m)]).run Try.prog w = .ok (.agg #[.bool false, .int .u64 0, .int .u64 c, .int .i64 d, .bool m]) w := run_build w 66 _ _ (by kernel_rfl)

@[go_sem] theorem run_msqrt (x : Nat) (w : World) : (callFunc 145 #[.float .f64 x]).run Try.prog w = .ok (.value (.float .f64 (fsq x w))) (w.drewN (nsq x)) := by
  rw [run_callFunc_extern Try.func145 (by kernel_rfl) (by kernel_rfl) (by kernel_rfl) (e := Extern.MathSqrt.sqrt) (by kernel_rfl)]
  have hf : (Question.nanBits .f64 x x).forced = false := rfl
  unfold fsq nsq
  have e : Extern.MathSqrt.sqrt #[.float .f64 x] = (match FloatKind.f64.format.sqrt x with
    | some r => pure (.float .f64 r)
    | none => do pure (.float .f64 (← choose (.nanBits .f64 x x)))) := rfl
  rw [e]
  cases h : FloatKind.f64.format.sqrt x <;> simp [run_choose_drew, hf] <;> rfl

theorem msqrt_any (x : Nat) (w : World) : Calls Try.prog 116 #[(.float .f64 x)] w fun e w' => e = .returned (.float .f64 (fsq x w)) ∧ w' = w.drewN (nsq x) := by
  go_enter Try.func116, Try.ntmps116
  go_wp2
  go_ret
  exact ⟨rfl, rfl⟩

theorem i64_and1 (n : Int) : bits BinOp.and IntKind.i64 n 1 = n % 2 := by
  have h1 : (BitVec.ofInt 64 1).toNat = 2 ^ 1 - 1 := by decide
  have key : (BitVec.ofInt 64 n &&& BitVec.ofInt 64 1).toNat = (n % ((2 ^ 64 : Nat) : Int)).toNat % 2 ^ 1 := by
    rw [BitVec.toNat_and, BitVec.toNat_ofInt, h1, Nat.and_two_pow_sub_one_eq_mod]
  show IntKind.i64.wrap ((BitVec.ofInt 64 n &&& BitVec.ofInt 64 1).toNat : Nat) = n % 2
  rw [key, IntKind.wrap_i64]
  omega

/-- A bit more. -/
theorem root_bit {T r : Int} {k : Nat} (hk : k ≤ 63) (h : RootInv T r (k + 1)) :
    ∃ t : Int, t = r + 2 ^ k ∧ bits BinOp.or IntKind.u64 r (IntKind.u64.wrap (2 ^ k)) = t ∧ 0 ≤ t ∧ t ≤ 18446744073709551615 := by
  obtain ⟨h0, ⟨q, hq⟩, h2, h3, h4⟩ := h
  have hp : (2 : Int) ^ k = ((2 ^ k : Nat) : Int) := (pow2_cast k).symm
  have hp0 := Nat.two_pow_pos k
  have e : (2 : Int) ^ (k + 1) = 2 ^ k + 2 ^ k := by rw [Int.pow_succ]; omega
  refine ⟨_, rfl, ?_, by omega, by omega⟩
  rw [e] at h2 hq
  have hw : IntKind.u64.wrap (2 ^ k) = 2 ^ k := by rw [wrap64u]; omega
  rw [hw, u64_or _ _ h0 (by omega) (by omega) (by omega), hp, Int.toNat_natCast]
  have hq0 : 0 ≤ q := by
    rcases Int.lt_or_le q 0 with c | c
    · have : (2 ^ k + 2 ^ k : Int) * q ≤ (2 ^ k + 2 ^ k) * (-1) := Int.mul_le_mul_of_nonneg_left (by omega) (by omega)
      omega
    · exact c
  obtain ⟨Q, rfl⟩ := Int.eq_ofNat_of_zero_le hq0
  have hr : r.toNat = 2 ^ (k + 1) * Q := by
    have : r = ((2 ^ (k + 1) * Q : Nat) : Int) := by rw [hq, show ((2 : Int) ^ k + 2 ^ k) = 2 ^ k * 2 by omega, Nat.pow_succ, hp]; simp
    omega
  rw [hr, ← Nat.two_pow_add_eq_or_of_lt (by rw [Nat.pow_succ]; omega), ← hr]
  omega

theorem mul64_same (x y : Int) (h0 : 0 ≤ x) (h1 : x ≤ 18446744073709551615) (h2 : 0 ≤ y) (h3 : y ≤ 18446744073709551615) :
    ∃ hi lo : Int, (∀ w, Calls Try.prog 106 #[.int .u64 x, .int .u64 y] w fun e w' => e = .returned (.tuple #[.int .u64 hi, .int .u64 lo]) ∧ w' = w) ∧ hi * 18446744073709551616 + lo = x * y ∧ 0 ≤ hi ∧ hi ≤ 18446744073709551615 ∧ 0 ≤ lo ∧ lo ≤ 18446744073709551615 := by
  obtain ⟨X, rfl⟩ := Int.eq_ofNat_of_zero_le h0
  obtain ⟨Y, rfl⟩ := Int.eq_ofNat_of_zero_le h2
  have hm : X * Y ≤ 18446744073709551615 * 18446744073709551615 := Nat.mul_le_mul (by omega) (by omega)
  refine ⟨_, _, fun w => Try.bits_Mul64 X Y (by omega) (by omega) w, ?_, ?_, ?_, ?_, ?_⟩
  · rw [← Int.natCast_mul]; generalize X * Y = Z at *; omega
  all_goals (generalize X * Y = Z at *; omega)

theorem sqrt_scale {pm pe n hi e : Int} {A : Nat} (hA : (A : Int) = pm * 2 ^ (pe + 1074).toNat) (h2 : hi = pm * 2 ^ (n - 64).toNat) (e2 : 2 * e = pe - n) (p2 : -1074 ≤ pe) (m0 : 74 ≤ n) (m1 : n ≤ 127) (s : Nat) (hs : (e + 1074).toNat = s) (t : Nat) (ht : t = 1074) :
    (A : Int) * (pw t : Nat) = hi * 18446744073709551616 * (2 ^ s * 2 ^ s) := by
  have e64 : (18446744073709551616 : Int) = 2 ^ 64 := by decide
  rw [hA, h2, pw_eq, pow2_cast t, e64, Int.mul_assoc, Int.mul_assoc, Int.mul_assoc]
  congr 1
  rw [← Int.pow_add, ← Int.pow_add, ← Int.pow_add, ← Int.pow_add]
  congr 1
  omega

theorem sqrt_round {hi e : Int} {A s : Nat} (hT : (A : Int) * (pw 1074 : Nat) = hi * 18446744073709551616 * (2 ^ s * 2 ^ s)) (hs : (e + 1074).toNat = s) (h3 : 4611686018427387904 ≤ hi) (h4 : hi ≤ 18446744073709551615) (he0 : -1074 ≤ e) (he1 : e ≤ 6000) (dir : Int)
    (r h l : Int) (hr : RootInv (hi * 18446744073709551616) r 0) (hm : h * 18446744073709551616 + l = r * r) (l0 : 0 ≤ l) (l1 : l ≤ 18446744073709551615) (h0 : 0 ≤ h) :
    Gives 101 #[(.agg #[.bool false, .int .u64 0, .int .u64 r, .int .i64 e, .bool (h != hi || l != 0)]), .int .i64 dir] (.float .f64 (rnd (rootN A) (rootD A) dir)) := by
  obtain ⟨r0, _, r2, r3, r4⟩ := hr
  rw [show (2 : Int) ^ 0 = 1 from rfl] at r2 r4
  have hbig : 9223372036854775808 ≤ r := by
    rcases Int.lt_or_le r 9223372036854775808 with c | c
    · have : (r + 1) * (r + 1) ≤ 9223372036854775808 * 9223372036854775808 := Int.mul_le_mul (by omega) (by omega) (by omega) (by omega)
      omega
    · exact c
  have hmore : (h != hi || l != 0) = true ↔ r * r ≠ hi * 18446744073709551616 := by
    rw [← hm, Bool.or_eq_true, bne_iff_ne, bne_iff_ne]; omega
  refine round_signed _ _ _ 0 r e dir _ s 0 (by omega) (by omega) (by omega) (by omega) (by omega) (by omega) ?_ (by omega) (fun _ => by omega) (rootD_pos A) (fun _ => by symm; simp)
  rw [Int.natAbs_natCast, show (0 : Int) * 18446744073709551616 + r = r by omega]
  obtain ⟨R, rfl⟩ := Int.eq_ofNat_of_zero_le r0
  obtain ⟨H, rfl⟩ := Int.eq_ofNat_of_zero_le (show 0 ≤ hi by omega)
  rw [Int.toNat_natCast]
  have hT' : A * pw 1074 = H * 18446744073709551616 * (2 ^ s * 2 ^ s) := by
    have : ((A * pw 1074 : Nat) : Int) = ((H * 18446744073709551616 * (2 ^ s * 2 ^ s) : Nat) : Int) := by
      rw [Int.natCast_mul, hT, ← pow2_cast]; simp
    exact Int.ofNat_inj.1 this
  have q1 : R * R ≤ H * 18446744073709551616 := by
    have : ((R * R : Nat) : Int) ≤ ((H * 18446744073709551616 : Nat) : Int) := by simpa using r3
    omega
  have q2 : H * 18446744073709551616 < (R + 1) * (R + 1) := by
    have : ((H * 18446744073709551616 : Nat) : Int) < (((R + 1) * (R + 1) : Nat) : Int) := by simpa using r4
    omega
  have q3 : R * R = H * 18446744073709551616 ↔ (R : Int) * R = H * 18446744073709551616 := by
    rw [← Int.natCast_mul]; omega
  have sq : ∀ x : Nat, x * 2 ^ s * (x * 2 ^ s) = x * x * (2 ^ s * 2 ^ s) := fun x => by simp only [Nat.mul_assoc, Nat.mul_comm, Nat.mul_left_comm]
  have ps : 0 < 2 ^ s * 2 ^ s := Nat.mul_pos (Nat.two_pow_pos s) (Nat.two_pow_pos s)
  refine root_amount ?_ ?_ ?_
  · rw [hT', sq]; exact Nat.mul_le_mul_right _ q1
  · rw [hT', sq]; exact Nat.mul_lt_mul_of_pos_right q2 ps
  · rw [hmore, hT', sq, ne_eq, ne_eq, ← q3]
    constructor
    · intro hne hh; exact hne (Nat.eq_of_mul_eq_mul_right ps hh)
    · intro hne hh; exact hne (by rw [hh])

set_option maxRecDepth 100000 in
set_option maxHeartbeats 8000000 in
theorem sqrt_fin (pm pe : Int) (a : Nat) (dir : Int) (b1 : Gives 41 #[(.float .f64 a)] (.tuple #[(.agg #[.bool false, .int .u64 pm, .int .i64 pe]), .bool true])) (hb : flt a 0 = false)
    (p0 : 1 ≤ pm) (p1 : pm ≤ 9007199254740991) (p2 : -1074 ≤ pe) (p3 : pe ≤ 971) (A : Nat) (hA : (A : Int) = pm * 2 ^ (pe + 1074).toNat) :
    Gives 54 #[(.float .f64 a), .int .i64 dir] (.float .f64 (rnd (rootN A) (rootD A) dir)) := by
  obtain ⟨lz, x, l1, n0, n1, x1, x2, x3, x4⟩ := top_parts p0 p1
  have o1 := i64_and1 (pe - (lz + 64))
  obtain ⟨o, ho⟩ : ∃ o, (pe - (lz + 64)) % 2 = o := ⟨_, rfl⟩
  rw [ho] at o1
  obtain ⟨n, hn⟩ : ∃ n, lz + 64 - o = n := ⟨_, rfl⟩
  have m0 : 74 ≤ n := by omega
  have m1 : n ≤ 127 := by omega
  have he : (pe - n) % 2 = 0 := by omega
  obtain ⟨hi, h1, h2, h3, h4⟩ : ∃ hi : Int, IntKind.u64.wrap (pm * 2 ^ (n - 64).toNat) = hi ∧ hi = pm * 2 ^ (n - 64).toNat ∧ 4611686018427387904 ≤ hi ∧ hi ≤ 18446744073709551615 := by
    have hs : o = 0 ∨ o = 1 := by omega
    rcases hs with rfl | rfl
    · exact ⟨x, by rw [show n - 64 = lz by omega]; exact x1, by rw [show n - 64 = lz by omega]; exact x2, by omega, x4⟩
    · have e : (2 : Int) ^ lz.toNat = 2 ^ (n - 64).toNat * 2 := by
        rw [show lz.toNat = (n - 64).toNat + 1 by omega, Int.pow_succ]
      have : x = pm * 2 ^ (n - 64).toNat * 2 := by rw [x2, e, Int.mul_assoc]
      refine ⟨pm * 2 ^ (n - 64).toNat, ?_, rfl, by omega, by omega⟩
      rw [wrap64u]; omega
  have he2 : ∃ e, (pe - n).tdiv 2 = e ∧ 2 * e = pe - n := by
    refine ⟨(pe - n) / 2, ?_, by omega⟩
    have : pe - n = 2 * ((pe - n) / 2) := by omega
    rw [this, Int.mul_tdiv_cancel_left _ (by omega)]; omega
  obtain ⟨e, e1, e2⟩ := he2
  have fin : ∀ (r h l : Int), RootInv (hi * 18446744073709551616) r 0 → h * 18446744073709551616 + l = r * r → 0 ≤ l → l ≤ 18446744073709551615 → 0 ≤ h → Gives 101 #[(.agg #[.bool false, .int .u64 0, .int .u64 r, .int .i64 e, .bool (h != hi || l != 0)]), .int .i64 dir] (.float .f64 (rnd (rootN A) (rootD A) dir)) := by
    exact sqrt_round (sqrt_scale hA h2 e2 p2 m0 m1 _ rfl 1074 rfl) rfl h3 h4 (by omega) (by omega) dir
  generalize rnd (↑(rootN A)) (rootD A) dir = s at *
  have be0 : -1000 ≤ e := by omega
  have be1 : e ≤ 1000 := by omega
  have F := Lib.hid fin
  have hn' := Lib.hid hn
  clear x1 x2 h2 ho he fin hA hn
  intro w
  go_enter Try.func54, Try.ntmps54
  have z1 : (pm == 0) = false := by rw [beq_eq_false_iff_ne]; omega
  have hn := hn'.out
  go_upto_region 9 with (first | (go_at_call 41; refine (b1.go _).mono ?_; rintro _ _ ⟨k, rfl, rfl⟩) | (go_at_call 113; refine (l1.go _).mono ?_; rintro _ _ ⟨k2, rfl, rfl⟩))
  clear hn
  go_upto_block 1 with (fail)
  go_wp2_with (fail)
  go_loopg [10, 11] 65 (fun g v10 v11 wr => ∃ (k : Nat) (r b : Int), k ≤ 64 ∧ g = k + 1 ∧ v10 = .int .u64 r ∧ v11 = .int .i64 b ∧ b < k ∧ k ≤ b + 1 ∧ Hid (RootInv (hi * 18446744073709551616) r k) ∧ wr = k2.val)
  case atStart => exact ⟨64, 0, 63, by omega, rfl, rfl, rfl, by omega, by omega, Lib.hid (rootInv_start (by omega) (by omega)), rfl⟩
  case round =>
    obtain ⟨k, r, b, hk, rfl, rfl, rfl, hb1, hb2, H, rfl⟩ := hrel
    rcases k with _ | k
    · obtain ⟨h, l, q1, q2, q3, q4, q5, q6⟩ := mul64_same r r H.out.1 (by have := H.out.2.2.1; rw [show (2 : Int) ^ 0 = 1 from rfl] at this; omega) H.out.1 (by have := H.out.2.2.1; rw [show (2 : Int) ^ 0 = 1 from rfl] at this; omega)
      have F' := F.out r h l H.out q2 q5 q6 q3
      clear H q2 F e2
      have hbn : b < 0 := by omega
      rcases tof (h != hi) with c1 | c1
      · rw [c1, Bool.true_or] at F'
        go_wp2_with (first | (go_at_call 106; refine (q1 _).mono ?_; rintro _ _ ⟨rfl, rfl⟩) | (go_at_call 101; refine (F'.go _).mono ?_; rintro _ _ ⟨k, rfl, rfl⟩))
        go_ret
        exact ⟨rfl, by (repeat' (first | (with_reducible exact Below.refl _ _) | (with_reducible assumption) | (with_reducible refine Later.belowOf _ ?_ ?_) | (with_reducible refine Below.alloc ?_ ?_ _) | (with_reducible refine Below.setCell ?_ ?_ _) | (with_reducible refine Below.drewN' _ ?_) | (with_reducible refine Below.drew ?_) | (with_reducible exact Ge.le) | go_size))⟩
      · rw [c1, Bool.false_or] at F'
        rcases tof (l != 0) with c2 | c2
        all_goals
          rw [c2] at F'
          go_wp2_with (first | (go_at_call 106; refine (q1 _).mono ?_; rintro _ _ ⟨rfl, rfl⟩) | (go_at_call 101; refine (F'.go _).mono ?_; rintro _ _ ⟨k, rfl, rfl⟩))
          go_ret
          exact ⟨rfl, by (repeat' (first | (with_reducible exact Below.refl _ _) | (with_reducible assumption) | (with_reducible refine Later.belowOf _ ?_ ?_) | (with_reducible refine Below.alloc ?_ ?_ _) | (with_reducible refine Below.setCell ?_ ?_ _) | (with_reducible refine Below.drewN' _ ?_) | (with_reducible refine Below.drew ?_) | (with_reducible exact Ge.le) | go_size))⟩
    · obtain ⟨t, t1, t2, t3, t4⟩ := root_bit (by omega) H.out
      obtain ⟨h, l, q1, q2, q3, q4, q5, q6⟩ := mul64_same t t t3 t4 t3 t4
      have HT := Lib.hid t1
      have Q2 := Lib.hid q2
      clear t1 q2 F
      have hbk : b = k := by omega
      have hbn : b.toNat = k := by omega
      rw [← hbn] at t2
      clear hbk hbn
      have qq := Q2.out
      rcases Int.lt_or_le (hi * 18446744073709551616) (t * t) with c1 | c1
      · have hI := rootInv_stay H.out (by rw [← HT.out]; exact c1)
        have HI := Lib.hid hI
        have k1 : hi ≤ h := by omega
        have k2 : h = hi → 1 ≤ l := by omega
        have K2 := Lib.hid k2
        clear hI H HT Q2 qq k2
        by_cases c2 : h = hi
        · have k3 := K2.out c2
          have c4 : (h == hi) = true := by rw [beq_iff_eq]; exact c2
          clear c2 K2
          go_wp2_with (first | (go_at_call 106; refine (q1 _).mono ?_; rintro _ _ ⟨rfl, rfl⟩))
          go_roundg (k + 1)
          case measure => omega
          case rel => exact ⟨k, r, b - 1, by omega, rfl, rfl, rfl, by omega, by omega, HI, rfl⟩
        · have c4 : (h == hi) = false := by rw [beq_eq_false_iff_ne]; exact c2
          clear c2 K2
          go_wp2_with (first | (go_at_call 106; refine (q1 _).mono ?_; rintro _ _ ⟨rfl, rfl⟩))
          all_goals
            go_roundg (k + 1)
            case measure => omega
            case rel => exact ⟨k, r, b - 1, by omega, rfl, rfl, rfl, by omega, by omega, HI, rfl⟩
      · have hI := rootInv_step H.out (by rw [← HT.out]; exact c1)
        rw [← HT.out] at hI
        have HI := Lib.hid hI
        have k1 : h ≤ hi := by omega
        have k2 : h = hi → l ≤ 0 := by omega
        have K2 := Lib.hid k2
        clear hI H HT Q2 qq k2
        by_cases c2 : h = hi
        · have k3 := K2.out c2
          have c4 : (h == hi) = true := by rw [beq_iff_eq]; exact c2
          have k4 : hi ≤ h := by omega
          clear c2 K2
          go_wp2_with (first | (go_at_call 106; refine (q1 _).mono ?_; rintro _ _ ⟨rfl, rfl⟩))
          go_roundg (k + 1)
          case measure => omega
          case rel => exact ⟨k, t, b - 1, by omega, rfl, rfl, rfl, by omega, by omega, HI, rfl⟩
        · have c5 : h < hi := by omega
          clear c2 K2
          go_wp2_with (first | (go_at_call 106; refine (q1 _).mono ?_; rintro _ _ ⟨rfl, rfl⟩))
          go_roundg (k + 1)
          case measure => omega
          case rel => exact ⟨k, t, b - 1, by omega, rfl, rfl, rfl, by omega, by omega, HI, rfl⟩

set_option maxHeartbeats 1000000 in
theorem sqrt_non (a : Nat) (dir : Int) (ha : a < 18446744073709551616) (h : finB a = false ∨ flt a 0 = true) : GivesF 54 #[(.float .f64 a), .int .i64 dir] (rootS a dir) := by
  intro w
  have b1 := split_any a ha
  have d1 := fun w => fsq_non (a := a) w ha h dir
  have H := Lib.hid d1
  generalize rootS a dir = s at *
  clear d1 ha
  have hb : finB a = false ∨ (finB a = true ∧ flt a 0 = true) := by
    rcases h with h | h
    · exact Or.inl h
    · cases hf : finB a
      · exact Or.inl rfl
      · exact Or.inr ⟨rfl, h⟩
  clear h
  rcases hb with h1 | ⟨h1, h2⟩
  all_goals
    go_enter Try.func54, Try.ntmps54
    go_wp2_with (first | (go_at_call 41; refine (b1.go _).mono ?_; rintro _ _ ⟨k, rfl, rfl⟩) | (go_at_call 116; refine (msqrt_any _ _).mono ?_; rintro _ _ ⟨rfl, rfl⟩))
    go_ret
    exact ⟨⟨_, (H.out _).2, (H.out _).1, rfl⟩, by (repeat' (first | (with_reducible exact Below.refl _ _) | (with_reducible assumption) | (with_reducible refine Later.belowOf _ ?_ ?_) | (with_reducible refine Below.alloc ?_ ?_ _) | (with_reducible refine Below.setCell ?_ ?_ _) | (with_reducible refine Below.drewN' _ ?_) | (with_reducible refine Below.drew ?_) | (with_reducible exact Ge.le) | go_size))⟩

set_option maxHeartbeats 1000000 in
theorem sqrt_nought (a : Nat) (dir : Int) (ha : a < 18446744073709551616) (hf : finB a = true) (hl : flt a 0 = false) (hz : rung a = 0) : Gives 54 #[(.float .f64 a), .int .i64 dir] (.float .f64 0) := by
  intro w
  have b1 := split_any a ha
  have z2 := (qM_zero hf).2 hz
  rw [hf, z2] at b1
  clear hf ha hz z2
  go_enter Try.func54, Try.ntmps54
  go_wp2_with (first | (go_at_call 41; refine (b1.go _).mono ?_; rintro _ _ ⟨k, rfl, rfl⟩))
  go_ret
  exact ⟨rfl, by (repeat' (first | (with_reducible exact Below.refl _ _) | (with_reducible assumption) | (with_reducible refine Later.belowOf _ ?_ ?_) | (with_reducible refine Below.alloc ?_ ?_ _) | (with_reducible refine Below.setCell ?_ ?_ _) | (with_reducible refine Below.drewN' _ ?_) | (with_reducible refine Below.drew ?_) | (with_reducible exact Ge.le) | go_size))⟩

theorem rootS_lt {a : Nat} (ha : a < 18446744073709551616) (dir : Int) : rootS a dir < 18446744073709551616 := by
  unfold rootS
  repeat' split
  all_goals first | exact rnd_lt _ _ _ | decide | exact ha

theorem sqrt_any (a : Nat) (dir : Int) (ha : a < 18446744073709551616) : GivesF 54 #[(.float .f64 a), .int .i64 dir] (rootS a dir) := by
  by_cases h : finB a = false ∨ flt a 0 = true
  · exact sqrt_non a dir ha h
  · have hf : finB a = true := by cases hh : finB a; exact absurd (Or.inl hh) h; rfl
    have hl : flt a 0 = false := by cases hh : flt a 0; rfl; exact absurd (Or.inr hh) h
    have na : nan a = false := nan_false.2 (Nat.le_of_lt (finB_rung.1 hf))
    by_cases hz : rung a = 0
    · refine (sqrt_nought a dir ha hf hl hz).nums (by decide) (Or.inl ?_)
      unfold rootS
      rw [na, if_neg (by decide), if_pos hz]
    · have b1 := split_any a ha
      rw [hf] at b1
      have p1 := partsOk_q a hf
      have v1 := pval_q a hf
      have g1 := mt (qM_zero hf).1 hz
      have hn : qNeg a = false := by
        unfold qNeg; rw [hf, ← flt_zero na]; simpa using hl
      have hs : sgn a = false := by
        have : qNeg a = sgn a := by unfold qNeg pNeg; rw [hf]; simp [hz]
        rw [← this]; exact hn
      rw [hn] at b1 v1
      have e : rootS a dir = rnd (rootN (G (rung a))) (rootD (G (rung a))) dir := by
        unfold rootS; rw [na, hs, hf, if_neg (by decide), if_neg hz, if_neg (by decide), if_pos rfl]
      have pr : PartsOk (qM a) (qE a) → 0 ≤ qM a ∧ qM a ≤ 9007199254740991 ∧ -1074 ≤ qE a ∧ qE a ≤ 971 := by unfold PartsOk; omega
      have pp := pr p1
      have hG : (G (rung a) : Int) = qM a * 2 ^ (qE a + 1074).toNat := by
        have : val a = (G (rung a) : Int) := by unfold val; rw [hs]; rfl
        rw [← this, ← v1]; rfl
      have d := sqrt_fin (qM a) (qE a) a dir b1 hl (by omega) pp.2.1 pp.2.2.1 pp.2.2.2 (G (rung a)) hG
      rw [← e] at d
      exact d.nums (rootS_lt ha dir) (Or.inl rfl)
end Go.Proofs.Ytjdccbigaahkeaa
