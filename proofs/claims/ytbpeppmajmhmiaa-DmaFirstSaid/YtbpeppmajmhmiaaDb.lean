/- Package dma, walked: Write. -/
import Derived.Test.YtbpeppmajmhmiaaDa
namespace Go.Proofs.Ytbpeppmajmhmiaa.Db
set_option linter.unusedVariables false
set_option linter.unusedSimpArgs false
open Go.RowKit Go.Proofs.Ytbpeppmajmhmiaa.Bt Go.Proofs.Ytbpeppmajmhmiaa.Wk Go.Proofs.Ytbpeppmajmhmiaa.Sg Go.Proofs.Ytbpeppmajmhmiaa.Dp Go.Proofs.Ytbpeppmajmhmiaa.Da

theorem or_sum (k : Nat) (a b : Int) (p : Int) (hp : ((2 ^ k : Nat) : Int) = p) (a0 : 0 ≤ a) (a1 : a < p) (b0 : 0 ≤ b) (b1 : b % p = 0) (h : a + b < 4294967296) : Go.bits .or .u32 a b = a + b := by
  obtain ⟨n, rfl⟩ := Int.eq_ofNat_of_zero_le a0
  obtain ⟨m, rfl⟩ := Int.eq_ofNat_of_zero_le b0
  rw [or_nat .u32 ws_u32 n m (by simp [IntKind.bits]; omega) (by simp [IntKind.bits]; omega), lor_add]
  · simp
  · subst hp
    have e : m % 2 ^ k = 0 := by exact_mod_cast b1
    have l : n < 2 ^ k := by exact_mod_cast a1
    have s := land_split k n m
    rw [e, Nat.div_eq_of_lt l, Nat.and_zero, Nat.zero_and, Nat.mul_zero] at s
    exact s
theorem or_sum2 (k : Nat) (a b : Int) (p : Int) (hp : ((2 ^ k : Nat) : Int) = p) (a0 : 0 ≤ a) (a1 : a < p) (b0 : 0 ≤ b) (b1 : b % p = 0) (h : b + a < 4294967296) : Go.bits .or .u32 b a = b + a := by
  have t := or_sum k a b p hp a0 a1 b0 b1 (by omega)
  obtain ⟨n, rfl⟩ := Int.eq_ofNat_of_zero_le a0
  obtain ⟨m, rfl⟩ := Int.eq_ofNat_of_zero_le b0
  rw [or_nat .u32 ws_u32 m n (by simp [IntKind.bits]; omega) (by simp [IntKind.bits]; omega), Nat.or_comm, ← or_nat .u32 ws_u32 n m (by simp [IntKind.bits]; omega) (by simp [IntKind.bits]; omega), t]
  omega
theorem and_hi {a : Int} (h0 : 0 ≤ a) (h1 : a < 4294967296) : Go.bits .and .u32 a 4294901760 = a / 65536 * 65536 := by
  obtain ⟨n, rfl⟩ := Int.eq_ofNat_of_zero_le h0
  rw [show (4294901760 : Int) = ((4294901760 : Nat) : Int) from rfl, and_nat .u32 ws_u32 n _ (by simp [IntKind.bits]; omega) (by decide)]
  have s := land_split 16 n 4294901760
  rw [show 4294901760 % 2 ^ 16 = 0 by decide, show 4294901760 / 2 ^ 16 = 2 ^ 16 - 1 by decide, Nat.and_zero, Nat.and_two_pow_sub_one_eq_mod, Nat.add_zero] at s
  rw [s]
  have : n / 2 ^ 16 % 2 ^ 16 = n / 65536 := by omega
  rw [this]
  omega
theorem and_lo {a : Int} (h0 : 0 ≤ a) (h1 : a < 4294967296) : Go.bits .and .u32 a 65535 = a % 65536 := by have := and_mask_u32 h0 h1 16 (by decide); simpa using this
theorem and_16 {a : Int} (h0 : 0 ≤ a) (h1 : a < 65536) (i : Nat) (hi : i ≤ 16) (k : Int) (hk : (2 : Int) ^ i - 1 = k) (m : Int) (hm : (2 : Int) ^ i = m) : Go.bits .and .u16 a k = a % m := by rw [← hk, and_mask_u16 h0 h1 i hi, hm]
theorem ctlX_bd {x : Int} (h0 : 0 ≤ x) (h1 : x < 65536) : 0 ≤ ctlX x ∧ ctlX x < 65536 := by
  obtain ⟨n, rfl⟩ := Int.eq_ofNat_of_zero_le h0
  unfold ctlX
  rw [show (63456 : Int) = ((63456 : Nat) : Int) from rfl, and_nat .u16 ws_u16 n _ (by simp [IntKind.bits]; omega) (by decide)]
  have : n &&& 63456 ≤ n := Nat.and_le_left
  omega
set_option maxRecDepth 100000 in
set_option maxHeartbeats 8000000 in
theorem write0 {w : World} {ub i : Nat} {T : TypeId} {u : Nat → Ch} {c : Ch} (h : B1 w w ub T u i c) (hi : i < 4) (f : Wf c) (x : Int) (x0 : 0 ≤ x) (x1 : x < 65536) :
    Calls Try.prog 10 #[.pointer (some ⟨ub, 0, none⟩), .int .i64 i, .int .i64 0, .int .u16 x] w fun e w' => e = .returned (.tuple #[]) ∧ B1 w w' ub T u i (wrC c i 0 x) := by
  have s0 := f.s0
  have s1 := f.s1
  have e : wrC c i 0 x = { c with src := c.src / 65536 * 65536 + x } := rfl
  have H := Lib.hid (h.s0 hi (c.src / 65536 * 65536 + x))
  rw [e]
  have C0 := h.c0 hi
  have C1 := h.c1 hi
  have C3 := h.c3 hi
  have Fz := h.free
  have ub0 := h.lt
  have i0 : (0 : Int) ≤ (i : Int) := by omega
  have i4 : (i : Int) < 4 := by omega
  have q0 : decide ((i : Int) < 0) = false := decide_eq_false (by omega)
  have q3 : decide ((3 : Int) < (i : Int)) = false := decide_eq_false (by omega)
  have g1 := and_hi s0 s1
  have g2 : Go.bits .or .u32 (c.src / 65536 * 65536) x = c.src / 65536 * 65536 + x := or_sum2 16 _ _ 65536 (by decide) x0 x1 (by omega) (by omega) (by omega)
  clear h e
  generalize c.src = y at *
  go_enter Try.func10, Try.ntmps10
  go_wp2
  go_end0
  exact ⟨rfl, H.out⟩
set_option maxRecDepth 100000 in
set_option maxHeartbeats 8000000 in
theorem write2 {w : World} {ub i : Nat} {T : TypeId} {u : Nat → Ch} {c : Ch} (h : B1 w w ub T u i c) (hi : i < 4) (f : Wf c) (x : Int) (x0 : 0 ≤ x) (x1 : x < 65536) :
    Calls Try.prog 10 #[.pointer (some ⟨ub, 0, none⟩), .int .i64 i, .int .i64 2, .int .u16 x] w fun e w' => e = .returned (.tuple #[]) ∧ B1 w w' ub T u i (wrC c i 2 x) := by
  have s0 := f.d0
  have s1 := f.d1
  have e : wrC c i 2 x = { c with dst := c.dst / 65536 * 65536 + x } := rfl
  have H := Lib.hid (h.s1 hi (c.dst / 65536 * 65536 + x))
  rw [e]
  have C0 := h.c0 hi
  have C1 := h.c1 hi
  have C3 := h.c3 hi
  have Fz := h.free
  have ub0 := h.lt
  have i0 : (0 : Int) ≤ (i : Int) := by omega
  have i4 : (i : Int) < 4 := by omega
  have q0 : decide ((i : Int) < 0) = false := decide_eq_false (by omega)
  have q3 : decide ((3 : Int) < (i : Int)) = false := decide_eq_false (by omega)
  have g1 := and_hi s0 s1
  have g2 : Go.bits .or .u32 (c.dst / 65536 * 65536) x = c.dst / 65536 * 65536 + x := or_sum2 16 _ _ 65536 (by decide) x0 x1 (by omega) (by omega) (by omega)
  clear h e
  generalize c.dst = y at *
  go_enter Try.func10, Try.ntmps10
  go_wp2
  go_end0
  exact ⟨rfl, H.out⟩
set_option maxRecDepth 100000 in
set_option maxHeartbeats 8000000 in
theorem write1 {w : World} {ub i : Nat} {T : TypeId} {u : Nat → Ch} {c : Ch} (h : B1 w w ub T u i c) (hi : i < 4) (f : Wf c) (x : Int) (x0 : 0 ≤ x) (x1 : x < 65536) :
    Calls Try.prog 10 #[.pointer (some ⟨ub, 0, none⟩), .int .i64 i, .int .i64 1, .int .u16 x] w fun e w' => e = .returned (.tuple #[]) ∧ B1 w w' ub T u i (wrC c i 1 x) := by
  have s0 := f.s0
  have s1 := f.s1
  have C0 := h.c0 hi
  have C1 := h.c1 hi
  have C3 := h.c3 hi
  have Fz := h.free
  have ub0 := h.lt
  have i0 : (0 : Int) ≤ (i : Int) := by omega
  have i4 : (i : Int) < 4 := by omega
  have q0 : decide ((i : Int) < 0) = false := decide_eq_false (by omega)
  have q3 : decide ((3 : Int) < (i : Int)) = false := decide_eq_false (by omega)
  by_cases hi0 : (i : Int) = 0
  · have e : wrC c i 1 x = { c with src := c.src % 65536 + x % 2048 * 65536 } := by
      unfold wrC
      rw [if_neg (by decide), if_pos rfl, if_pos hi0]
    have H := Lib.hid (h.s0 hi (c.src % 65536 + x % 2048 * 65536))
    rw [e]
    have ti : ((i : Int) == 0) = true := by simpa using hi0
    have g1 := and_lo s0 s1
    have g2 : Go.bits .and .u16 x 2047 = x % 2048 := and_16 x0 x1 11 (by decide) _ (by decide) _ (by decide)
    have r0 : 0 ≤ x % 2048 := by omega
    have r1 : x % 2048 < 2048 := by omega
    have g3 : Go.bits .or .u32 (c.src % 65536) (x % 2048 * 65536) = c.src % 65536 + x % 2048 * 65536 := or_sum 16 _ _ 65536 (by decide) (by omega) (by omega) (by omega) (by omega) (by omega)
    clear h e hi0
    generalize x % 2048 = xm at *
    generalize c.src = y at *
    go_enter Try.func10, Try.ntmps10
    go_wp2
    go_end0
    exact ⟨rfl, H.out⟩
  · have e : wrC c i 1 x = { c with src := c.src % 65536 + x % 4096 * 65536 } := by
      unfold wrC
      rw [if_neg (by decide), if_pos rfl, if_neg hi0]
    have H := Lib.hid (h.s0 hi (c.src % 65536 + x % 4096 * 65536))
    rw [e]
    have ti : ((i : Int) == 0) = false := by simpa using hi0
    have g1 := and_lo s0 s1
    have g2 : Go.bits .and .u16 x 4095 = x % 4096 := and_16 x0 x1 12 (by decide) _ (by decide) _ (by decide)
    have r0 : 0 ≤ x % 4096 := by omega
    have r1 : x % 4096 < 4096 := by omega
    have g3 : Go.bits .or .u32 (c.src % 65536) (x % 4096 * 65536) = c.src % 65536 + x % 4096 * 65536 := or_sum 16 _ _ 65536 (by decide) (by omega) (by omega) (by omega) (by omega) (by omega)
    clear h e hi0
    generalize x % 4096 = xm at *
    generalize c.src = y at *
    go_enter Try.func10, Try.ntmps10
    go_wp2
    go_end0
    exact ⟨rfl, H.out⟩
set_option maxRecDepth 100000 in
set_option maxHeartbeats 8000000 in
theorem write3 {w : World} {ub i : Nat} {T : TypeId} {u : Nat → Ch} {c : Ch} (h : B1 w w ub T u i c) (hi : i < 4) (f : Wf c) (x : Int) (x0 : 0 ≤ x) (x1 : x < 65536) :
    Calls Try.prog 10 #[.pointer (some ⟨ub, 0, none⟩), .int .i64 i, .int .i64 3, .int .u16 x] w fun e w' => e = .returned (.tuple #[]) ∧ B1 w w' ub T u i (wrC c i 3 x) := by
  have s0 := f.d0
  have s1 := f.d1
  have C0 := h.c0 hi
  have C1 := h.c1 hi
  have C3 := h.c3 hi
  have Fz := h.free
  have ub0 := h.lt
  have i0 : (0 : Int) ≤ (i : Int) := by omega
  have i4 : (i : Int) < 4 := by omega
  have q0 : decide ((i : Int) < 0) = false := decide_eq_false (by omega)
  have q3 : decide ((3 : Int) < (i : Int)) = false := decide_eq_false (by omega)
  by_cases hi0 : (i : Int) = 3
  · have e : wrC c i 3 x = { c with dst := c.dst % 65536 + x % 4096 * 65536 } := by
      unfold wrC
      rw [if_neg (by decide), if_neg (by decide), if_neg (by decide), if_pos rfl, if_pos hi0]
    have H := Lib.hid (h.s1 hi (c.dst % 65536 + x % 4096 * 65536))
    rw [e]
    have ti : ((i : Int) == 3) = true := by simpa using hi0
    have g1 := and_lo s0 s1
    have g2 : Go.bits .and .u16 x 4095 = x % 4096 := and_16 x0 x1 12 (by decide) _ (by decide) _ (by decide)
    have r0 : 0 ≤ x % 4096 := by omega
    have r1 : x % 4096 < 4096 := by omega
    have g3 : Go.bits .or .u32 (c.dst % 65536) (x % 4096 * 65536) = c.dst % 65536 + x % 4096 * 65536 := or_sum 16 _ _ 65536 (by decide) (by omega) (by omega) (by omega) (by omega) (by omega)
    clear h e hi0
    generalize x % 4096 = xm at *
    generalize c.dst = y at *
    go_enter Try.func10, Try.ntmps10
    go_wp2
    go_end0
    exact ⟨rfl, H.out⟩
  · have e : wrC c i 3 x = { c with dst := c.dst % 65536 + x % 2048 * 65536 } := by
      unfold wrC
      rw [if_neg (by decide), if_neg (by decide), if_neg (by decide), if_pos rfl, if_neg hi0]
    have H := Lib.hid (h.s1 hi (c.dst % 65536 + x % 2048 * 65536))
    rw [e]
    have ti : ((i : Int) == 3) = false := by simpa using hi0
    have g1 := and_lo s0 s1
    have g2 : Go.bits .and .u16 x 2047 = x % 2048 := and_16 x0 x1 11 (by decide) _ (by decide) _ (by decide)
    have r0 : 0 ≤ x % 2048 := by omega
    have r1 : x % 2048 < 2048 := by omega
    have g3 : Go.bits .or .u32 (c.dst % 65536) (x % 2048 * 65536) = c.dst % 65536 + x % 2048 * 65536 := or_sum 16 _ _ 65536 (by decide) (by omega) (by omega) (by omega) (by omega) (by omega)
    clear h e hi0
    generalize x % 2048 = xm at *
    generalize c.dst = y at *
    go_enter Try.func10, Try.ntmps10
    go_wp2
    go_end0
    exact ⟨rfl, H.out⟩
end Go.Proofs.Ytbpeppmajmhmiaa.Db
