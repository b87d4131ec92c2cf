/- Flags laid into a status word, and read from it. -/
import Derived.Test.YtajbankfnnlocaaBe
namespace Go.Proofs.Ytajbankfnnlocaa.Bf
set_option linter.unusedVariables false
set_option linter.unusedSimpArgs false
open Go.RowKit Go.Proofs.Ytajbankfnnlocaa.Bt Go.Proofs.Ytajbankfnnlocaa.Wk Go.Proofs.Ytajbankfnnlocaa.Sg Go.Proofs.Ytajbankfnnlocaa.Ba

def b2i (b : Bool) (v : Int) : Int := if b then v else 0
/-- A status word with other flags. -/
def withV (x : Int) (n z c v : Bool) : Int := x % 268435456 + b2i v 268435456 + b2i c 536870912 + b2i z 1073741824 + b2i n 2147483648
theorem or_pow (k : Nat) (p y : Int) (hp : ((2 ^ k : Nat) : Int) = p) (hk : k < 32) (h0 : 0 ≤ y) (h1 : y < p) : Go.bits .or .u32 y p = y + p := by
  obtain ⟨a, rfl⟩ := Int.eq_ofNat_of_zero_le h0
  have l : 2 ^ k < 2 ^ 32 := Nat.pow_lt_pow_right (by decide) hk
  have ha : a < 2 ^ k := by rw [← hp] at h1; exact Int.ofNat_lt.1 h1
  rw [← hp, or_nat .u32 ws_u32 a (2 ^ k) (by simp only [IntKind.bits]; omega) (by simp only [IntKind.bits]; exact l), lor_add]
  · simp
  · apply Nat.eq_of_testBit_eq
    intro i
    rw [Nat.testBit_and, Nat.testBit_two_pow, Nat.zero_testBit]
    by_cases e : k = i
    · subst e; rw [Nat.testBit_lt_two_pow ha]; rfl
    · simp [e]
theorem idx0 (a b c d : Bool) (w : World) : (Instr.index 64 (.agg #[.bool a, .bool b, .bool c, .bool d]) (.int .i64 0)).run Try.prog w = .ok (.bool a) w := by kernel_rfl
theorem idx1 (a b c d : Bool) (w : World) : (Instr.index 64 (.agg #[.bool a, .bool b, .bool c, .bool d]) (.int .i64 1)).run Try.prog w = .ok (.bool b) w := by kernel_rfl
theorem idx2 (a b c d : Bool) (w : World) : (Instr.index 64 (.agg #[.bool a, .bool b, .bool c, .bool d]) (.int .i64 2)).run Try.prog w = .ok (.bool c) w := by kernel_rfl
theorem idx3 (a b c d : Bool) (w : World) : (Instr.index 64 (.agg #[.bool a, .bool b, .bool c, .bool d]) (.int .i64 3)).run Try.prog w = .ok (.bool d) w := by kernel_rfl
set_option maxHeartbeats 4000000 in
theorem with_any (x : Int) (n z c v : Bool) (h0 : 0 ≤ x) (h1 : x < 4294967296) (w : World) :
    Calls Try.prog 29 #[.int .u32 x, .agg #[.bool n, .bool z, .bool c, .bool v]] w fun e w' => e = .returned (.int .u32 (withV x n z c v)) ∧ Below w.heap.size w w' := by
  have g : Go.bits .and .u32 x 268435455 = x % 268435456 := and_u h0 h1 28 (by decide) _ (by decide) _ (by decide)
  have y0 : 0 ≤ x % 268435456 := by omega
  have y1 : x % 268435456 < 268435456 := by omega
  unfold withV
  generalize x % 268435456 = y at *
  have o0 : Go.bits .or .u32 (y) 268435456 = y + 268435456 := or_pow 28 _ _ (by decide) (by decide) (by omega) (by omega)
  have o1 : Go.bits .or .u32 (y) 536870912 = y + 536870912 := or_pow 29 _ _ (by decide) (by decide) (by omega) (by omega)
  have o2 : Go.bits .or .u32 (y + 268435456) 536870912 = y + 268435456 + 536870912 := or_pow 29 _ _ (by decide) (by decide) (by omega) (by omega)
  have o3 : Go.bits .or .u32 (y) 1073741824 = y + 1073741824 := or_pow 30 _ _ (by decide) (by decide) (by omega) (by omega)
  have o4 : Go.bits .or .u32 (y + 536870912) 1073741824 = y + 536870912 + 1073741824 := or_pow 30 _ _ (by decide) (by decide) (by omega) (by omega)
  have o5 : Go.bits .or .u32 (y + 268435456) 1073741824 = y + 268435456 + 1073741824 := or_pow 30 _ _ (by decide) (by decide) (by omega) (by omega)
  have o6 : Go.bits .or .u32 (y + 268435456 + 536870912) 1073741824 = y + 268435456 + 536870912 + 1073741824 := or_pow 30 _ _ (by decide) (by decide) (by omega) (by omega)
  have o7 : Go.bits .or .u32 (y) 2147483648 = y + 2147483648 := or_pow 31 _ _ (by decide) (by decide) (by omega) (by omega)
  have o8 : Go.bits .or .u32 (y + 1073741824) 2147483648 = y + 1073741824 + 2147483648 := or_pow 31 _ _ (by decide) (by decide) (by omega) (by omega)
  have o9 : Go.bits .or .u32 (y + 536870912) 2147483648 = y + 536870912 + 2147483648 := or_pow 31 _ _ (by decide) (by decide) (by omega) (by omega)
  have o10 : Go.bits .or .u32 (y + 536870912 + 1073741824) 2147483648 = y + 536870912 + 1073741824 + 2147483648 := or_pow 31 _ _ (by decide) (by decide) (by omega) (by omega)
  have o11 : Go.bits .or .u32 (y + 268435456) 2147483648 = y + 268435456 + 2147483648 := or_pow 31 _ _ (by decide) (by decide) (by omega) (by omega)
  have o12 : Go.bits .or .u32 (y + 268435456 + 1073741824) 2147483648 = y + 268435456 + 1073741824 + 2147483648 := or_pow 31 _ _ (by decide) (by decide) (by omega) (by omega)
  have o13 : Go.bits .or .u32 (y + 268435456 + 536870912) 2147483648 = y + 268435456 + 536870912 + 2147483648 := or_pow 31 _ _ (by decide) (by decide) (by omega) (by omega)
  have o14 : Go.bits .or .u32 (y + 268435456 + 536870912 + 1073741824) 2147483648 = y + 268435456 + 536870912 + 1073741824 + 2147483648 := or_pow 31 _ _ (by decide) (by decide) (by omega) (by omega)
  have i0 := idx0
  have i1 := idx1
  have i2 := idx2
  have i3 := idx3
  cases n <;> cases z <;> cases c <;> cases v
  all_goals
    go_enter Try.func29, Try.ntmps29
    go_wp2
    refine wp_loop_rounds 5 ?_
    rw [rounds_succ]
    go_wp2
    rw [rounds_succ]
    go_wp2
    rw [rounds_succ]
    go_wp2
    rw [rounds_succ]
    go_wp2
    rw [rounds_succ]
    go_wp2
    go_ret
    refine ⟨ret_i ?_, Below.alloc (Below.refl _ _) (Nat.le_refl _) _⟩
    simp [b2i]
set_option maxHeartbeats 4000000 in
theorem rwith_any (x : Int) (n z c v : Bool) (h0 : 0 ≤ x) (h1 : x < 4294967296) (w : World) :
    Calls Try.prog 32 #[.int .u32 x, .agg #[.bool n, .bool z, .bool c, .bool v]] w fun e w' => e = .returned (.int .u32 (withV x n z c v)) ∧ Below w.heap.size w w' := by
  have y0 : 0 ≤ x % 268435456 := by omega
  have y1 : x % 268435456 < 268435456 := by omega
  have g : x.tmod 268435456 = x % 268435456 := Int.tmod_eq_emod_of_nonneg h0
  unfold withV
  generalize x % 268435456 = y at *
  cases n <;> cases z <;> cases c <;> cases v
  all_goals
    go_enter Try.func32, Try.ntmps32
    go_wp2
    go_ret
    refine ⟨ret_i ?_, Below.alloc (Below.refl _ _) (Nat.le_refl _) _⟩
    simp [b2i]
    try omega
/-- A status word's flags. -/
def flagsV (x : Int) : Array Value := #[.bool (x / 2147483648 % 2 == 1), .bool (x / 1073741824 % 2 == 1), .bool (x / 536870912 % 2 == 1), .bool (x / 268435456 % 2 == 1)]
set_option maxHeartbeats 1000000 in
theorem flags_any (x : Int) (h0 : 0 ≤ x) (h1 : x < 4294967296) (w : World) :
    Calls Try.prog 28 #[.int .u32 x] w fun e w' => e = .returned (.agg (flagsV x)) ∧ Below w.heap.size w w' := by
  have g1 : Go.bits .and .u32 (x / 2147483648) 1 = x / 2147483648 % 2 := and_u (by omega) (by omega) 1 (by decide) _ (by decide) _ (by decide)
  have g2 : Go.bits .and .u32 (x / 1073741824) 1 = x / 1073741824 % 2 := and_u (by omega) (by omega) 1 (by decide) _ (by decide) _ (by decide)
  have g3 : Go.bits .and .u32 (x / 536870912) 1 = x / 536870912 % 2 := and_u (by omega) (by omega) 1 (by decide) _ (by decide) _ (by decide)
  have g4 : Go.bits .and .u32 (x / 268435456) 1 = x / 268435456 % 2 := and_u (by omega) (by omega) 1 (by decide) _ (by decide) _ (by decide)
  go_enter Try.func28, Try.ntmps28
  go_wp2
  refine bodyPost_ret (v := .agg (flagsV x)) (by simp [results, Try.results28, go_sem, flagsV]) rfl ⟨rfl, ?_⟩
  exact Below.alloc (Below.refl _ _) (Nat.le_refl _) _
set_option maxHeartbeats 1000000 in
theorem rbit_any (x : Int) (i : Nat) (h0 : 0 ≤ x) (h1 : x < 4294967296) (hi : i < 32) (w : World) :
    Calls Try.prog 36 #[.int .u32 x, .int .i64 i] w fun e w' => e = .returned (.bool (x / 2 ^ i % 2 == 1)) ∧ w = w' := by
  have p0 : 0 ≤ x / 2 ^ i := Int.ediv_nonneg h0 (Int.le_of_lt (Int.pow_pos (by decide)))
  go_enter Try.func36, Try.ntmps36
  go_wp2
  go_ret
  exact ⟨rfl, rfl⟩
set_option maxHeartbeats 1000000 in
theorem rflags_any (x : Int) (h0 : 0 ≤ x) (h1 : x < 4294967296) (w : World) :
    Calls Try.prog 31 #[.int .u32 x] w fun e w' => e = .returned (.agg (flagsV x)) ∧ Below w.heap.size w w' := by
  have R1 : ∀ w, Calls Try.prog 36 #[.int .u32 x, .int .i64 31] w fun e w' => e = .returned (.bool (x / 2147483648 % 2 == 1)) ∧ w = w' := fun w => rbit_any x 31 h0 h1 (by decide) w
  have R2 : ∀ w, Calls Try.prog 36 #[.int .u32 x, .int .i64 30] w fun e w' => e = .returned (.bool (x / 1073741824 % 2 == 1)) ∧ w = w' := fun w => rbit_any x 30 h0 h1 (by decide) w
  have R3 : ∀ w, Calls Try.prog 36 #[.int .u32 x, .int .i64 29] w fun e w' => e = .returned (.bool (x / 536870912 % 2 == 1)) ∧ w = w' := fun w => rbit_any x 29 h0 h1 (by decide) w
  have R4 : ∀ w, Calls Try.prog 36 #[.int .u32 x, .int .i64 28] w fun e w' => e = .returned (.bool (x / 268435456 % 2 == 1)) ∧ w = w' := fun w => rbit_any x 28 h0 h1 (by decide) w
  have H1 := Lib.hid R1
  have H2 := Lib.hid R2
  have H3 := Lib.hid R3
  have H4 := Lib.hid R4
  clear R1 R2 R3 R4
  unfold flagsV
  go_enter Try.func31, Try.ntmps31
  go_wp2_with fail
  refine (H1.out _).mono ?_
  rintro e w' ⟨rfl, rfl⟩
  go_wp2_with fail
  refine (H2.out _).mono ?_
  rintro e w' ⟨rfl, rfl⟩
  go_wp2_with fail
  refine (H3.out _).mono ?_
  rintro e w' ⟨rfl, rfl⟩
  go_wp2_with fail
  refine (H4.out _).mono ?_
  rintro e w' ⟨rfl, rfl⟩
  go_wp2
  refine bodyPost_ret (v := .agg _) (by simp [results, Try.results31, go_sem]) rfl ⟨rfl, ?_⟩
  exact Below.alloc (Below.refl _ _) (Nat.le_refl _) _
end Go.Proofs.Ytajbankfnnlocaa.Bf
