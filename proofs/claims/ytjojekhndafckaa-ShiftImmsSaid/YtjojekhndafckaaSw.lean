/- Package shift and its reference, walked: each call answers as the plain functions of Sh say, and leaves the world alone. -/
import Derived.Test.YtjojekhndafckaaProg
import Derived.Test.YtjojekhndafckaaSh
import Derived.WalkKit
import Derived.Lib.Hide
import Derived.Below
import Derived.Deep.QuietTactic
import Derived.BigQuiet
import Derived.WalkLawsBesides
import Derived.Outline
import Derived.Laws.ShiftsVarLaws
import Derived.Laws.MathBits
namespace Go.Proofs.Ytjojekhndafckaa.Sw
set_option linter.unusedVariables false
set_option linter.unusedSimpArgs false
open Go.RowKit Go.Proofs.Ytjojekhndafckaa.Bt Go.Proofs.Ytjojekhndafckaa.Sh

theorem ret_i {k : IntKind} {a b : Int} (h : a = b) : Ending.returned (.int k a) = Ending.returned (.int k b) := by rw [h]
theorem ret_b {a b : Bool} (h : a = b) : Ending.returned (.bool a) = Ending.returned (.bool b) := by rw [h]
theorem ret_ib {k : IntKind} {a b : Int} {c d : Bool} (h : a = b) (h' : c = d) : Ending.returned (.tuple #[.int k a, .bool c]) = Ending.returned (.tuple #[.int k b, .bool d]) := by rw [h, h']
theorem ret_ib' {k : IntKind} {a b : Int} {c d : Bool} (h : (a, c) = (b, d)) : Ending.returned (.tuple #[.int k a, .bool c]) = Ending.returned (.tuple #[.int k b, .bool d]) := by cases h; rfl

theorem below_dn {b : Nat} {w W : World} (h : Below b w W) (n : Nat) : Below b w (W.drewN n) := ⟨h.os, h.tape, h.output, h.size, h.block⟩
set_option maxHeartbeats 1000000 in
theorem rotl (x k : Int) (w : World) (h0 : 0 ≤ x) (h1 : x < 4294967296) (n0 : -64 ≤ k) (n1 : k ≤ 64) :
    Calls Try.prog 15 #[.int .u32 x, .int .i64 k] w fun e w' => e = .returned (.int .u32 (rot x (k % 32).toNat)) ∧ w = w' := by
  have e : Go.bits .and .u64 (IntKind.u64.wrap k) 31 = (((k % 32).toNat : Nat) : Int) := by rw [wrap_u64, and31w (by omega) (by omega)]; omega
  have hs : (k % 32).toNat < 32 := by omega
  generalize (k % 32).toNat = s at *
  have hr := Lib.hid (rot_eq h0 h1 s hs)
  go_enter Try.func15, Try.ntmps15
  go_wp2
  go_ret
  exact ⟨ret_i (by rw [← hr.out]), rfl⟩

set_option maxHeartbeats 1000000 in
theorem reg_z (kind x n : Int) (m : Nat) (carry : Bool) (w : World) (e1 : Go.bits .and .u32 n 255 = (m : Int)) (hz : m = 0) : Calls Try.prog 9 #[.int .i64 kind, .int .u32 x, .int .u32 n, .bool carry] w fun e w' => e = .returned (.tuple #[.int .u32 x, .bool carry]) ∧ w = w' := by
  have z : ((m : Int) == 0) = true := by simp; omega
  clear hz
  go_enter Try.func9, Try.ntmps9
  go_wp2
  go_ret2
  exact ⟨rfl, rfl⟩
set_option maxHeartbeats 1000000 in
theorem reg_0a (kind x n : Int) (m : Nat) (carry : Bool) (w : World) (h0 : 0 ≤ x) (h1 : x < 4294967296) (e1 : Go.bits .and .u32 n 255 = (m : Int)) (hm : m < 256) (c1 : 1 ≤ m) (c2 : m ≤ 32) (e2 : Go.bits .and .i64 kind 3 = 0) : Calls Try.prog 9 #[.int .i64 kind, .int .u32 x, .int .u32 n, .bool carry] w fun e w' => e = .returned (.tuple #[.int .u32 (wd 0 x m), .bool (cy 0 x m)]) ∧ w = w' := by
  have z : ((m : Int) == 0) = false := by simp; omega
  go_enter Try.func9, Try.ntmps9
  go_wp2
  go_ret2
  refine ⟨ret_ib ?_ ?_, rfl⟩
  · unfold wd; rw [if_pos rfl, Nat.min_eq_left c2]
  · obtain ⟨d0, d1⟩ := div_bound h0 h1 (32 - m)
    unfold cy; rw [if_pos rfl, Nat.min_eq_left c2, and1u d0 d1]; simp [c2]; exact beq_eq_decide _ _
set_option maxHeartbeats 1000000 in
theorem reg_0b (kind x n : Int) (m : Nat) (carry : Bool) (w : World) (e1 : Go.bits .and .u32 n 255 = (m : Int)) (hm : m < 256) (c1 : 32 < m) (e2 : Go.bits .and .i64 kind 3 = 0) : Calls Try.prog 9 #[.int .i64 kind, .int .u32 x, .int .u32 n, .bool carry] w fun e w' => e = .returned (.tuple #[.int .u32 (wd 0 x m), .bool (cy 0 x m)]) ∧ w = w' := by
  have z : ((m : Int) == 0) = false := by simp; omega
  go_enter Try.func9, Try.ntmps9
  go_wp2
  go_ret2
  refine ⟨ret_ib ?_ ?_, rfl⟩
  · unfold wd; rw [if_pos rfl]
  · unfold cy; rw [if_pos rfl]; simp; omega
set_option maxHeartbeats 1000000 in
theorem reg_1a (kind x n : Int) (m : Nat) (carry : Bool) (w : World) (h0 : 0 ≤ x) (h1 : x < 4294967296) (e1 : Go.bits .and .u32 n 255 = (m : Int)) (hm : m < 256) (c1 : 1 ≤ m) (c2 : m ≤ 32) (e2 : Go.bits .and .i64 kind 3 = 1) : Calls Try.prog 9 #[.int .i64 kind, .int .u32 x, .int .u32 n, .bool carry] w fun e w' => e = .returned (.tuple #[.int .u32 (wd 1 x m), .bool (cy 1 x m)]) ∧ w = w' := by
  have z : ((m : Int) == 0) = false := by simp; omega
  go_enter Try.func9, Try.ntmps9
  go_wp2
  go_ret2
  refine ⟨ret_ib ?_ ?_, rfl⟩
  · unfold wd; rw [if_neg (by decide), if_pos rfl, Nat.min_eq_left c2]
  · obtain ⟨d0, d1⟩ := div_bound h0 h1 (m - 1)
    unfold cy; rw [if_neg (by decide), if_pos rfl, Nat.min_eq_left c2, and1u d0 d1]; simp [c2]; exact beq_eq_decide _ _
set_option maxHeartbeats 1000000 in
theorem reg_1b (kind x n : Int) (m : Nat) (carry : Bool) (w : World) (e1 : Go.bits .and .u32 n 255 = (m : Int)) (hm : m < 256) (c1 : 32 < m) (e2 : Go.bits .and .i64 kind 3 = 1) : Calls Try.prog 9 #[.int .i64 kind, .int .u32 x, .int .u32 n, .bool carry] w fun e w' => e = .returned (.tuple #[.int .u32 (wd 1 x m), .bool (cy 1 x m)]) ∧ w = w' := by
  have z : ((m : Int) == 0) = false := by simp; omega
  go_enter Try.func9, Try.ntmps9
  go_wp2
  go_ret2
  refine ⟨ret_ib ?_ ?_, rfl⟩
  · unfold wd; rw [if_neg (by decide), if_pos rfl]
  · unfold cy; rw [if_neg (by decide), if_pos rfl]; simp; omega
set_option maxHeartbeats 1000000 in
theorem reg_2a (kind x n : Int) (m : Nat) (carry : Bool) (w : World) (h0 : 0 ≤ x) (h1 : x < 4294967296) (e1 : Go.bits .and .u32 n 255 = (m : Int)) (hm : m < 256) (c1 : 1 ≤ m) (c2 : m ≤ 32) (e2 : Go.bits .and .i64 kind 3 = 2) : Calls Try.prog 9 #[.int .i64 kind, .int .u32 x, .int .u32 n, .bool carry] w fun e w' => e = .returned (.tuple #[.int .u32 (wd 2 x m), .bool (cy 2 x m)]) ∧ w = w' := by
  have z : ((m : Int) == 0) = false := by simp; omega
  go_enter Try.func9, Try.ntmps9
  go_wp2
  go_ret2
  refine ⟨ret_ib ?_ ?_, rfl⟩
  · unfold wd; rw [wrap32_sg h0 h1, if_neg (by decide), if_neg (by decide), if_pos rfl, Nat.min_eq_left c2]
  · unfold cy; rw [wrap32_sg h0 h1, and1s, if_neg (by decide), if_neg (by decide), if_pos rfl, Nat.min_eq_left c2]; exact beq_eq_decide _ _
set_option maxHeartbeats 1000000 in
theorem reg_2b (kind x n : Int) (m : Nat) (carry : Bool) (w : World) (h0 : 0 ≤ x) (h1 : x < 4294967296) (e1 : Go.bits .and .u32 n 255 = (m : Int)) (hm : m < 256) (c1 : 32 < m) (e2 : Go.bits .and .i64 kind 3 = 2) : Calls Try.prog 9 #[.int .i64 kind, .int .u32 x, .int .u32 n, .bool carry] w fun e w' => e = .returned (.tuple #[.int .u32 (wd 2 x m), .bool (cy 2 x m)]) ∧ w = w' := by
  have z : ((m : Int) == 0) = false := by simp; omega
  go_enter Try.func9, Try.ntmps9
  go_wp2
  go_ret2
  refine ⟨ret_ib ?_ ?_, rfl⟩
  · unfold wd; rw [wrap32_sg h0 h1, if_neg (by decide), if_neg (by decide), if_pos rfl, Nat.min_eq_right (by omega)]; rfl
  · unfold cy; rw [wrap32_sg h0 h1, and1s, if_neg (by decide), if_neg (by decide), if_pos rfl, Nat.min_eq_right (by omega)]; exact beq_eq_decide _ _
set_option maxHeartbeats 1000000 in
theorem reg_3 (kind x n : Int) (m : Nat) (carry : Bool) (w : World) (h0 : 0 ≤ x) (h1 : x < 4294967296) (e1 : Go.bits .and .u32 n 255 = (m : Int)) (hm : m < 256) (c1 : 1 ≤ m) (e2 : Go.bits .and .i64 kind 3 = 3) : Calls Try.prog 9 #[.int .i64 kind, .int .u32 x, .int .u32 n, .bool carry] w fun e w' => e = .returned (.tuple #[.int .u32 (wd 3 x m), .bool (cy 3 x m)]) ∧ w = w' := by
  have z : ((m : Int) == 0) = false := by simp; omega
  have e3 : Go.bits .and .u32 (m : Int) 31 = ((m % 32 : Nat) : Int) := by rw [and31u (by omega) (by omega)]; omega
  have hr : m % 32 < 32 := by omega
  have er0 : (-(((m % 32 : Nat) : Int)) % 32).toNat = (32 - m % 32) % 32 := by omega
  obtain ⟨r, hr0⟩ : ∃ r, m % 32 = r := ⟨_, rfl⟩
  rw [hr0] at e3 hr er0
  have er := Lib.hid er0
  have hq := Lib.hid hr0
  clear er0 hr0
  go_enter Try.func9, Try.ntmps9
  go_wp2_with (go_at_call 15; refine (rotl _ _ _ h0 h1 (by omega) (by omega)).mono ?_; rintro e w' ⟨rfl, rfl⟩)
  go_ret2
  refine ⟨ret_ib ?_ ?_, rfl⟩
  · unfold wd; rw [if_neg (by decide), if_neg (by decide), if_neg (by decide), er.out, hq.out]
  · unfold cy; rw [if_neg (by decide), if_neg (by decide), if_neg (by decide), er.out, hq.out]; exact beq_eq_decide _ _
/-- A shift by a register's byte, for every kind and every word. -/
theorem reg_any (kind x n : Int) (carry : Bool) (w : World) (h0 : 0 ≤ x) (h1 : x < 4294967296) (n0 : 0 ≤ n) (n1 : n < 4294967296) :
    Calls Try.prog 9 #[.int .i64 kind, .int .u32 x, .int .u32 n, .bool carry] w fun e w' => e = .returned (.tuple #[.int .u32 (reg (kind % 4) x (n % 256).toNat carry).1, .bool (reg (kind % 4) x (n % 256).toNat carry).2]) ∧ w = w' := by
  have e1 : Go.bits .and .u32 n 255 = (((n % 256).toNat : Nat) : Int) := by rw [and255 n0 n1]; omega
  have hm : (n % 256).toNat < 256 := by omega
  have e2 := and3 kind
  generalize (n % 256).toNat = m at *
  unfold reg
  by_cases z : m = 0
  · rw [if_pos z]; exact reg_z kind x n m carry w e1 z
  · rw [if_neg z]
    have k4 : kind % 4 = 0 ∨ kind % 4 = 1 ∨ kind % 4 = 2 ∨ kind % 4 = 3 := by omega
    rcases k4 with e | e | e | e <;> rw [e] at e2 ⊢
    · by_cases c : m ≤ 32
      · exact reg_0a kind x n m carry w h0 h1 e1 hm (by omega) c e2
      · exact reg_0b kind x n m carry w e1 hm (by omega) e2
    · by_cases c : m ≤ 32
      · exact reg_1a kind x n m carry w h0 h1 e1 hm (by omega) c e2
      · exact reg_1b kind x n m carry w e1 hm (by omega) e2
    · by_cases c : m ≤ 32
      · exact reg_2a kind x n m carry w h0 h1 e1 hm (by omega) c e2
      · exact reg_2b kind x n m carry w h0 h1 e1 hm (by omega) e2
    · exact reg_3 kind x n m carry w h0 h1 e1 hm (by omega) e2

/-! ### Imm, Turned -/
set_option maxHeartbeats 1000000 in
theorem imm_reg (kind x n : Int) (q : Int) (m : Nat) (carry : Bool) (w : World) (h0 : 0 ≤ x) (h1 : x < 4294967296) (e1 : Go.bits .and .i64 n 31 = (m : Int)) (hm : m < 32) (c1 : 1 ≤ m) (e2 : Go.bits .and .i64 kind 3 = q) (hq : q = 0 ∨ q = 1 ∨ q = 2 ∨ q = 3) :
    Calls Try.prog 11 #[.int .i64 kind, .int .u32 x, .int .i64 n, .bool carry] w fun e w' => e = .returned (.tuple #[.int .u32 (reg q x m carry).1, .bool (reg q x m carry).2]) ∧ w = w' := by
  have z : ((m : Int) == 0) = false := by simp; omega
  have hk := Lib.hid (show kind % 4 = q by rw [← e2, and3])
  rcases hq with rfl | rfl | rfl | rfl
  all_goals
    go_enter Try.func11, Try.ntmps11
    go_wp2_with (go_at_call 9; refine (reg_any _ _ _ _ _ h0 h1 (by omega) (by omega)).mono ?_; rintro e w' ⟨rfl, rfl⟩)
    go_ret2
    refine ⟨ret_ib ?_ ?_, rfl⟩ <;> rw [hk.out, show m % 256 = m by omega]
set_option maxHeartbeats 1000000 in
theorem imm_z0 (kind x n : Int) (carry : Bool) (w : World) (e1 : Go.bits .and .i64 n 31 = 0) (e2 : Go.bits .and .i64 kind 3 = 0) :
    Calls Try.prog 11 #[.int .i64 kind, .int .u32 x, .int .i64 n, .bool carry] w fun e w' => e = .returned (.tuple #[.int .u32 x, .bool carry]) ∧ w = w' := by
  go_enter Try.func11, Try.ntmps11
  go_wp2
  go_ret2
  exact ⟨rfl, rfl⟩
set_option maxHeartbeats 1000000 in
theorem imm_z1 (kind x n : Int) (q : Int) (carry : Bool) (w : World) (h0 : 0 ≤ x) (h1 : x < 4294967296) (e1 : Go.bits .and .i64 n 31 = 0) (e2 : Go.bits .and .i64 kind 3 = q) (hq : q = 1 ∨ q = 2) :
    Calls Try.prog 11 #[.int .i64 kind, .int .u32 x, .int .i64 n, .bool carry] w fun e w' => e = .returned (.tuple #[.int .u32 (reg q x 32 carry).1, .bool (reg q x 32 carry).2]) ∧ w = w' := by
  have hk := Lib.hid (show kind % 4 = q by rw [← e2, and3])
  rcases hq with rfl | rfl
  all_goals
    go_enter Try.func11, Try.ntmps11
    go_wp2_with (go_at_call 9; refine (reg_any _ _ _ _ _ h0 h1 (by omega) (by omega)).mono ?_; rintro e w' ⟨rfl, rfl⟩)
    go_ret2
    refine ⟨ret_ib ?_ ?_, rfl⟩ <;> rw [hk.out]
set_option maxHeartbeats 1000000 in
theorem imm_z3 (kind x n : Int) (carry : Bool) (w : World) (h0 : 0 ≤ x) (h1 : x < 4294967296) (e1 : Go.bits .and .i64 n 31 = 0) (e2 : Go.bits .and .i64 kind 3 = 3) :
    Calls Try.prog 11 #[.int .i64 kind, .int .u32 x, .int .i64 n, .bool carry] w fun e w' => e = .returned (.tuple #[.int .u32 ((if carry then 2147483648 else 0) + x / 2), .bool (decide (x % 2 = 1))]) ∧ w = w' := by
  have e3 : Go.bits .or .u32 2147483648 (x / 2) = 2147483648 + x / 2 := or_top h0 h1
  have e4 : Go.bits .or .u32 0 (x / 2) = 0 + x / 2 := or_zero h0 h1
  have H3 := Lib.hid e3
  have H4 := Lib.hid e4
  have H5 := Lib.hid (and1u h0 h1)
  clear e3 e4
  cases carry
  all_goals
    go_enter Try.func11, Try.ntmps11
    go_wp2
    go_ret2
    refine ⟨ret_ib ?_ ?_, rfl⟩
  · first | (rw [H4.out]; simp; done) | rw [H4.out]
  · rw [H5.out]; exact beq_eq_decide _ _
  · first | (rw [H3.out]; simp; done) | rw [H3.out]
  · rw [H5.out]; exact beq_eq_decide _ _
/-- A shift by an amount of the instruction. -/
theorem imm_any (kind x n : Int) (carry : Bool) (w : World) (h0 : 0 ≤ x) (h1 : x < 4294967296) :
    Calls Try.prog 11 #[.int .i64 kind, .int .u32 x, .int .i64 n, .bool carry] w fun e w' => e = .returned (.tuple #[.int .u32 (imm (kind % 4) x (n % 32).toNat carry).1, .bool (imm (kind % 4) x (n % 32).toNat carry).2]) ∧ w = w' := by
  have e1 : Go.bits .and .i64 n 31 = (((n % 32).toNat : Nat) : Int) := by rw [and31]; omega
  have hm : (n % 32).toNat < 32 := by omega
  have e2 := and3 kind
  generalize (n % 32).toNat = m at *
  have k4 : kind % 4 = 0 ∨ kind % 4 = 1 ∨ kind % 4 = 2 ∨ kind % 4 = 3 := by omega
  generalize kind % 4 = q at *
  unfold imm
  by_cases z : m = 0
  · subst z
    rw [if_pos rfl]
    rcases k4 with rfl | rfl | rfl | rfl
    · rw [if_pos rfl]; exact imm_z0 kind x n carry w e1 e2
    · rw [if_neg (by decide), if_neg (by decide)]; exact imm_z1 kind x n 1 carry w h0 h1 e1 e2 (by decide)
    · rw [if_neg (by decide), if_neg (by decide)]; exact imm_z1 kind x n 2 carry w h0 h1 e1 e2 (by decide)
    · rw [if_neg (by decide), if_pos rfl]; exact imm_z3 kind x n carry w h0 h1 e1 e2
  · rw [if_neg z]; exact imm_reg kind x n q m carry w h0 h1 e1 hm (by omega) e2 k4
set_option maxHeartbeats 1000000 in
/-- A turned immediate. -/
theorem turned_any (x n : Int) (carry : Bool) (w : World) (h0 : 0 ≤ x) (h1 : x < 4294967296) :
    Calls Try.prog 13 #[.int .u32 x, .int .i64 n, .bool carry] w fun e w' => e = .returned (.tuple #[.int .u32 (reg 3 (x % 256) (2 * (n % 16).toNat) carry).1, .bool (reg 3 (x % 256) (2 * (n % 16).toNat) carry).2]) ∧ w = w' := by
  have e1 : Go.bits .and .i64 n 15 = (((n % 16).toNat : Nat) : Int) := by rw [and15]; omega
  have hm : (n % 16).toNat < 16 := by omega
  have e2 : Go.bits .and .u32 x 255 = x % 256 := and255 h0 h1
  have hy : 0 ≤ x % 256 ∧ x % 256 < 256 := by omega
  obtain ⟨y0, y1⟩ := hy
  generalize (n % 16).toNat = m at *
  generalize x % 256 = y at *
  unfold reg
  by_cases z : m = 0
  · subst z
    rw [if_pos rfl]
    go_enter Try.func13, Try.ntmps13
    go_wp2
    go_ret2
    exact ⟨rfl, rfl⟩
  · rw [if_neg (by omega)]
    have z1 : (((m : Int) * 2) == 0) = false := by simp; omega
    have er := Lib.hid (show (-(((m : Nat) : Int) * 2) % 32).toNat = (32 - 2 * m % 32) % 32 by omega)
    go_enter Try.func13, Try.ntmps13
    go_wp2_with (go_at_call 15; refine (rotl _ _ _ y0 (by omega) (by omega) (by omega)).mono ?_; rintro e w' ⟨rfl, rfl⟩)
    go_ret2
    refine ⟨ret_ib ?_ ?_, rfl⟩
    · unfold wd; rw [if_neg (by decide), if_neg (by decide), if_neg (by decide), er.out]
    · unfold cy; rw [if_neg (by decide), if_neg (by decide), if_neg (by decide), er.out]; exact beq_eq_decide _ _

/-! ### the reference -/
set_option maxHeartbeats 1000000 in
theorem rone_any (q x : Int) (w : World) (h0 : 0 ≤ x) (h1 : x < 4294967296) (hq : q = 0 ∨ q = 1 ∨ q = 2 ∨ q = 3) :
    Calls Try.prog 16 #[.int .i64 q, .int .u32 x] w fun e w' => e = .returned (.tuple #[.int .u32 (one q x).1, .bool (one q x).2]) ∧ w = w' := by
  have O := Lib.hid (one_plain h0 h1)
  obtain ⟨o0, o1, o2a, o2b, o3⟩ := O.out
  clear O
  have O0 := Lib.hid o0
  have O1 := Lib.hid o1
  have O3 := Lib.hid o3
  clear o0 o1 o3
  rcases hq with rfl | rfl | rfl | rfl
  · clear o2a o2b
    go_enter Try.func16, Try.ntmps16
    go_wp2
    go_ret2
    exact ⟨ret_ib' (by rw [O0.out]), rfl⟩
  · clear o2a o2b
    go_enter Try.func16, Try.ntmps16
    go_wp2
    go_ret2
    exact ⟨ret_ib' (by rw [O1.out, ← beq_eq_decide]), rfl⟩
  · by_cases c : 2147483648 ≤ x
    · have O2 := Lib.hid (o2b c)
      clear o2a o2b
      go_enter Try.func16, Try.ntmps16
      go_wp2
      go_ret2
      exact ⟨ret_ib' (by rw [O2.out, ← beq_eq_decide]), rfl⟩
    · have O2 := Lib.hid (o2a (by omega))
      clear o2a o2b
      go_enter Try.func16, Try.ntmps16
      go_wp2
      go_ret2
      exact ⟨ret_ib' (by rw [O2.out, ← beq_eq_decide]), rfl⟩
  · clear o2a o2b
    go_enter Try.func16, Try.ntmps16
    go_wp2
    go_ret2
    exact ⟨ret_ib' (by rw [O3.out, ← beq_eq_decide]), rfl⟩
set_option maxHeartbeats 1000000 in
theorem rreg_m (kind x n q : Int) (m : Nat) (carry : Bool) (w : World) (h0 : 0 ≤ x) (h1 : x < 4294967296) (n0 : 0 ≤ n) (n1 : n < 4294967296) (e1 : n % 256 = (m : Int)) (hm : m < 256) (e2 : Go.bits .and .i64 kind 3 = q) (hq : q = 0 ∨ q = 1 ∨ q = 2 ∨ q = 3) :
    Calls Try.prog 10 #[.int .i64 kind, .int .u32 x, .int .u32 n, .bool carry] w fun e w' => e = .returned (.tuple #[.int .u32 (reg q x m carry).1, .bool (reg q x m carry).2]) ∧ w = w' := by
  have S := Lib.hid (fun j => reg_succ h0 h1 q hq j carry)
  have B := Lib.hid (fun j => reg_bound h0 h1 q j carry)
  have Hq := Lib.hid hq
  clear hq
  go_enter Try.func10, Try.ntmps10
  go_wp2
  go_loop [1, 3, 10] (fun a c i => ∃ j : Nat, j ≤ m ∧ i = .int .u32 j ∧ a = .int .u32 (reg q x j carry).1 ∧ c = .bool (reg q x j carry).2) (fun _ _ i => m - (intOf i).toNat)
  case atStart => exact ⟨0, by omega, rfl, rfl, rfl⟩
  case round =>
    obtain ⟨j, hj, rfl, rfl, rfl⟩ := hrel
    obtain ⟨b0, b1⟩ := B.out j
    by_cases hlt : j < m
    · go_wp2_with (go_at_call 16; refine (rone_any _ _ _ b0 b1 Hq.out).mono ?_; rintro e w' ⟨rfl, rfl⟩)
      go_round
      case rel => exact ⟨j + 1, by omega, by go_num, by rw [S.out j], by rw [S.out j]⟩
      case measure => simp [intOf]; omega
    · obtain rfl : j = m := by omega
      go_wp2
      go_ret2
      exact ⟨rfl, rfl⟩
theorem rreg_any (kind x n : Int) (carry : Bool) (w : World) (h0 : 0 ≤ x) (h1 : x < 4294967296) (n0 : 0 ≤ n) (n1 : n < 4294967296) :
    Calls Try.prog 10 #[.int .i64 kind, .int .u32 x, .int .u32 n, .bool carry] w fun e w' => e = .returned (.tuple #[.int .u32 (reg (kind % 4) x (n % 256).toNat carry).1, .bool (reg (kind % 4) x (n % 256).toNat carry).2]) ∧ w = w' :=
  rreg_m kind x n (kind % 4) (n % 256).toNat carry w h0 h1 n0 n1 (by omega) (by omega) (and3 kind) (by omega)

set_option maxHeartbeats 1000000 in
theorem rimm_any (kind x n : Int) (carry : Bool) (w : World) (h0 : 0 ≤ x) (h1 : x < 4294967296) :
    Calls Try.prog 12 #[.int .i64 kind, .int .u32 x, .int .i64 n, .bool carry] w fun e w' => e = .returned (.tuple #[.int .u32 (imm (kind % 4) x (n % 32).toNat carry).1, .bool (imm (kind % 4) x (n % 32).toNat carry).2]) ∧ w = w' := by
  have e1 : Go.bits .and .i64 n 31 = (((n % 32).toNat : Nat) : Int) := by rw [and31]; omega
  have hm : (n % 32).toNat < 32 := by omega
  have e2 := and3 kind
  generalize (n % 32).toNat = m at *
  have k4 : kind % 4 = 0 ∨ kind % 4 = 1 ∨ kind % 4 = 2 ∨ kind % 4 = 3 := by omega
  have kb : 0 ≤ kind % 4 ∧ kind % 4 < 4 := by omega
  obtain ⟨kb0, kb1⟩ := kb
  generalize kind % 4 = q at *
  unfold imm
  by_cases z : m = 0
  · have z' := z
    subst z
    rw [if_pos rfl]
    have T := Lib.hid (and1u h0 h1)
    rcases k4 with rfl | rfl | rfl | rfl
    · rw [if_pos rfl]
      go_enter Try.func12, Try.ntmps12
      go_wp2_with (go_at_call 10; refine (rreg_any _ _ _ _ _ h0 h1 (by omega) (by omega)).mono ?_; rintro e w' ⟨rfl, rfl⟩)
      go_ret2
      exact ⟨ret_ib rfl rfl, rfl⟩
    · rw [if_neg (by decide), if_neg (by decide)]
      go_enter Try.func12, Try.ntmps12
      go_wp2_with (go_at_call 10; refine (rreg_any _ _ _ _ _ h0 h1 (by omega) (by omega)).mono ?_; rintro e w' ⟨rfl, rfl⟩)
      go_ret2
      exact ⟨ret_ib rfl rfl, rfl⟩
    · rw [if_neg (by decide), if_neg (by decide)]
      go_enter Try.func12, Try.ntmps12
      go_wp2_with (go_at_call 10; refine (rreg_any _ _ _ _ _ h0 h1 (by omega) (by omega)).mono ?_; rintro e w' ⟨rfl, rfl⟩)
      go_ret2
      exact ⟨ret_ib rfl rfl, rfl⟩
    · rw [if_neg (by decide), if_pos rfl]
      cases carry
      · go_enter Try.func12, Try.ntmps12
        go_wp2
        go_ret2
        exact ⟨ret_ib (by first | rfl | (simp; omega)) (by first | rfl | exact beq_eq_decide _ _), rfl⟩
      · go_enter Try.func12, Try.ntmps12
        go_wp2
        go_ret2
        exact ⟨ret_ib (by first | rfl | (simp; omega) | omega) (by first | rfl | exact beq_eq_decide _ _), rfl⟩
  · rw [if_neg z]
    have c1 : 0 < (m : Int) := by omega
    have z1 : decide (0 < (m : Int)) = true := decide_eq_true c1
    have hq := Lib.hid (show q % 4 = q by omega)
    go_enter Try.func12, Try.ntmps12
    go_wp2_with (go_at_call 10; refine (rreg_any _ _ _ _ _ h0 h1 (by omega) (by omega)).mono ?_; rintro e w' ⟨rfl, rfl⟩)
    go_ret2
    refine ⟨ret_ib ?_ ?_, rfl⟩ <;> rw [hq.out, show m % 256 = m by omega]
set_option maxHeartbeats 1000000 in
theorem rturned_any (x n : Int) (carry : Bool) (w : World) (h0 : 0 ≤ x) (h1 : x < 4294967296) :
    Calls Try.prog 14 #[.int .u32 x, .int .i64 n, .bool carry] w fun e w' => e = .returned (.tuple #[.int .u32 (reg 3 (x % 256) (2 * (n % 16).toNat) carry).1, .bool (reg 3 (x % 256) (2 * (n % 16).toNat) carry).2]) ∧ w = w' := by
  have e1 : Go.bits .and .i64 n 15 = (((n % 16).toNat : Nat) : Int) := by rw [and15]; omega
  have hm : (n % 16).toNat < 16 := by omega
  generalize (n % 16).toNat = m at *
  go_enter Try.func14, Try.ntmps14
  go_wp2_with (go_at_call 10; refine (rreg_any _ _ _ _ _ (by omega) (by omega) (by omega) (by omega)).mono ?_; rintro e w' ⟨rfl, rfl⟩)
  go_ret2
  refine ⟨ret_ib ?_ ?_, rfl⟩ <;> rw [show 2 * m % 256 = 2 * m by omega]

/-! ### the laws -/
set_option maxHeartbeats 1000000 in
theorem awake_any (w : World) : Calls Try.prog 8 #[] w fun e w' => e = .returned (.bool true) ∧ w = w' := by
  have f1 : (reg 0 1 32 false).1 = 0 := by decide +kernel
  have f2 : (reg 0 1 32 false).2 = true := by decide +kernel
  have f3 : (imm 3 1 0 true).1 = 2147483648 := by decide +kernel
  have f4 : (imm 3 1 0 true).2 = true := by decide +kernel
  have f5 : (reg 3 1 2 false).1 = 1073741824 := by decide +kernel
  have f6 : (reg 3 1 2 false).2 = false := by decide +kernel
  go_enter Try.func8, Try.ntmps8
  go_wp2_with (first
    | (go_at_call 9; refine (reg_any _ _ _ _ _ (by omega) (by omega) (by omega) (by omega)).mono ?_; rintro e w' ⟨rfl, rfl⟩)
    | (go_at_call 11; refine (imm_any _ _ _ _ _ (by omega) (by omega)).mono ?_; rintro e w' ⟨rfl, rfl⟩)
    | (go_at_call 13; refine (turned_any _ _ _ _ (by omega) (by omega)).mono ?_; rintro e w' ⟨rfl, rfl⟩))
  go_ret
  exact ⟨rfl, rfl⟩
set_option maxHeartbeats 1000000 in
theorem regs_law (kind x n n' : Int) (carry : Bool) (_ : (Lit.int .i64 kind).wf = true) (hx : (Lit.int .u32 x).wf = true) (hn : (Lit.int .u32 n).wf = true) (_ : (Lit.int .i64 n').wf = true) (w : World) :
    Calls Try.prog 3 #[.agg #[.int .i64 kind, .int .u32 x, .int .u32 n, .int .i64 n', .bool carry]] w fun e w' => e = .returned (.bool true) ∧ Below w.heap.size w w' := by
  obtain ⟨x0, x1⟩ := bounds_u32 hx
  obtain ⟨n0, n1⟩ := bounds_u32 hn
  clear hx hn
  go_enter Try.func3, Try.ntmps3
  go_wp2_with fail
  go_quiet (fail)
  go_wp2_with (first
    | (go_at_call 8; refine (awake_any _).mono ?_; rintro e w' ⟨rfl, rfl⟩)
    | (go_at_call 9; refine (reg_any _ _ _ _ _ (by omega) (by omega) (by omega) (by omega)).mono ?_; rintro e w' ⟨rfl, rfl⟩)
    | (go_at_call 10; refine (rreg_any _ _ _ _ _ (by omega) (by omega) (by omega) (by omega)).mono ?_; rintro e w' ⟨rfl, rfl⟩))
  go_ret
  exact ⟨rfl, below_dn ((Below.refl _ _).alloc (Nat.le_refl _) _) _⟩
set_option maxHeartbeats 1000000 in
theorem imms_law (kind x n' n : Int) (carry : Bool) (_ : (Lit.int .i64 kind).wf = true) (hx : (Lit.int .u32 x).wf = true) (_ : (Lit.int .u32 n').wf = true) (_ : (Lit.int .i64 n).wf = true) (w : World) :
    Calls Try.prog 4 #[.agg #[.int .i64 kind, .int .u32 x, .int .u32 n', .int .i64 n, .bool carry]] w fun e w' => e = .returned (.bool true) ∧ Below w.heap.size w w' := by
  obtain ⟨x0, x1⟩ := bounds_u32 hx
  clear hx
  go_enter Try.func4, Try.ntmps4
  go_wp2_with (first
    | (go_at_call 8; refine (awake_any _).mono ?_; rintro e w' ⟨rfl, rfl⟩)
    | (go_at_call 11; refine (imm_any _ _ _ _ _ (by omega) (by omega)).mono ?_; rintro e w' ⟨rfl, rfl⟩)
    | (go_at_call 12; refine (rimm_any _ _ _ _ _ (by omega) (by omega)).mono ?_; rintro e w' ⟨rfl, rfl⟩)
    | (go_at_call 13; refine (turned_any _ _ _ _ (by omega) (by omega)).mono ?_; rintro e w' ⟨rfl, rfl⟩)
    | (go_at_call 14; refine (rturned_any _ _ _ _ (by omega) (by omega)).mono ?_; rintro e w' ⟨rfl, rfl⟩))
  go_ret
  exact ⟨rfl, (Below.refl _ _).alloc (Nat.le_refl _) _⟩
/-- A shift whose amount and answer are told. -/
theorem reg_at (kind q x n : Int) (m : Nat) (carry : Bool) (A : Int) (C : Bool) (w : World) (h0 : 0 ≤ x) (h1 : x < 4294967296) (hn : n = (m : Int)) (hm : m < 256) (hk : kind % 4 = q) (h : reg q x m carry = (A, C)) :
    Calls Try.prog 9 #[.int .i64 kind, .int .u32 x, .int .u32 n, .bool carry] w fun e w' => e = .returned (.tuple #[.int .u32 A, .bool C]) ∧ w = w' := by
  have := reg_any kind x n carry w h0 h1 (by omega) (by omega)
  rw [hk, show (n % 256).toNat = m by omega, h] at this
  exact this
set_option maxHeartbeats 1000000 in
theorem steps_law (kind x n n' : Int) (carry : Bool) (_ : (Lit.int .i64 kind).wf = true) (hx : (Lit.int .u32 x).wf = true) (hn : (Lit.int .u32 n).wf = true) (_ : (Lit.int .i64 n').wf = true) (w : World) :
    Calls Try.prog 5 #[.agg #[.int .i64 kind, .int .u32 x, .int .u32 n, .int .i64 n', .bool carry]] w fun e w' => e = .returned (.bool true) ∧ Below w.heap.size w w' := by
  obtain ⟨x0, x1⟩ := bounds_u32 hx
  obtain ⟨n0, n1⟩ := bounds_u32 hn
  clear hx hn
  obtain ⟨m, e1⟩ : ∃ m : Nat, n % 254 = (m : Int) := ⟨(n % 254).toNat, by omega⟩
  have hm : m < 254 := by omega
  have hq : kind % 4 = 0 ∨ kind % 4 = 1 ∨ kind % 4 = 2 ∨ kind % 4 = 3 := by omega
  obtain ⟨A, C, hA⟩ : ∃ A C, reg (kind % 4) x (m + 1) carry = (A, C) := ⟨_, _, rfl⟩
  obtain ⟨B, D, hB⟩ : ∃ B D, reg (kind % 4) x (m + 1 + 1) carry = (B, D) := ⟨_, _, rfl⟩
  have hS := reg_succ x0 (by omega) (kind % 4) hq (m + 1) carry
  rw [hA, hB] at hS
  have hC : reg (kind % 4) A 1 C = (B, D) := hS.symm
  have bA := reg_bound x0 (by omega) (kind % 4) (m + 1) carry
  rw [hA] at bA
  have R1 := Lib.hid (fun w => reg_at kind (kind % 4) x ((m : Int) + 1) (m + 1) carry A C w x0 (by omega) (by omega) (by omega) rfl hA)
  have R2 := Lib.hid (fun w => reg_at kind (kind % 4) A 1 1 C B D w bA.1 bA.2 (by omega) (by omega) rfl hC)
  have R3 := Lib.hid (fun w => reg_at kind (kind % 4) x ((m : Int) + 1 + 1) (m + 1 + 1) carry B D w x0 (by omega) (by omega) (by omega) rfl hB)
  have R4 := Lib.hid (fun w => reg_at kind (kind % 4) x ((m : Int) + 2) (m + 1 + 1) carry B D w x0 (by omega) (by omega) (by omega) rfl hB)
  clear hS hA hB hC bA hq
  go_enter Try.func5, Try.ntmps5
  go_wp2_with (first
    | (go_at_call 8; refine (awake_any _).mono ?_; rintro e w' ⟨rfl, rfl⟩)
    | (go_at_call 9; ((with_reducible refine (R1.out _).mono ?_); rintro e w' ⟨rfl, rfl⟩))
    | (go_at_call 9; ((with_reducible refine (R2.out _).mono ?_); rintro e w' ⟨rfl, rfl⟩))
    | (go_at_call 9; ((with_reducible refine (R3.out _).mono ?_); rintro e w' ⟨rfl, rfl⟩))
    | (go_at_call 9; ((with_reducible refine (R4.out _).mono ?_); rintro e w' ⟨rfl, rfl⟩)))
  go_ret
  exact ⟨rfl, (Below.refl _ _).alloc (Nat.le_refl _) _⟩
set_option maxHeartbeats 1000000 in
theorem round_law (x n : Int) (hx : (Lit.int .u32 x).wf = true) (hn : (Lit.int .u32 n).wf = true) (w : World) :
    Calls Try.prog 6 #[.int .u32 x, .int .u32 n] w fun e w' => e = .returned (.bool true) ∧ Below w.heap.size w w' := by
  obtain ⟨x0, x1⟩ := bounds_u32 hx
  obtain ⟨n0, n1⟩ := bounds_u32 hn
  clear hx hn
  obtain ⟨m, e1⟩ : ∃ m : Nat, n % 32 = (m : Int) := ⟨(n % 32).toNat, by omega⟩
  have hm : m < 32 := by omega
  obtain ⟨A, C, hA⟩ : ∃ A C, reg 3 x m false = (A, C) := ⟨_, _, rfl⟩
  obtain ⟨C1, hB⟩ : ∃ C1, reg 3 A ((32 - m) % 32) false = (x, C1) := ⟨_, by rw [← (round_back x0 (by omega) m hm), hA]⟩
  obtain ⟨C2, hC⟩ : ∃ C2, reg 3 x (m + 32) false = (A, C2) := ⟨(reg 3 x (m + 32) false).2, by rw [← show (reg 3 x (m + 32) false).1 = A by rw [round_more x0 (by omega) m hm, hA]]⟩
  obtain ⟨D, C3, hD⟩ : ∃ D C3, reg 0 x m false = (D, C3) := ⟨_, _, rfl⟩
  obtain ⟨C4, hE⟩ : ∃ C4, reg 1 D m false = (x % 2 ^ (32 - m), C4) := ⟨(reg 1 D m false).2, by rw [← show (reg 1 D m false).1 = x % 2 ^ (32 - m) by rw [← left_right x0 (by omega) m hm, hD]]⟩
  have bA := reg_bound x0 (by omega) 3 m false
  rw [hA] at bA
  have bD := reg_bound x0 (by omega) 0 m false
  rw [hD] at bD
  have R1 := Lib.hid (fun w => reg_at 3 3 x (m : Int) m false A C w x0 (by omega) (by omega) (by omega) rfl hA)
  have R2 := Lib.hid (fun w => reg_at 3 3 A (-(m : Int) % 32) ((32 - m) % 32) false x C1 w bA.1 bA.2 (by omega) (by omega) rfl hB)
  have R3 := Lib.hid (fun w => reg_at 3 3 x ((m : Int) + 32) (m + 32) false A C2 w x0 (by omega) (by omega) (by omega) rfl hC)
  have R4 := Lib.hid (fun w => reg_at 0 0 x (m : Int) m false D C3 w x0 (by omega) (by omega) (by omega) rfl hD)
  have R5 := Lib.hid (fun w => reg_at 1 1 D (m : Int) m false (x % 2 ^ (32 - m)) C4 w bD.1 bD.2 (by omega) (by omega) rfl hE)
  clear hA hB hC hD hE bA bD
  go_enter Try.func6, Try.ntmps6
  go_wp2_with (first
    | (go_at_call 8; refine (awake_any _).mono ?_; rintro e w' ⟨rfl, rfl⟩)
    | (go_at_call 9; ((with_reducible refine (R1.out _).mono ?_); rintro e w' ⟨rfl, rfl⟩))
    | (go_at_call 9; ((with_reducible refine (R2.out _).mono ?_); rintro e w' ⟨rfl, rfl⟩))
    | (go_at_call 9; ((with_reducible refine (R3.out _).mono ?_); rintro e w' ⟨rfl, rfl⟩))
    | (go_at_call 9; ((with_reducible refine (R4.out _).mono ?_); rintro e w' ⟨rfl, rfl⟩))
    | (go_at_call 9; ((with_reducible refine (R5.out _).mono ?_); rintro e w' ⟨rfl, rfl⟩)))
  go_ret
  refine ⟨ret_b ?_, Below.refl _ _⟩
  have p : (2 : Int) ^ (32 - m) ≤ 2 ^ 32 := by exact_mod_cast Nat.pow_le_pow_right (n := 2) (by decide) (show 32 - m ≤ 32 by omega)
  have p' : (0 : Int) < 2 ^ (32 - m) := pow2_pos _
  have e : ((2 : Int) ^ (32 - m) - 1) % 4294967296 = 2 ^ (32 - m) - 1 := by omega
  rw [e, and_mask_u32 x0 (by omega) (32 - m) (by omega)]
  exact beq_self_eq_true _
set_option maxHeartbeats 1000000 in
set_option maxRecDepth 100000 in
theorem times_law (x n : Int) (hx : (Lit.int .u32 x).wf = true) (hn : (Lit.int .u32 n).wf = true) (w : World) :
    Calls Try.prog 7 #[.int .u32 x, .int .u32 n] w fun e w' => e = .returned (.bool true) ∧ Below w.heap.size w w' := by
  obtain ⟨x0, x1⟩ := bounds_u32 hx
  obtain ⟨n0, n1⟩ := bounds_u32 hn
  clear hx hn
  obtain ⟨m, e1⟩ : ∃ m : Nat, n % 31 = (m : Int) := ⟨(n % 31).toNat, by omega⟩
  have hm : m < 31 := by omega
  have hx' : x < 4294967296 := by omega
  have hp : (2 : Int) ^ (m + 1) ≤ 2 ^ 31 := by exact_mod_cast Nat.pow_le_pow_right (n := 2) (by decide) (show m + 1 ≤ 31 by omega)
  have hA : reg 0 x (m + 1) false = (IntKind.u64.wrap (x * 2 ^ (m + 1)) % 4294967296, cy 0 x (m + 1)) := by
    have e : IntKind.u64.wrap (x * 2 ^ (m + 1)) % 4294967296 = x * 2 ^ (m + 1) % 4294967296 := by
      rw [wrap_u64]; generalize x * 2 ^ (m + 1) = y; omega
    simp only [reg, wd, show min (m + 1) 32 = m + 1 by omega, e, if_neg (show ¬ m + 1 = 0 by omega), if_pos]
  have hB : reg 1 x (m + 1) false = (x / 2 ^ (m + 1) % 4294967296, Go.bits .and .u32 (x / 2 ^ m) 1 == 1) := by
    obtain ⟨d0, d1⟩ := div_bound x0 hx' (m + 1)
    obtain ⟨d2, d3⟩ := div_bound x0 hx' m
    rw [and1u d2 d3, beq_eq_decide, Int.emod_eq_of_lt d0 d1]
    simp [reg, wd, cy, show min (m + 1) 32 = m + 1 by omega, show m + 1 ≤ 32 by omega]
  have hD : reg 2 x (m + 1) false = (sg x / 2 ^ (m + 1) % 4294967296, cy 2 x (m + 1)) := by simp [reg, wd, show min (m + 1) 32 = m + 1 by omega]
  obtain ⟨D, hD'⟩ : ∃ D, sg x / 2 ^ (m + 1) % 4294967296 = D := ⟨_, rfl⟩
  obtain ⟨C1, hC1⟩ : ∃ D, cy 0 x (m + 1) = D := ⟨_, rfl⟩
  obtain ⟨C3, hC3⟩ : ∃ D, cy 2 x (m + 1) = D := ⟨_, rfl⟩
  rw [hC1] at hA
  rw [hC3, hD'] at hD
  have R1 := Lib.hid (fun w => reg_at 0 0 x ((m : Int) + 1) (m + 1) false _ _ w x0 (by omega) (by omega) (by omega) rfl hA)
  have R2 := Lib.hid (fun w => reg_at 1 1 x ((m : Int) + 1) (m + 1) false _ _ w x0 (by omega) (by omega) (by omega) rfl hB)
  have R3 := Lib.hid (fun w => reg_at 2 2 x ((m : Int) + 1) (m + 1) false _ _ w x0 (by omega) (by omega) (by omega) rfl hD)
  have ED := Lib.hid hD'
  clear hA hB hD hD' hC1 hC3 hp
  go_enter Try.func7, Try.ntmps7
  go_wp2_with (first
    | (go_at_call 8; refine (awake_any _).mono ?_; rintro e w' ⟨rfl, rfl⟩)
    | (go_at_call 9; ((with_reducible refine (R1.out _).mono ?_); rintro e w' ⟨rfl, rfl⟩))
    | (go_at_call 9; ((with_reducible refine (R2.out _).mono ?_); rintro e w' ⟨rfl, rfl⟩))
    | (go_at_call 9; ((with_reducible refine (R3.out _).mono ?_); rintro e w' ⟨rfl, rfl⟩)))
  go_ret
  refine ⟨ret_b ?_, Below.refl _ _⟩
  rw [wrap32_sg x0 hx', ← ED.out, wrap32_sg (by omega) (by omega), sg_div x0 hx']
  exact beq_self_eq_true _
end Go.Proofs.Ytjojekhndafckaa.Sw
