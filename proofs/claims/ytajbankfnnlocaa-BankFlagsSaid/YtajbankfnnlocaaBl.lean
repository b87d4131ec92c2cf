/- BankFlags, walked. -/
import Derived.Test.YtajbankfnnlocaaBg
import Derived.ChangeKeysEq
import Derived.Laws.StructEq
import Derived.Deep.RegionHeld3
namespace Go.Proofs.Ytajbankfnnlocaa.Bl
set_option linter.unusedVariables false
set_option linter.unusedSimpArgs false
open Go.RowKit Go.Proofs.Ytajbankfnnlocaa.Bt Go.Proofs.Ytajbankfnnlocaa.Wk Go.Proofs.Ytajbankfnnlocaa.Sg Go.Proofs.Ytajbankfnnlocaa.Ba Go.Proofs.Ytajbankfnnlocaa.Bb Go.Proofs.Ytajbankfnnlocaa.Bc Go.Proofs.Ytajbankfnnlocaa.Bd Go.Proofs.Ytajbankfnnlocaa.Be Go.Proofs.Ytajbankfnnlocaa.Bf Go.Proofs.Ytajbankfnnlocaa.Bg

/-! ### plain -/
theorem with_low (x : Int) (n z c v : Bool) : withV x n z c v % 268435456 = x % 268435456 := by
  unfold withV
  cases n <;> cases z <;> cases c <;> cases v <;> simp [b2i] <;> omega
theorem with_in (x : Int) (n z c v : Bool) : 0 ≤ withV x n z c v ∧ withV x n z c v < 4294967296 := by
  unfold withV
  cases n <;> cases z <;> cases c <;> cases v <;> simp [b2i] <;> omega
theorem bit_is {a : Int} {b : Bool} (h : a = b2i b 1) : (a == 1) = b := by
  cases b <;> simp [b2i] at h <;> subst h <;> rfl
theorem flags_with (x : Int) (n z c v : Bool) : flagsV (withV x n z c v) = #[.bool n, .bool z, .bool c, .bool v] := by
  have e1 : withV x n z c v / 2147483648 % 2 = b2i n 1 := by
    unfold withV
    cases n <;> cases z <;> cases c <;> cases v <;> simp [b2i] <;> omega
  have e2 : withV x n z c v / 1073741824 % 2 = b2i z 1 := by
    unfold withV
    cases n <;> cases z <;> cases c <;> cases v <;> simp [b2i] <;> omega
  have e3 : withV x n z c v / 536870912 % 2 = b2i c 1 := by
    unfold withV
    cases n <;> cases z <;> cases c <;> cases v <;> simp [b2i] <;> omega
  have e4 : withV x n z c v / 268435456 % 2 = b2i v 1 := by
    unfold withV
    cases n <;> cases z <;> cases c <;> cases v <;> simp [b2i] <;> omega
  unfold flagsV
  rw [bit_is e1, bit_is e2, bit_is e3, bit_is e4]
theorem with_flags (x : Int) (h0 : 0 ≤ x) (h1 : x < 4294967296) : withV x (x / 2147483648 % 2 == 1) (x / 1073741824 % 2 == 1) (x / 536870912 % 2 == 1) (x / 268435456 % 2 == 1) = x := by
  have b : ∀ (a p : Int), a = 0 ∨ a = 1 → b2i (a == 1) p = a * p := fun a p h => by rcases h with rfl | rfl <;> simp [b2i]
  unfold withV
  rw [b _ _ (by omega), b _ _ (by omega), b _ _ (by omega), b _ _ (by omega)]
  omega
theorem flags_same (a b c d : Bool) (w : World) : (Op.equalIn 10000 49 (.agg #[.bool a, .bool b, .bool c, .bool d]) (.agg #[.bool a, .bool b, .bool c, .bool d])).run Try.prog w = .ok true w := by
  rw [run_equalIn_agg (P := Try.prog) w 9999 49 _ _ (by kernel_rfl) (by kernel_rfl)]
  go_simp
/-! ### a bank that is none -/
set_option maxHeartbeats 1000000 in
theorem set_none (i x : Int) (w : World) : Calls Try.prog 11 #[.pointer none, .int .i64 i, .int .u32 x] w fun e w' => e = .returned (.tuple #[]) ∧ w = w' := by
  go_enter Try.func11, Try.ntmps11
  go_wp2
  go_end0
  exact ⟨rfl, rfl⟩
set_option maxHeartbeats 1000000 in
theorem setStatus_none (x : Int) (w : World) : Calls Try.prog 10 #[.pointer none, .int .u32 x] w fun e w' => e = .returned (.tuple #[]) ∧ w = w' := by
  go_enter Try.func10, Try.ntmps10
  go_wp2
  refine bodyPost_ret (results_none rfl _ _ _) rfl ?_
  exact ⟨rfl, rfl⟩
set_option maxHeartbeats 1000000 in
theorem setSaved_none (x : Int) (w : World) : Calls Try.prog 12 #[.pointer none, .int .u32 x] w fun e w' => e = .returned (.tuple #[]) ∧ w = w' := by
  go_enter Try.func12, Try.ntmps12
  go_wp2
  refine bodyPost_ret (results_none rfl _ _ _) rfl ?_
  exact ⟨rfl, rfl⟩
set_option maxHeartbeats 1000000 in
theorem setUser_none (i x : Int) (w : World) : Calls Try.prog 30 #[.pointer none, .int .i64 i, .int .u32 x] w fun e w' => e = .returned (.tuple #[]) ∧ w = w' := by
  go_enter Try.func30, Try.ntmps30
  go_wp2
  refine bodyPost_ret (results_none rfl _ _ _) rfl ?_
  exact ⟨rfl, rfl⟩
set_option maxHeartbeats 1000000 in
theorem enter_none (m x : Int) (w : World) : Calls Try.prog 27 #[.pointer none, .int .u32 m, .int .u32 x] w fun e w' => e = .returned (.tuple #[]) ∧ w = w' := by
  go_enter Try.func27, Try.ntmps27
  go_wp2
  refine bodyPost_ret (results_none rfl _ _ _) rfl ?_
  exact ⟨rfl, rfl⟩
set_option maxHeartbeats 1000000 in
theorem get_none (i : Int) (w : World) : Calls Try.prog 13 #[.pointer none, .int .i64 i] w fun e w' => e = .returned (.int .u32 0) ∧ w = w' := by
  go_enter Try.func13, Try.ntmps13
  go_wp2
  go_ret
  exact ⟨rfl, rfl⟩
set_option maxHeartbeats 1000000 in
theorem user_none (i : Int) (w : World) : Calls Try.prog 15 #[.pointer none, .int .i64 i] w fun e w' => e = .returned (.int .u32 0) ∧ w = w' := by
  go_enter Try.func15, Try.ntmps15
  go_wp2
  go_ret
  exact ⟨rfl, rfl⟩
set_option maxHeartbeats 1000000 in
theorem status_none (w : World) : Calls Try.prog 22 #[.pointer none] w fun e w' => e = .returned (.int .u32 0) ∧ w = w' := by
  go_enter Try.func22, Try.ntmps22
  go_wp2
  go_ret
  exact ⟨rfl, rfl⟩
set_option maxHeartbeats 1000000 in
theorem saved_none (w : World) : Calls Try.prog 14 #[.pointer none] w fun e w' => e = .returned (.int .u32 0) ∧ w = w' := by
  go_enter Try.func14, Try.ntmps14
  go_wp2
  go_ret
  exact ⟨rfl, rfl⟩
set_option maxHeartbeats 4000000 in
theorem flags_law (x : Int) (n z c v : Bool) (hx : (Lit.int .u32 x).wf = true) (w : World) :
    Calls Try.prog 7 #[.int .u32 x, .agg #[.bool n, .bool z, .bool c, .bool v]] w fun e w' => e = .returned (.bool true) ∧ Below w.heap.size w w' := by
  obtain ⟨x0, x1⟩ := bounds_u32 hx
  have x1 : x < 4294967296 := by omega
  obtain ⟨y0, y1⟩ := with_in x n z c v
  have W1 := Lib.hid (fun w => with_any x n z c v x0 x1 w)
  have W2 := Lib.hid (fun w => rwith_any x n z c v x0 x1 w)
  have F1 := Lib.hid (fun w => by have := flags_any (withV x n z c v) y0 y1 w; rw [flags_with] at this; exact this)
  have F2 := fun w => flags_any x x0 x1 w
  have F3 := fun w => rflags_any x x0 x1 w
  have W3 := fun w => with_any x (x / 2147483648 % 2 == 1) (x / 1073741824 % 2 == 1) (x / 536870912 % 2 == 1) (x / 268435456 % 2 == 1) x0 x1 w
  rw [with_flags x x0 x1] at W3
  unfold flagsV at F2 F3
  have g1 : Go.bits .and .u32 (withV x n z c v) 268435455 = x % 268435456 := by rw [← with_low x n z c v]; exact and_u y0 y1 28 (by decide) _ (by decide) _ (by decide)
  have g2 : Go.bits .and .u32 x 268435455 = x % 268435456 := and_u x0 x1 28 (by decide) _ (by decide) _ (by decide)
  generalize withV x n z c v = y at *
  generalize (x / 2147483648 % 2 == 1) = q1 at *
  generalize (x / 1073741824 % 2 == 1) = q2 at *
  generalize (x / 536870912 % 2 == 1) = q3 at *
  generalize (x / 268435456 % 2 == 1) = q4 at *
  have F2H := Lib.hid F2
  have F3H := Lib.hid F3
  have W3H := Lib.hid W3
  have E1 := fun w => flags_same n z c v w
  have E2 := fun w => flags_same q1 q2 q3 q4 w
  clear F2 F3 W3 hx
  go_enter Try.func7, Try.ntmps7
  go_wp2_with fail
  refine (awake_any _).mono ?_
  rintro e w1 ⟨rfl, hb1⟩
  have A1 := keep hb1 (alloc_new _ _)
  have B1 := below_then ((Below.refl _ _).alloc (Nat.le_refl _) _) hb1 (by simp)
  have c0 := cellsAt A1 0
  have c1 := cellsAt A1 1
  have c2 := cellsAt A1 2
  have c3 := cellsAt A1 3
  simp at c0 c1 c2 c3
  go_wp2_with fail
  refine (W1.out _).mono ?_
  rintro e w2 ⟨rfl, hb2⟩
  have A2 := keep hb2 A1
  have B2 := below_then B1 hb2 B1.size
  have c0 := cellsAt A2 0
  have c1 := cellsAt A2 1
  have c2 := cellsAt A2 2
  have c3 := cellsAt A2 3
  have s2 := sizeAt A2
  simp at c0 c1 c2 c3
  clear A1 B1 hb1 A2 hb2
  go_wp2_with (first
    | (go_at_call 11; (with_reducible refine (set_none _ _ _).mono ?_); rintro e w' ⟨rfl, rfl⟩)
    | (go_at_call 10; (with_reducible refine (setStatus_none _ _).mono ?_); rintro e w' ⟨rfl, rfl⟩)
    | (go_at_call 12; (with_reducible refine (setSaved_none _ _).mono ?_); rintro e w' ⟨rfl, rfl⟩)
    | (go_at_call 30; (with_reducible refine (setUser_none _ _ _).mono ?_); rintro e w' ⟨rfl, rfl⟩)
    | (go_at_call 27; (with_reducible refine (enter_none _ _ _).mono ?_); rintro e w' ⟨rfl, rfl⟩))
  go_region_held3 (fun w' => w'.cell? ⟨w.heap.size, 0, none⟩ = some (.bool n) ∧ w'.cell? ⟨w.heap.size, 1, none⟩ = some (.bool z) ∧ w'.cell? ⟨w.heap.size, 2, none⟩ = some (.bool c) ∧ w'.cell? ⟨w.heap.size, 3, none⟩ = some (.bool v) ∧ w.heap.size < w'.heap.size ∧ Below w.heap.size w w')
    (first
      | (go_split_ands
         refine ⟨by go_keep, by go_keep, by go_keep, by go_keep, ?_, ?_⟩
         · first | assumption | (simp; assumption)
         · first | assumption | exact below_d1 (by assumption))
      | (go_split_ands
         exact ⟨(hb3.cell (by assumption)).trans (by assumption), (hb3.cell (by assumption)).trans (by assumption), (hb3.cell (by assumption)).trans (by assumption), (hb3.cell (by assumption)).trans (by assumption), Nat.lt_of_lt_of_le (by assumption) hb3.size, below_then (by assumption) hb3 (Nat.le_of_lt (by assumption))⟩))
    (first
      | (go_at_call 28; ((with_reducible refine (F1.out _).mono ?_); rintro e w3 ⟨rfl, hb3⟩))
      | (go_at_call 28; ((with_reducible refine (F2H.out _).mono ?_); rintro e w3 ⟨rfl, hb3⟩))
      | (go_at_call 31; ((with_reducible refine (F3H.out _).mono ?_); rintro e w3 ⟨rfl, hb3⟩))
      | (go_at_call 29; ((with_reducible refine (W3H.out _).mono ?_); rintro e w3 ⟨rfl, hb3⟩))
      | (go_at_call 32; ((with_reducible refine (W2.out _).mono ?_); rintro e w3 ⟨rfl, hb3⟩))
      | (go_at_call 13; ((with_reducible refine (get_none _ _).mono ?_); rintro e w3 ⟨rfl, rfl⟩))
      | (go_at_call 22; ((with_reducible refine (status_none _).mono ?_); rintro e w3 ⟨rfl, rfl⟩))
      | (go_at_call 14; ((with_reducible refine (saved_none _).mono ?_); rintro e w3 ⟨rfl, rfl⟩))
      | (go_at_call 15; ((with_reducible refine (user_none _ _).mono ?_); rintro e w3 ⟨rfl, rfl⟩)))
  go_wp2
  go_ret
  refine ⟨rfl, ?_⟩
  go_split_ands
  assumption
end Go.Proofs.Ytajbankfnnlocaa.Bl
