/- Package bus and the document's answer, walked: the control word. -/
import Derived.Test.YtneiolibkclkoaaBa
namespace Go.Proofs.Ytneiolibkclkoaa.Bc
set_option linter.unusedVariables false
set_option linter.unusedSimpArgs false
open Go.RowKit Go.Proofs.Ytneiolibkclkoaa.Bt Go.Proofs.Ytneiolibkclkoaa.Wk Go.Proofs.Ytneiolibkclkoaa.Ba

def pick4 (k : Int) : Int := if k = 0 then 4 else if k = 1 then 3 else if k = 2 then 2 else 8
theorem and_h {a : Int} (h0 : 0 ≤ a) (h1 : a < 65536) (i : Nat) (hi : i ≤ 16) (n : Int) (hn : (2 : Int) ^ i - 1 = n) (m : Int) (hm : (2 : Int) ^ i = m) : Go.bits .and .u16 a n = a % m := by
  rw [← hn, and_mask_u16 h0 h1 i hi, hm]
theorem at4 (a : Int) (h0 : 0 ≤ a) (h1 : a < 4) : (#[Value.int .i64 4, Value.int .i64 3, Value.int .i64 2, Value.int .i64 8] : Array Value)[a.toNat]? = some (.int .i64 (pick4 a)) := by
  have : a = 0 ∨ a = 1 ∨ a = 2 ∨ a = 3 := by omega
  rcases this with rfl | rfl | rfl | rfl <;> rfl
theorem at4' (a : Int) (h0 : 0 ≤ a) (h1 : a < 4) (h : a.toNat < [Value.int .i64 4, Value.int .i64 3, Value.int .i64 2, Value.int .i64 8].length) : ([Value.int .i64 4, Value.int .i64 3, Value.int .i64 2, Value.int .i64 8] : List Value)[a.toNat]'h = .int .i64 (pick4 a) := by
  have : a = 0 ∨ a = 1 ∨ a = 2 ∨ a = 3 := by omega
  rcases this with rfl | rfl | rfl | rfl <;> rfl
def sec (b v : Int) : Int := if b % 2 = 1 then 1 else v
theorem sec_yes {b v : Int} (h : (b % 2 == 1) = true) : sec b v = 1 := if_pos (by simpa using h)
theorem sec_no {b v : Int} (h : (b % 2 == 1) = false) : sec b v = v := if_neg (by simpa using h)
/-- The waits of a control word. -/
def waits (x : Int) : Array Value := #[.int .i64 (pick4 (x / 4 % 4)), .int .i64 (pick4 (x / 32 % 4)), .int .i64 (pick4 (x / 256 % 4)), .int .i64 (sec (x / 16) 2), .int .i64 (sec (x / 128) 4), .int .i64 (sec (x / 1024) 8), .int .i64 (pick4 (x % 4)), .bool (x / 16384 % 2 == 1)]
set_option maxHeartbeats 4000000 in
theorem control_any (x : Int) (h0 : 0 ≤ x) (h1 : x < 65536) (w : World) :
    Calls Try.prog 10 #[.int .u16 x] w fun e w' => e = .returned (.agg (waits x)) ∧ Below w.heap.size w w' := by
  have g1 : Go.bits .and .u16 x 3 = x % 4 := and_h h0 h1 2 (by decide) _ (by decide) _ (by decide)
  have g2 : Go.bits .and .u16 (x / 4) 3 = x / 4 % 4 := and_h (by omega) (by omega) 2 (by decide) _ (by decide) _ (by decide)
  have g3 : Go.bits .and .u16 (x / 32) 3 = x / 32 % 4 := and_h (by omega) (by omega) 2 (by decide) _ (by decide) _ (by decide)
  have g4 : Go.bits .and .u16 (x / 256) 3 = x / 256 % 4 := and_h (by omega) (by omega) 2 (by decide) _ (by decide) _ (by decide)
  have g5 : Go.bits .and .u16 (x / 16) 1 = x / 16 % 2 := and_h (by omega) (by omega) 1 (by decide) _ (by decide) _ (by decide)
  have g6 : Go.bits .and .u16 (x / 128) 1 = x / 128 % 2 := and_h (by omega) (by omega) 1 (by decide) _ (by decide) _ (by decide)
  have g7 : Go.bits .and .u16 (x / 1024) 1 = x / 1024 % 2 := and_h (by omega) (by omega) 1 (by decide) _ (by decide) _ (by decide)
  have g8 : Go.bits .and .u16 (x / 16384) 1 = x / 16384 % 2 := and_h (by omega) (by omega) 1 (by decide) _ (by decide) _ (by decide)
  have m0 : 0 ≤ x / 32 % 4 := by omega
  have m1 : x / 32 % 4 < 4 := by omega
  have n0 : 0 ≤ x / 256 % 4 := by omega
  have n1 : x / 256 % 4 < 4 := by omega
  have i0 : 0 ≤ x % 4 := by omega
  have i1 : x % 4 < 4 := by omega
  have j0 : 0 ≤ x / 4 % 4 := by omega
  have j1 : x / 4 % 4 < 4 := by omega
  have e0 := at4' (x % 4) (by omega) (by omega)
  have e1 := at4' (x / 4 % 4) (by omega) (by omega)
  have e2 := at4' (x / 32 % 4) (by omega) (by omega)
  have e3 := at4' (x / 256 % 4) (by omega) (by omega)
  go_enter Try.func10, Try.ntmps10
  go_wp2
  refine wp_loop_rounds 4 ?_
  rw [rounds_succ]
  go_wp2
  all_goals
    rw [rounds_succ]
    go_wp2
  all_goals
    rw [rounds_succ]
    go_wp2
  all_goals
    rw [rounds_succ]
    go_wp2
  all_goals
    clear g1 g2 g3 g4 g5 g6 g7 g8 m0 m1 n0 n1 i0 i1 j0 j1 e0 e1 e2 e3
    simp only [beq_iff_eq, beq_eq_false_iff_ne, ne_eq] at *
    refine bodyPost_ret (v := .agg (waits x)) (by simp [results, Try.results10, go_sem, waits, sec]; omega) rfl ⟨rfl, ?_⟩
    exact Below.alloc (Below.alloc (Below.alloc (Below.alloc (Below.refl _ _) (by simp) _) (by simp) _) (by simp; omega) _) (by simp; omega) _
end Go.Proofs.Ytneiolibkclkoaa.Bc
