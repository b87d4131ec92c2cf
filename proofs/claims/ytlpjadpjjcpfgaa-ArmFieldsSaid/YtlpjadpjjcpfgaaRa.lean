/- Package arm, walked: fields and bits of a word. -/
import Derived.Test.YtlpjadpjjcpfgaaProg
import Derived.Test.YtlpjadpjjcpfgaaBt
import Derived.Test.YtlpjadpjjcpfgaaWk
import Derived.Test.YtlpjadpjjcpfgaaRp
import Derived.WalkLawsBesides
import Derived.Outline
import Derived.Lib.Hide
import Derived.Deep.QuietTactic
import Derived.BigQuiet
import Derived.RegionTactic
import Derived.ChangeAlike
import Derived.LoopTactic
import Derived.StillTailTactics
namespace Go.Proofs.Ytlpjadpjjcpfgaa.Ra
set_option linter.unusedVariables false
set_option linter.unusedSimpArgs false
open Go.RowKit Go.Proofs.Ytlpjadpjjcpfgaa.Bt Go.Proofs.Ytlpjadpjjcpfgaa.Wk Go.Proofs.Ytlpjadpjjcpfgaa.Rp

theorem div_in (x : Int) (i : Nat) (h0 : 0 ≤ x) (h1 : x < 4294967296) : 0 ≤ x / 2 ^ i ∧ x / 2 ^ i < 4294967296 := by
  have p : (0 : Int) < 2 ^ i := Int.pow_pos (by decide)
  refine ⟨Int.ediv_nonneg h0 (Int.le_of_lt p), Int.lt_of_le_of_lt (Int.ediv_le_self _ h0) h1⟩
set_option maxHeartbeats 1000000 in
theorem field_any (x : Int) (i n : Nat) (h0 : 0 ≤ x) (h1 : x < 4294967296) (hi : i < 32) (hn : n < 8) (w : World) :
    Calls Try.prog 10 #[.int .u32 x, .int .i64 i, .int .i64 n] w fun e w' => e = .returned (.int .i64 (fl x i n)) ∧ w' = w.drew := by
  obtain ⟨d0, d1⟩ := div_in x i h0 h1
  have g := and_mask_u32 d0 d1 n (by omega)
  have p0 : (0 : Int) < 2 ^ n := Int.pow_pos (by decide)
  have p1 : (2 : Int) ^ n ≤ 2 ^ 7 := by exact_mod_cast Nat.pow_le_pow_right (n := 2) (by decide) (show n ≤ 7 by omega)
  have r0 : 0 ≤ x / 2 ^ i % 2 ^ n := Int.emod_nonneg _ (by omega)
  have r1 : x / 2 ^ i % 2 ^ n < 2 ^ n := Int.emod_lt_of_pos _ p0
  have s1 : IntKind.u32.wrap (2 ^ n) = 2 ^ n := by rw [wrap_u32]; omega
  have s2 : IntKind.u32.wrap (2 ^ n - 1) = 2 ^ n - 1 := by rw [wrap_u32]; omega
  have s3 : IntKind.i64.wrap (x / 2 ^ i % 2 ^ n) = x / 2 ^ i % 2 ^ n := by rw [IntKind.wrap_i64]; omega
  have i0 : 0 ≤ (i : Int) := by omega
  have n0 : 0 ≤ (n : Int) := by omega
  unfold fl
  go_enter Try.func10, Try.ntmps10
  go_wp2
  go_still (by kernel_rfl)
  go_wp2
  go_ret
  exact ⟨rfl, rfl⟩
set_option maxHeartbeats 1000000 in
theorem bit_any (x : Int) (i : Nat) (h0 : 0 ≤ x) (h1 : x < 4294967296) (hi : i < 32) (w : World) :
    Calls Try.prog 11 #[.int .u32 x, .int .i64 i] w fun e w' => e = .returned (.bool (tb x i)) ∧ w = w' := by
  obtain ⟨d0, d1⟩ := div_in x i h0 h1
  have g : Go.bits .and .u32 (x / 2 ^ i) 1 = x / 2 ^ i % 2 := by have := and_mask_u32 d0 d1 1 (by decide); simpa using this
  unfold tb
  go_enter Try.func11, Try.ntmps11
  go_wp2
  go_ret
  exact ⟨rfl, rfl⟩
end Go.Proofs.Ytlpjadpjjcpfgaa.Ra
