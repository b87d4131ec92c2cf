/- Package bus and the document's answer, walked: the map. -/
import Derived.Test.YtneiolibkclkoaaProg
import Derived.Test.YtneiolibkclkoaaBt
import Derived.Test.YtneiolibkclkoaaWk
import Derived.WalkLawsBesides
import Derived.Outline
import Derived.Lib.Hide
import Derived.Deep.QuietTactic
import Derived.BigQuiet
import Derived.RegionTactic
import Derived.ChangeAlike
namespace Go.Proofs.Ytneiolibkclkoaa.Ba
set_option linter.unusedVariables false
set_option linter.unusedSimpArgs false
open Go.RowKit Go.Proofs.Ytneiolibkclkoaa.Bt Go.Proofs.Ytneiolibkclkoaa.Wk

/-- The map: by the address's highest byte and its other bits. -/
def mp (top low addr : Int) : Int × Int :=
  if top = 0 then (if low < 16384 then (9, low) else (0, 0))
  else if top = 2 then (1, low % 262144)
  else if top = 3 then (2, low % 32768)
  else if top = 4 then (if low < 1024 then (3, low) else (0, 0))
  else if top = 5 then (4, low % 1024)
  else if top = 6 then (if 98304 ≤ low % 131072 then (5, low % 131072 - 32768) else (5, low % 131072))
  else if top = 7 then (6, low % 1024)
  else if 8 ≤ top ∧ top ≤ 13 then (7, addr % 33554432)
  else if top = 14 ∨ top = 15 then (8, low % 65536)
  else (0, 0)
def mapped (addr : Int) : Int × Int := mp (addr / 16777216) (addr % 16777216) addr
theorem and_m {a : Int} (i : Nat) (hi : i < 63) (n : Int) (hn : (2 : Int) ^ i - 1 = n) (m : Int) (hm : (2 : Int) ^ i = m) : Go.bits .and .i64 a n = a % m := by
  rw [← hn, and_mask_i64 a i hi, hm]
theorem and_u {a : Int} (h0 : 0 ≤ a) (h1 : a < 4294967296) (i : Nat) (hi : i ≤ 32) (n : Int) (hn : (2 : Int) ^ i - 1 = n) (m : Int) (hm : (2 : Int) ^ i = m) : Go.bits .and .u32 a n = a % m := by
  rw [← hn, and_mask_u32 h0 h1 i hi, hm]
theorem ret_t {a b c d : Int} (h1 : a = b) (h2 : c = d) : Ending.returned (.tuple #[.int .i64 a, .int .i64 c]) = Ending.returned (.tuple #[.int .i64 b, .int .i64 d]) := by rw [h1, h2]
set_option maxHeartbeats 1000000 in
theorem map_any (addr : Int) (h0 : 0 ≤ addr) (h1 : addr < 4294967296) (w : World) :
    Calls Try.prog 8 #[.int .u32 addr] w fun e w' => e = .returned (.tuple #[.int .i64 (mapped addr).1, .int .i64 (mapped addr).2]) ∧ w = w' := by
  have g1 : Go.bits .and .u32 addr 16777215 = addr % 16777216 := and_u h0 h1 24 (by decide) _ (by decide) _ (by decide)
  have g2 : Go.bits .and .u32 addr 33554431 = addr % 33554432 := and_u h0 h1 25 (by decide) _ (by decide) _ (by decide)
  have l0 : 0 ≤ addr % 16777216 := by omega
  have l1 : addr % 16777216 < 16777216 := by omega
  have g3 : Go.bits .and .i64 (addr % 16777216) 262143 = addr % 16777216 % 262144 := and_m 18 (by decide) _ (by decide) _ (by decide)
  have g4 : Go.bits .and .i64 (addr % 16777216) 32767 = addr % 16777216 % 32768 := and_m 15 (by decide) _ (by decide) _ (by decide)
  have g5 : Go.bits .and .i64 (addr % 16777216) 1023 = addr % 16777216 % 1024 := and_m 10 (by decide) _ (by decide) _ (by decide)
  have g6 : Go.bits .and .i64 (addr % 16777216) 131071 = addr % 16777216 % 131072 := and_m 17 (by decide) _ (by decide) _ (by decide)
  have g7 : Go.bits .and .i64 (addr % 16777216) 65535 = addr % 16777216 % 65536 := and_m 16 (by decide) _ (by decide) _ (by decide)
  have c3 : wrap64 (addr % 16777216 % 131072 - 32768) = addr % 16777216 % 131072 - 32768 := wrap64_id (by omega) (by omega)
  unfold mapped
  go_enter Try.func8, Try.ntmps8
  go_wp2
  all_goals
    go_ret2
    refine ⟨ret_t ?_ ?_, rfl⟩
    all_goals
      clear g1 g2 g3 g4 g5 g6 g7 c3
      try simp only [beq_iff_eq, beq_eq_false_iff_ne, ne_eq] at *
      unfold mp
      repeat' split
      all_goals first | rfl | omega
set_option maxHeartbeats 1000000 in
theorem ref_map_any (addr : Int) (h0 : 0 ≤ addr) (h1 : addr < 4294967296) (w : World) :
    Calls Try.prog 9 #[.int .u32 addr] w fun e w' => e = .returned (.tuple #[.int .i64 (mapped addr).1, .int .i64 (mapped addr).2]) ∧ w = w' := by
  have l0 : 0 ≤ addr % 16777216 := by omega
  have l1 : addr % 16777216 < 16777216 := by omega
  have c3 : wrap64 (addr % 16777216 % 131072 - 32768) = addr % 16777216 % 131072 - 32768 := wrap64_id (by omega) (by omega)
  unfold mapped
  go_enter Try.func9, Try.ntmps9
  go_wp2
  all_goals
    go_ret2
    refine ⟨ret_t ?_ ?_, rfl⟩
    all_goals
      clear c3
      try simp only [beq_iff_eq, beq_eq_false_iff_ne, ne_eq] at *
      unfold mp
      repeat' split
      all_goals first | rfl | omega
end Go.Proofs.Ytneiolibkclkoaa.Ba
