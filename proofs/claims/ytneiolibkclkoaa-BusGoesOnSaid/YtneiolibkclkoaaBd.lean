/- The document's control word, walked. -/
import Derived.Test.YtneiolibkclkoaaBc
import Derived.Deep.RegionWith
import Derived.Deep.DeepCutAuto
namespace Go.Proofs.Ytneiolibkclkoaa.Bd
set_option linter.unusedVariables false
set_option linter.unusedSimpArgs false
open Go.RowKit Go.Proofs.Ytneiolibkclkoaa.Bt Go.Proofs.Ytneiolibkclkoaa.Wk Go.Proofs.Ytneiolibkclkoaa.Ba Go.Proofs.Ytneiolibkclkoaa.Bc

theorem bits_0 (x : Int) (h0 : 0 ≤ x) (h1 : x < 65536) (w : World) :
    Calls Try.prog 15 #[.int .u16 x, .int .i64 0, .int .i64 2] w fun e w' => e = .returned (.int .i64 (x % 4)) ∧ ∃ n, w' = w.drewN n := by
  go_enter Try.func15, Try.ntmps15
  go_wp2_with fail
  go_quiet (fail)
  go_wp2
  go_ret
  exact ⟨rfl, _, rfl⟩
theorem bits_14 (x : Int) (h0 : 0 ≤ x) (h1 : x < 65536) (w : World) :
    Calls Try.prog 15 #[.int .u16 x, .int .i64 14, .int .i64 1] w fun e w' => e = .returned (.int .i64 (x / 16384 % 2)) ∧ ∃ n, w' = w.drewN n := by
  go_enter Try.func15, Try.ntmps15
  go_wp2_with fail
  go_quiet (fail)
  go_wp2
  go_ret
  exact ⟨rfl, _, rfl⟩
theorem bits_2 (x : Int) (h0 : 0 ≤ x) (h1 : x < 65536) (w : World) :
    Calls Try.prog 15 #[.int .u16 x, .int .i64 2, .int .i64 2] w fun e w' => e = .returned (.int .i64 (x / 4 % 4)) ∧ ∃ n, w' = w.drewN n := by
  go_enter Try.func15, Try.ntmps15
  go_wp2_with fail
  go_quiet (fail)
  go_wp2
  go_ret
  exact ⟨rfl, _, rfl⟩
theorem bits_5 (x : Int) (h0 : 0 ≤ x) (h1 : x < 65536) (w : World) :
    Calls Try.prog 15 #[.int .u16 x, .int .i64 5, .int .i64 2] w fun e w' => e = .returned (.int .i64 (x / 32 % 4)) ∧ ∃ n, w' = w.drewN n := by
  go_enter Try.func15, Try.ntmps15
  go_wp2_with fail
  go_quiet (fail)
  go_wp2
  go_ret
  exact ⟨rfl, _, rfl⟩
theorem bits_8 (x : Int) (h0 : 0 ≤ x) (h1 : x < 65536) (w : World) :
    Calls Try.prog 15 #[.int .u16 x, .int .i64 8, .int .i64 2] w fun e w' => e = .returned (.int .i64 (x / 256 % 4)) ∧ ∃ n, w' = w.drewN n := by
  go_enter Try.func15, Try.ntmps15
  go_wp2_with fail
  go_quiet (fail)
  go_wp2
  go_ret
  exact ⟨rfl, _, rfl⟩
theorem bits_4 (x : Int) (h0 : 0 ≤ x) (h1 : x < 65536) (w : World) :
    Calls Try.prog 15 #[.int .u16 x, .int .i64 4, .int .i64 1] w fun e w' => e = .returned (.int .i64 (x / 16 % 2)) ∧ ∃ n, w' = w.drewN n := by
  go_enter Try.func15, Try.ntmps15
  go_wp2_with fail
  go_quiet (fail)
  go_wp2
  go_ret
  exact ⟨rfl, _, rfl⟩
theorem bits_7 (x : Int) (h0 : 0 ≤ x) (h1 : x < 65536) (w : World) :
    Calls Try.prog 15 #[.int .u16 x, .int .i64 7, .int .i64 1] w fun e w' => e = .returned (.int .i64 (x / 128 % 2)) ∧ ∃ n, w' = w.drewN n := by
  go_enter Try.func15, Try.ntmps15
  go_wp2_with fail
  go_quiet (fail)
  go_wp2
  go_ret
  exact ⟨rfl, _, rfl⟩
theorem bits_10 (x : Int) (h0 : 0 ≤ x) (h1 : x < 65536) (w : World) :
    Calls Try.prog 15 #[.int .u16 x, .int .i64 10, .int .i64 1] w fun e w' => e = .returned (.int .i64 (x / 1024 % 2)) ∧ ∃ n, w' = w.drewN n := by
  go_enter Try.func15, Try.ntmps15
  go_wp2_with fail
  go_quiet (fail)
  go_wp2
  go_ret
  exact ⟨rfl, _, rfl⟩
set_option maxHeartbeats 4000000 in
theorem ref_control_any (x : Int) (h0 : 0 ≤ x) (h1 : x < 65536) (w : World) :
    Calls Try.prog 11 #[.int .u16 x] w fun e w' => e = .returned (.agg (waits x)) ∧ Below w.heap.size w w' := by
  have m0 : 0 ≤ x / 32 % 4 := by omega
  have m1 : x / 32 % 4 < 4 := by omega
  have n0 : 0 ≤ x / 256 % 4 := by omega
  have n1 : x / 256 % 4 < 4 := by omega
  have i0 : 0 ≤ x % 4 := by omega
  have i1 : x % 4 < 4 := by omega
  have j0 : 0 ≤ x / 4 % 4 := by omega
  have j1 : x / 4 % 4 < 4 := by omega
  have e0 := at4' (x % 4) (by omega) (by omega)
  have e1 := at4' (x / 4 % 4) (by omega) (by omega)
  have e2 := at4' (x / 32 % 4) (by omega) (by omega)
  have e3 := at4' (x / 256 % 4) (by omega) (by omega)
  go_enter Try.func11, Try.ntmps11
  have D1 : ∀ (v : World) n o, (v.drewN n).alloc o = (v.alloc o).drewN n := fun _ _ _ => rfl
  have D2 : ∀ (v : World) o, v.drew.alloc o = (v.alloc o).drew := fun _ _ => rfl
  have D3 : ∀ (v : World) n a c, (v.drewN n).setCell a c = (v.setCell a c).drewN n := fun _ _ _ _ => rfl
  have D4 : ∀ (v : World) a c, v.drew.setCell a c = (v.setCell a c).drew := fun _ _ _ => rfl
  have P1 := fun w => bits_0 x h0 h1 w
  have P2 := fun w => bits_14 x h0 h1 w
  go_upto_region 2 with fail
  go_cut [4] from 6 to 14 (fun s wx => s = .pointer (some ⟨w.heap.size + 1 + 1, 0, none⟩) ∧ ∃ n, wx = (((w.alloc (Obj.cells #[Value.int .i64 0, Value.int .i64 0, Value.int .i64 0, Value.int .i64 0, Value.int .i64 0, Value.int .i64 0, Value.int .i64 0, Value.bool false] 33)).alloc (Obj.cells #[Value.int .i64 4, Value.int .i64 3, Value.int .i64 2, Value.int .i64 8] 3)).alloc (Obj.cells #[Value.int .i64 0, Value.int .i64 0, Value.int .i64 0, Value.int .i64 0, Value.int .i64 0, Value.int .i64 0, Value.int .i64 (pick4 (x % 4)), Value.bool (x / 16384 % 2 == 1)] 33)).drewN n)
  case first =>
    go_region_with (first | (go_at_call 15; (with_reducible refine (P1 _).mono ?_); rintro e w' ⟨rfl, n, rfl⟩) | (go_at_call 15; (with_reducible refine (P2 _).mono ?_); rintro e w' ⟨rfl, m, rfl⟩))
    all_goals
      go_wp2_with fail
      go_meet
      exact ⟨rfl, _, rfl⟩
  case rest =>
    obtain ⟨rfl, n, rfl⟩ := hcut
    have B2 := fun w => bits_2 x h0 h1 w
    have B5 := fun w => bits_5 x h0 h1 w
    have B8 := fun w => bits_8 x h0 h1 w
    have B4 := fun w => bits_4 x h0 h1 w
    have B7 := fun w => bits_7 x h0 h1 w
    have B10 := fun w => bits_10 x h0 h1 w
    clear P1 P2 h0 h1
    go_wp2_with (first | (go_at_call 15; (with_reducible refine (B2 _).mono ?_); rintro e w' ⟨rfl, n2, rfl⟩) | (go_at_call 15; (with_reducible refine (B5 _).mono ?_); rintro e w' ⟨rfl, n5, rfl⟩) | (go_at_call 15; (with_reducible refine (B8 _).mono ?_); rintro e w' ⟨rfl, n8, rfl⟩) | (go_at_call 15; (with_reducible refine (B4 _).mono ?_); rintro e w' ⟨rfl, n4, rfl⟩) | (go_at_call 15; (with_reducible refine (B7 _).mono ?_); rintro e w' ⟨rfl, n7, rfl⟩) | (go_at_call 15; (with_reducible refine (B10 _).mono ?_); rintro e w' ⟨rfl, n10, rfl⟩))
    all_goals
      clear m0 m1 n0 n1 i0 i1 j0 j1 e0 e1 e2 e3 D1 D2 D3 D4 B2 B5 B8 B4 B7 B10
      simp only [beq_iff_eq, beq_eq_false_iff_ne, ne_eq] at *
      refine bodyPost_ret (v := .agg (waits x)) (by simp [results, Try.results11, go_sem, waits, sec]; omega) rfl ⟨rfl, ?_⟩
      exact below_dn (Below.alloc (Below.alloc (Below.alloc (Below.refl _ _) (by simp) _) (by simp) _) (by simp; omega) _) _
end Go.Proofs.Ytneiolibkclkoaa.Bd
