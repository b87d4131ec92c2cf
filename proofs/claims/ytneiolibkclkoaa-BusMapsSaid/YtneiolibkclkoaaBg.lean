/- BusMaps, walked. -/
import Derived.Test.YtneiolibkclkoaaBf
import Derived.Deep.RegionHeld3
import Derived.ChangeKeysEq
import Derived.Laws.StructEq
namespace Go.Proofs.Ytneiolibkclkoaa.Bg
set_option linter.unusedVariables false
set_option linter.unusedSimpArgs false
open Go.RowKit Go.Proofs.Ytneiolibkclkoaa.Bt Go.Proofs.Ytneiolibkclkoaa.Wk Go.Proofs.Ytneiolibkclkoaa.Ba Go.Proofs.Ytneiolibkclkoaa.Bc Go.Proofs.Ytneiolibkclkoaa.Bd Go.Proofs.Ytneiolibkclkoaa.Be Go.Proofs.Ytneiolibkclkoaa.Bf

set_option maxHeartbeats 1000000 in
theorem arr3_same (d : Nat) (a b c : Int) (w : World) : (Op.equalIn (d + 2) 29 (.agg #[.int .i64 a, .int .i64 b, .int .i64 c]) (.agg #[.int .i64 a, .int .i64 b, .int .i64 c])).run Try.prog w = .ok true w := by
  have hu : Try.prog.underlying 29 = some (.array 3 3) := by kernel_rfl
  have hz : Try.prog.cellsOf 3 = 1 := by kernel_rfl
  obtain ⟨i, hi⟩ : ∃ i, Try.prog.info? 3 = some i := ⟨_, rfl⟩
  rw [run_equalIn_array (P := Try.prog) (w := w) (d + 1) _ _ hu hi, hz]
  simp only [show List.range 3 = [0, 1, 2] from rfl, Op.eqItems]
  go_simp
set_option maxHeartbeats 1000000 in
theorem waits_same (v0 v1 v2 v3 v4 v5 v6 : Int) (v7 : Bool) (w : World) : (Op.equalIn 10000 31 (.agg #[Value.int .i64 v0, Value.int .i64 v1, Value.int .i64 v2, Value.int .i64 v3, Value.int .i64 v4, Value.int .i64 v5, Value.int .i64 v6, Value.bool v7]) (.agg #[Value.int .i64 v0, Value.int .i64 v1, Value.int .i64 v2, Value.int .i64 v3, Value.int .i64 v4, Value.int .i64 v5, Value.int .i64 v6, Value.bool v7])).run Try.prog w = .ok true w := by
  have A := fun a b c w => arr3_same 9997 a b c w
  rw [run_equalIn_agg (P := Try.prog) w 9999 31 _ _ (by kernel_rfl) (by kernel_rfl)]
  go_simp
set_option maxHeartbeats 4000000 in
theorem maps_law (addr x width cl : Int) (h1 : (Lit.int .u32 addr).wf = true) (h2 : (Lit.int .u16 x).wf = true) (h3 : (Lit.int .i64 width).wf = true) (h4 : (Lit.int .i64 cl).wf = true) (w : World) :
    Calls Try.prog 3 #[.agg #[.int .u32 addr, .int .u16 x, .int .i64 width, .int .i64 cl]] w fun e w' => e = .returned (.bool true) ∧ Below w.heap.size w w' := by
  obtain ⟨a0, a1⟩ := bounds_u32 h1
  obtain ⟨x0, x1⟩ := bounds_u16 h2
  have A0 := Lib.hid (fun w => awake_any w)
  have M1 := Lib.hid (fun w => map_any addr a0 (by omega) w)
  have M2 := Lib.hid (fun w => ref_map_any addr a0 (by omega) w)
  have K1 := Lib.hid (fun w => control_any x x0 (by omega) w)
  have K2 := Lib.hid (fun w => ref_control_any x x0 (by omega) w)
  have C1 := Lib.hid (fun w => cost_any x addr width cl a0 (by omega) w)
  have C2 := Lib.hid (fun w => ref_cost_any x addr width cl a0 (by omega) w)
  clear h1 h2 h3 h4 a0 a1 x0 x1
  unfold waits at *
  generalize (mapped addr).1 = r at *
  generalize (mapped addr).2 = q at *
  generalize costW x addr width cl = cc at *
  generalize pick4 (x / 4 % 4) = v0 at *
  generalize pick4 (x / 32 % 4) = v1 at *
  generalize pick4 (x / 256 % 4) = v2 at *
  generalize sec (x / 16) 2 = v3 at *
  generalize sec (x / 128) 4 = v4 at *
  generalize sec (x / 1024) 8 = v5 at *
  generalize pick4 (x % 4) = v6 at *
  generalize (x / 16384 % 2 == 1) = v7 at *
  go_enter Try.func3, Try.ntmps3
  go_wp2_with fail
  go_quiet (fail)
  go_wp2_with fail
  refine (A0.out _).mono ?_
  rintro e w1 ⟨rfl, hb1⟩
  go_wp2_with fail
  refine (M1.out _).mono ?_
  rintro e w1' ⟨rfl, rfl⟩
  go_wp2_with fail
  refine (M2.out _).mono ?_
  rintro e w1' ⟨rfl, rfl⟩
  go_wp2_with fail
  refine (K1.out _).mono ?_
  rintro e w2 ⟨rfl, hb2⟩
  go_wp2_with fail
  refine (K2.out _).mono ?_
  rintro e w3 ⟨rfl, hb3⟩
  go_wp2_with fail
  have E1 := alloc_old (Obj.cells #[Value.int .i64 v0, Value.int .i64 v1, Value.int .i64 v2, Value.int .i64 v3, Value.int .i64 v4, Value.int .i64 v5, Value.int .i64 v6, Value.bool v7] 33) (alloc_new w3 (Obj.cells #[Value.int .i64 v0, Value.int .i64 v1, Value.int .i64 v2, Value.int .i64 v3, Value.int .i64 v4, Value.int .i64 v5, Value.int .i64 v6, Value.bool v7] 31))
  have E2 := alloc_new (w3.alloc (Obj.cells #[Value.int .i64 v0, Value.int .i64 v1, Value.int .i64 v2, Value.int .i64 v3, Value.int .i64 v4, Value.int .i64 v5, Value.int .i64 v6, Value.bool v7] 31)) (Obj.cells #[Value.int .i64 v0, Value.int .i64 v1, Value.int .i64 v2, Value.int .i64 v3, Value.int .i64 v4, Value.int .i64 v5, Value.int .i64 v6, Value.bool v7] 33)
  have z1 := sizeAt E1
  have z2 := sizeAt E2
  have hb : Below w.heap.size w ((w3.alloc (Obj.cells #[Value.int .i64 v0, Value.int .i64 v1, Value.int .i64 v2, Value.int .i64 v3, Value.int .i64 v4, Value.int .i64 v5, Value.int .i64 v6, Value.bool v7] 31)).alloc (Obj.cells #[Value.int .i64 v0, Value.int .i64 v1, Value.int .i64 v2, Value.int .i64 v3, Value.int .i64 v4, Value.int .i64 v5, Value.int .i64 v6, Value.bool v7] 33)) := by
    have q1 := hb1.size
    have q2 := hb2.size
    have q3 := hb3.size
    simp at q1
    refine Below.alloc (Below.alloc (below_then (below_then (below_then (below_dn (Below.alloc (Below.refl _ _) (Nat.le_refl _) _) nq) hb1 (by simp)) hb2 (by omega)) hb3 (by omega)) (by omega) _) (by simp; omega) _
  have F1 := cellsAt E1
  have F2 := cellsAt E2
  clear E1 E2 hb1 hb2 hb3
  simp only [World.size_alloc] at F2
  replace z2 : w3.heap.size + 1 < ((w3.alloc (Obj.cells #[Value.int .i64 v0, Value.int .i64 v1, Value.int .i64 v2, Value.int .i64 v3, Value.int .i64 v4, Value.int .i64 v5, Value.int .i64 v6, Value.bool v7] 31)).alloc (Obj.cells #[Value.int .i64 v0, Value.int .i64 v1, Value.int .i64 v2, Value.int .i64 v3, Value.int .i64 v4, Value.int .i64 v5, Value.int .i64 v6, Value.bool v7] 33)).heap.size := by simp
  generalize (w3.alloc (Obj.cells #[Value.int .i64 v0, Value.int .i64 v1, Value.int .i64 v2, Value.int .i64 v3, Value.int .i64 v4, Value.int .i64 v5, Value.int .i64 v6, Value.bool v7] 31)).alloc (Obj.cells #[Value.int .i64 v0, Value.int .i64 v1, Value.int .i64 v2, Value.int .i64 v3, Value.int .i64 v4, Value.int .i64 v5, Value.int .i64 v6, Value.bool v7] 33) = W at *
  generalize w3.heap.size = B at *
  have EQ := fun w => waits_same v0 v1 v2 v3 v4 v5 v6 v7 w
  go_region_held3 (fun w' => (∀ j, w'.cell? ⟨B, j, none⟩ = (#[Value.int .i64 v0, Value.int .i64 v1, Value.int .i64 v2, Value.int .i64 v3, Value.int .i64 v4, Value.int .i64 v5, Value.int .i64 v6, Value.bool v7] : Array Value)[j]?) ∧ (∀ j, w'.cell? ⟨B + 1, j, none⟩ = (#[Value.int .i64 v0, Value.int .i64 v1, Value.int .i64 v2, Value.int .i64 v3, Value.int .i64 v4, Value.int .i64 v5, Value.int .i64 v6, Value.bool v7] : Array Value)[j]?) ∧ B + 1 < w'.heap.size ∧ Below w.heap.size w w')
    (first
      | (go_split_ands
         refine ⟨by assumption, by assumption, by assumption, ?_⟩
         first | assumption | exact below_d1 (by assumption))
      | (go_split_ands
         refine ⟨fun j => (hb4.cell (Nat.lt_of_succ_lt (by assumption))).trans (by simp [*]), fun j => (hb4.cell (by assumption)).trans (by simp [*]), Nat.lt_of_lt_of_le (by assumption) hb4.size, below_then (by assumption) hb4 ?_⟩
         exact (by assumption : Below w.heap.size w _).size))
    (first
      | (go_at_call 12; (refine (C1.out _).mono ?_; rintro e w4 ⟨rfl, hb4⟩))
      | (go_at_call 13; (refine (C2.out _).mono ?_; rintro e w4 ⟨rfl, hb4⟩)))
  go_wp2
  go_ret
  go_split_ands
  exact ⟨rfl, by assumption⟩
end Go.Proofs.Ytneiolibkclkoaa.Bg
