/- Package bg, walked: colours, the mode, what is shown. -/
import Derived.Test.YtbljlnhgllbbdaaGm
namespace Go.Proofs.Ytbljlnhgllbbdaa.Gs
set_option linter.unusedVariables false
set_option linter.unusedSimpArgs false
open Go.RowKit Go.Proofs.Ytbljlnhgllbbdaa.Bt Go.Proofs.Ytbljlnhgllbbdaa.Wk Go.Proofs.Ytbljlnhgllbbdaa.Sg Go.Proofs.Ytbljlnhgllbbdaa.Gp Go.Proofs.Ytbljlnhgllbbdaa.Gm

set_option maxHeartbeats 2000000 in
theorem colour_any {w : World} {b : Nat} {T : TypeId} {s : Sc} (h : Sn w b T s) (k : Sok s) (n : Int) (r0 : -100000 ≤ n) (r1 : n ≤ 100000) :
    Calls Try.prog 36 #[.pointer (some ⟨b, 0, none⟩), .int .i64 n] w fun e w' => e = .returned (.int .u16 (colourV s n)) ∧ ∃ q, w' = w.drewN q := by
  have CP := h.pal
  unfold Mem.v at CP
  have HH := Lib.hid (half_any h.pa k.pa (2 * n) (by omega) (by omega))
  have hm := k.pa.hm
  unfold maxLen at hm
  have hb := halfV_bd k.pa (2 * n)
  have lt := h.lt
  unfold Mem.v at HH
  by_cases g : 0 ≤ n ∧ n ≤ (s.pa.n : Int)
  · have hv : colourV s n = halfV s.pa (2 * n) % 32768 := by unfold colourV; rw [if_pos g]
    rw [hv]
    have g1 := g.1
    have g2 := g.2
    clear g hv h k
    generalize halfV s.pa (2 * n) = x at *
    generalize s.pa.n = pn at *
    obtain ⟨x0, x1⟩ := hb
    have ga : Go.bits .and .u16 x 32767 = x % 32768 := by have := and_mask_u16 x0 x1 15 (by decide); simpa using this
    go_enter Try.func36, Try.ntmps36
    go_wp2_with fail
    refine HH.out.mono ?_
    rintro e w' ⟨rfl, q, rfl⟩
    go_wp2_with fail
    go_ret
    exact ⟨rfl, q, rfl⟩
  · have hv : colourV s n = 0 := by unfold colourV; rw [if_neg g]
    rw [hv]
    by_cases g0 : n < 0
    · clear g hv h k HH hb
      generalize s.pa.n = pn at *
      go_enter Try.func36, Try.ntmps36
      go_wp2
      go_ret
      exact ⟨rfl, 0, rfl⟩
    · have g1 : (s.pa.n : Int) < n := by omega
      have g2 : 0 ≤ n := by omega
      clear g hv h k HH hb g0
      generalize s.pa.n = pn at *
      go_enter Try.func36, Try.ntmps36
      go_wp2
      go_ret
      exact ⟨rfl, 0, rfl⟩
theorem mode_any {w : World} {b : Nat} {T : TypeId} {s : Sc} (h : Sn w b T s) (k : Sok s) :
    Calls Try.prog 15 #[.pointer (some ⟨b, 0, none⟩)] w fun e w' => e = .returned (.int .i64 (modeV s)) ∧ w = w' := by
  have C := h.ctl
  have c0 := k.c0
  have c1 := k.c1
  unfold modeV
  clear h k
  generalize s.ctl = x at *
  have ga : Go.bits .and .u16 x 7 = x % 8 := by have := and_mask_u16 c0 c1 3 (by decide); simpa using this
  have r0 : 0 ≤ x % 8 := by omega
  have r1 : x % 8 < 8 := by omega
  go_enter Try.func15, Try.ntmps15
  go_wp2
  go_ret
  exact ⟨rfl, rfl⟩
/-- By the mode's number. -/
def kindM (m i : Int) : Int :=
  if m = 0 then 1 else if m = 1 then (if i < 2 then 1 else if i = 2 then 2 else 0) else if m = 2 then (if i < 2 then 0 else 2) else if m ≤ 5 then (if i = 2 then 3 else 0) else 0
theorem kind_m (s : Sc) (i : Int) : kindV s i = kindM (modeV s) i := rfl
theorem ix (a0 a1 a2 a3 : Value) (w : World) : (Instr.index 61 (.agg #[a0, a1, a2, a3]) (.int .i64 0)).run Try.prog w = .ok a0 w ∧ (Instr.index 61 (.agg #[a0, a1, a2, a3]) (.int .i64 1)).run Try.prog w = .ok a1 w ∧ (Instr.index 61 (.agg #[a0, a1, a2, a3]) (.int .i64 2)).run Try.prog w = .ok a2 w ∧ (Instr.index 61 (.agg #[a0, a1, a2, a3]) (.int .i64 3)).run Try.prog w = .ok a3 w := ⟨by kernel_rfl, by kernel_rfl, by kernel_rfl, by kernel_rfl⟩
set_option maxHeartbeats 8000000 in
theorem kind_any {w : World} {b : Nat} {T : TypeId} {s : Sc} (h : Sn w b T s) (k : Sok s) {i : Int} (i0 : 0 ≤ i) (i4 : i < 4) :
    Calls Try.prog 17 #[.pointer (some ⟨b, 0, none⟩), .int .i64 i] w fun e w' => e = .returned (.int .i64 (kindV s i)) ∧ w = w' := by
  have M := mode_any h k
  rw [kind_m]
  have m0 : 0 ≤ modeV s := by unfold modeV; omega
  have m8 : modeV s < 8 := by unfold modeV; omega
  clear h k
  generalize modeV s = m at *
  have MH := Lib.hid M
  clear M
  have I0 := fun (a0 a1 a2 a3 : Value) (w : World) => (ix a0 a1 a2 a3 w).1
  have I1 := fun (a0 a1 a2 a3 : Value) (w : World) => (ix a0 a1 a2 a3 w).2.1
  have I2 := fun (a0 a1 a2 a3 : Value) (w : World) => (ix a0 a1 a2 a3 w).2.2.1
  have I3 := fun (a0 a1 a2 a3 : Value) (w : World) => (ix a0 a1 a2 a3 w).2.2.2
  have mc : m = 0 ∨ m = 1 ∨ m = 2 ∨ m = 3 ∨ m = 4 ∨ m = 5 ∨ m = 6 ∨ m = 7 := by omega
  have ic : i = 0 ∨ i = 1 ∨ i = 2 ∨ i = 3 := by omega
  clear m0 m8 i0 i4
  rcases mc with rfl | rfl | rfl | rfl | rfl | rfl | rfl | rfl <;> rcases ic with rfl | rfl | rfl | rfl
  all_goals
    go_enter Try.func17, Try.ntmps17
    go_wp2_with (go_at_call 15; ((with_reducible refine MH.out.mono ?_); rintro e w' ⟨rfl, rfl⟩))
    go_ret
    exact ⟨rfl, rfl⟩
end Go.Proofs.Ytbljlnhgllbbdaa.Gs
