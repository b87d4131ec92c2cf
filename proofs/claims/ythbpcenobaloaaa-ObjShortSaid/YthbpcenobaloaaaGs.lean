/- Package bg, walked: colours, the mode, what is shown. -/
import Derived.Test.YthbpcenobaloaaaGm
namespace Go.Proofs.Ythbpcenobaloaaa.Gs
set_option linter.unusedVariables false
set_option linter.unusedSimpArgs false
open Go.RowKit Go.Proofs.Ythbpcenobaloaaa.Bt Go.Proofs.Ythbpcenobaloaaa.Wk Go.Proofs.Ythbpcenobaloaaa.Sg Go.Proofs.Ythbpcenobaloaaa.Gp Go.Proofs.Ythbpcenobaloaaa.Gm

set_option maxHeartbeats 2000000 in
theorem colour_any {w : World} {b : Nat} {T : TypeId} {s : Sc} (h : Sn w b T s) (k : Sok s) (n : Int) (r0 : -100000 ≤ n) (r1 : n ≤ 100000) :
    Calls Try.prog 25 #[.pointer (some ⟨b, 0, none⟩), .int .i64 n] w fun e w' => e = .returned (.int .u16 (colourV s n)) ∧ ∃ q, w' = w.drewN q := by
  have CP := h.pal
  unfold Mem.v at CP
  have HH := Lib.hid (half_any h.pa k.pa (2 * n) (by omega) (by omega))
  have hm := k.pa.hm
  unfold maxLen at hm
  have hb := halfV_bd k.pa (2 * n)
  have lt := h.lt
  unfold Mem.v at HH
  by_cases g : 0 ≤ n ∧ n ≤ (s.pa.n : Int)
  · have hv : colourV s n = halfV s.pa (2 * n) % 32768 := by unfold colourV; rw [if_pos g]
    rw [hv]
    have g1 := g.1
    have g2 := g.2
    clear g hv h k
    generalize halfV s.pa (2 * n) = x at *
    generalize s.pa.n = pn at *
    obtain ⟨x0, x1⟩ := hb
    have ga : Go.bits .and .u16 x 32767 = x % 32768 := by have := and_mask_u16 x0 x1 15 (by decide); simpa using this
    go_enter Try.func25, Try.ntmps25
    go_wp2_with fail
    refine HH.out.mono ?_
    rintro e w' ⟨rfl, q, rfl⟩
    go_wp2_with fail
    go_ret
    exact ⟨rfl, q, rfl⟩
  · have hv : colourV s n = 0 := by unfold colourV; rw [if_neg g]
    rw [hv]
    by_cases g0 : n < 0
    · clear g hv h k HH hb
      generalize s.pa.n = pn at *
      go_enter Try.func25, Try.ntmps25
      go_wp2
      go_ret
      exact ⟨rfl, 0, rfl⟩
    · have g1 : (s.pa.n : Int) < n := by omega
      have g2 : 0 ≤ n := by omega
      clear g hv h k HH hb g0
      generalize s.pa.n = pn at *
      go_enter Try.func25, Try.ntmps25
      go_wp2
      go_ret
      exact ⟨rfl, 0, rfl⟩
theorem mode_any {w : World} {b : Nat} {T : TypeId} {s : Sc} (h : Sn w b T s) (k : Sok s) :
    Calls Try.prog 35 #[.pointer (some ⟨b, 0, none⟩)] w fun e w' => e = .returned (.int .i64 (modeV s)) ∧ w = w' := by
  have C := h.ctl
  have c0 := k.c0
  have c1 := k.c1
  unfold modeV
  clear h k
  generalize s.ctl = x at *
  have ga : Go.bits .and .u16 x 7 = x % 8 := by have := and_mask_u16 c0 c1 3 (by decide); simpa using this
  have r0 : 0 ≤ x % 8 := by omega
  have r1 : x % 8 < 8 := by omega
  go_enter Try.func35, Try.ntmps35
  go_wp2
  go_ret
  exact ⟨rfl, rfl⟩
end Go.Proofs.Ythbpcenobaloaaa.Gs
