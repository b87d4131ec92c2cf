/- The status register in closed form. -/
import Derived.Test.YtmdjhdpgbpfedaaPBeamTurnsc
namespace Go.Proofs.Ytmdjhdpgbpfedaa.PBeamTurnsc
set_option linter.unusedVariables false
set_option linter.unusedSimpArgs false
open Go.RowKit Go.Proofs.Ytmdjhdpgbpfedaa.PBeamTurns Go.Proofs.YtmdjhdpgbpfedaaW.PrintWords Go.Proofs.YtmdjhdpgbpfedaaW.PrintLast Go.Proofs.Ytmdjhdpgbpfedaa.Bt
theorem status_eq (k : Nat) (a w : Int) (h : a ≤ 2251799813685248) (w0 : 0 ≤ w) (w1 : w < 65536) : beam_Status.f (k + 2) a w = some (stv (pos a) w) := by
  unfold beam_Status.f stv
  rw [at_eq a h, and_ff38 w0 w1]
  have h0 := pos_lo a
  generalize pos a = n at *
  simp only [Option.bind_some]
  have e : wrap64 (w / 256) = w / 256 := wrap64_id (by omega) (by omega)
  have x0 : 0 ≤ stx w := by unfold stx; omega
  have x1 : stx w < 65536 := by unfold stx; omega
  have x2 : stx w % 8 = 0 := by unfold stx; omega
  rw [show w / 256 * 256 + w / 8 % 8 * 8 = stx w from rfl]
  generalize stx w = x at *
  simp only [beam_Status.j0, beam_Status.j1]
  rw [e, or1 x0 x1 (by omega)]
  have o2 : Go.bits .or .u16 x 2 = x + 2 := or2 x0 x1 (by omega)
  have o3 : Go.bits .or .u16 (x + 1) 2 = x + 1 + 2 := or2 (by omega) (by omega) (by omega)
  have o4 : Go.bits .or .u16 x 4 = x + 4 := or4 x0 x1 (by omega)
  have o5 : Go.bits .or .u16 (x + 1) 4 = x + 1 + 4 := or4 (by omega) (by omega) (by omega)
  have o6 : Go.bits .or .u16 (x + 2) 4 = x + 2 + 4 := or4 (by omega) (by omega) (by omega)
  have o7 : Go.bits .or .u16 (x + 1 + 2) 4 = x + 1 + 2 + 4 := or4 (by omega) (by omega) (by omega)
  rw [o2, o3, o4, o5, o6, o7]
  simp only [decide_eq_true_eq, Bool.false_eq_true, if_false]
  repeat' split
  all_goals first | rfl | (congr 1; omega) | (exfalso; omega)
end Go.Proofs.Ytmdjhdpgbpfedaa.PBeamTurnsc
