/- BeamTurns: a picture later all is the same; a line's place counts up with the cycles: for every cycle and every word written. -/
import Derived.Test.YtmdjhdpgbpfedaaPBeamTurnsx
import Derived.Test.YtmdjhdpgbpfedaaPBeamTurnss
namespace Go.Proofs.Ytmdjhdpgbpfedaa.Pure
set_option linter.unusedVariables false
set_option linter.unusedSimpArgs false
open Go.RowKit Go.Proofs.Ytmdjhdpgbpfedaa.PBeamTurns Go.Proofs.YtmdjhdpgbpfedaaW.PrintWords Go.Proofs.YtmdjhdpgbpfedaaW.PrintLast Go.Proofs.Ytmdjhdpgbpfedaa.Bt Go.Proofs.Ytmdjhdpgbpfedaa.PBeamTurnsc

theorem later (x : Int) (h0 : 0 ≤ x) (w : Int) : stv (x + 280896) w = stv x w ∧ asv (x + 280896) w = asv x w ∧ nxt (x + 280896) = nxt x + 280896 := by
  have hl : (x + 280896) / 1232 % 228 = x / 1232 % 228 := by omega
  have hi : (x + 280896) % 1232 = x % 1232 := by omega
  refine ⟨by unfold stv; rw [hl, hi], by unfold asv; rw [hl, hi], ?_⟩
  unfold nxt; rw [hi]; split <;> omega
theorem BeamTurns : cameolaw18_BeamTurns.Pure := by
  intro a w ha hw
  have hw := bounds_u16 hw
  refine ⟨10, ?_⟩
  unfold cameolaw18_BeamTurns.f
  rw [awake_eq]
  simp only [Option.bind_some, if_true, cameolaw18_BeamTurns.j0]
  by_cases c : a < 0
  · rw [if_pos c]
  · rw [if_neg c]
    by_cases c2 : a > 1125899906842624
    · rw [if_pos (decide_eq_true c2)]
    · rw [if_neg (by simpa using c2)]
      obtain ⟨l1, l2, l3⟩ := later a (by omega) w
      rw [wrap64_id (n := a + 280896) (by omega) (by omega), wrap64_id (n := a + 1) (by omega) (by omega)]
      rw [at_eq a (by omega), at_eq (a + 280896) (by omega), at_eq (a + 1) (by omega), pos_of (show 0 ≤ a by omega), pos_of (show 0 ≤ a + 280896 by omega), pos_of (show 0 ≤ a + 1 by omega)]
      simp only [Option.bind_some, cameolaw18_BeamTurns.j1]
      rw [status_eq 6 a w (by omega) (by omega) (by omega), status_eq 6 (a + 280896) w (by omega) (by omega) (by omega), asks_eq 7 a w (by omega) (by omega) (by omega), asks_eq 7 (a + 280896) w (by omega) (by omega) (by omega), next_eq a (by omega), next_eq (a + 280896) (by omega), pos_of (show 0 ≤ a by omega), pos_of (show 0 ≤ a + 280896 by omega), l1, l2, l3]
      have hb : nxt a ≤ a + 1232 := by unfold nxt; split <;> omega
      have hb' : 0 ≤ nxt a := by unfold nxt; split <;> omega
      have hl : (a + 280896) / 1232 % 228 = a / 1232 % 228 := by omega
      have hi : (a + 280896) % 1232 = a % 1232 := by omega
      simp only [Option.bind_some, if_true]
      rw [hl, hi, Int.tmod_eq_emod_of_nonneg (show 0 ≤ a by omega), wrap64_id (n := a / 1232 % 228 * 1232) (by omega) (by omega), wrap64_id (n := a / 1232 % 228 * 1232 + a % 1232) (by omega) (by omega)]
      have hf : a / 1232 % 228 * 1232 + a % 1232 = a % 280896 := by omega
      by_cases c3 : (a + 1) % 1232 = 0
      · rw [if_pos c3, c3, show wrap64 (-1 + 1) = 0 by decide +kernel, wrap64_id (n := a / 1232 % 228 + 1) (by omega) (by omega), Int.tmod_eq_emod_of_nonneg (show 0 ≤ a / 1232 % 228 + 1 by omega), wrap64_id (n := nxt a + 280896) (by omega) (by omega), if_pos hf, if_pos rfl, if_pos (by omega)]; simp
      · rw [if_neg c3, wrap64_id (n := a % 1232 + 1) (by omega) (by omega), wrap64_id (n := nxt a + 280896) (by omega) (by omega), if_pos hf, if_pos (by omega), if_pos (by omega)]; simp
end Go.Proofs.Ytmdjhdpgbpfedaa.Pure
