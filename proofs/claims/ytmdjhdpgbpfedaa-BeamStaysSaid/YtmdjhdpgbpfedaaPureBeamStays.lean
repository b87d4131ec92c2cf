/- BeamStays: from one moment to the next nothing changes, and nothing is asked for: for every cycle and every word written. -/
import Derived.Test.YtmdjhdpgbpfedaaPBeamStaysx
import Derived.Test.YtmdjhdpgbpfedaaPBeamStayss
namespace Go.Proofs.Ytmdjhdpgbpfedaa.Pure
set_option linter.unusedVariables false
set_option linter.unusedSimpArgs false
open Go.RowKit Go.Proofs.Ytmdjhdpgbpfedaa.PBeamStays Go.Proofs.YtmdjhdpgbpfedaaW.PrintWords Go.Proofs.YtmdjhdpgbpfedaaW.PrintLast Go.Proofs.Ytmdjhdpgbpfedaa.Bt Go.Proofs.Ytmdjhdpgbpfedaa.PBeamStaysc

/-- Between a cycle and its next moment: the same line, on the same side of the blank, and no moment. -/
theorem between {x t : Int} (h0 : 0 ≤ x) (h1 : x < t) (h2 : t < nxt x) (w : Int) : stv t w = stv x w ∧ asv t w = 0 := by
  have e : nxt x = if x % 1232 < 960 then x - x % 1232 + 960 else x - x % 1232 + 1232 := rfl
  have hl : t / 1232 = x / 1232 := by rw [e] at h2; split at h2 <;> omega
  have hb : (960 ≤ t % 1232) ↔ (960 ≤ x % 1232) := by rw [e] at h2; split at h2 <;> omega
  have hz : ¬ t % 1232 = 0 := by rw [e] at h2; split at h2 <;> omega
  have hn : ¬ t % 1232 = 960 := by rw [e] at h2; split at h2 <;> omega
  constructor
  · unfold stv; rw [hl]; simp only [hb]
  · unfold asv; rw [if_neg hz, if_neg (fun h => hn h.1)]
theorem loop (x w : Int) (h0 : 0 ≤ x) (hx : x ≤ 1125899906842624) (w0 : 0 ≤ w) (w1 : w < 65536) (d : Nat) : ∀ (k : Nat) (t : Int), x < t → t ≤ nxt x → nxt x - t = d → d + 3 ≤ k → cameolaw18_BeamStays.l0 k x w (nxt x) t = some true := by
  have hb : nxt x ≤ x + 1232 := by unfold nxt; split <;> omega
  induction d with
  | zero =>
    intro k t h1 h2 hd hk
    obtain ⟨k, rfl⟩ : ∃ m, k = m + 1 := ⟨k - 1, by omega⟩
    simp only [cameolaw18_BeamStays.l0]
    rw [if_neg (by omega)]
  | succ d ih =>
    intro k t h1 h2 hd hk
    obtain ⟨k, rfl⟩ : ∃ m, k = m + 3 + 1 := ⟨k - 4, by omega⟩
    obtain ⟨b1, b2⟩ := between h0 h1 (by omega) w
    simp only [cameolaw18_BeamStays.l0]
    rw [if_pos (by omega), status_eq (k + 1) t w (by omega) w0 w1, status_eq (k + 1) x w (by omega) w0 w1, asks_eq (k + 2) t w (by omega) w0 w1, pos_of h0, pos_of (show 0 ≤ t by omega), b1, b2]
    simp only [Option.bind_some, if_true]
    rw [wrap64_id (by omega) (by omega)]
    exact ih (k + 3) (t + 1) (by omega) (by omega) (by omega) (by omega)
theorem BeamStays : cameolaw18_BeamStays.Pure := by
  intro a w ha hw
  have hw := bounds_u16 hw
  refine ⟨1240, ?_⟩
  unfold cameolaw18_BeamStays.f
  rw [awake_eq]
  simp only [Option.bind_some, if_true, cameolaw18_BeamStays.j0]
  by_cases c : a < 0
  · rw [if_pos c]
  · rw [if_neg c]
    by_cases c2 : a > 1125899906842624
    · rw [if_pos (decide_eq_true c2)]
    · rw [if_neg (by simpa using c2), next_eq a (by omega), pos_of (by omega)]
      have hb : a < nxt a ∧ nxt a ≤ a + 1232 := by unfold nxt; split <;> omega
      simp only [Option.bind_some, cameolaw18_BeamStays.j1]
      rw [if_neg (by omega), wrap64_id (by omega) (by omega), if_neg (by simp; omega), wrap64_id (by omega) (by omega)]
      exact loop a w (by omega) (by omega) (by omega) (by omega) (nxt a - (a + 1)).toNat 1238 (a + 1) (by omega) (by omega) (by omega) (by omega)
end Go.Proofs.Ytmdjhdpgbpfedaa.Pure
