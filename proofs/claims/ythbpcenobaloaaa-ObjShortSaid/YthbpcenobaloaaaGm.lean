/- Package bg, walked: the memories' bytes, colours. -/
import Derived.Test.YthbpcenobaloaaaProg
import Derived.Test.YthbpcenobaloaaaGp
import Derived.WalkLawsBesides
import Derived.WalkSpells
import Derived.Outline
import Derived.Lib.Hide
import Derived.Deep.QuietTactic
import Derived.BigQuiet
import Derived.BigRegion
import Derived.RegionTactic
import Derived.ChangeAlike
import Derived.LoopTactic
import Derived.StillTailTactics
import Derived.Deep.DeepCutAuto
import Derived.Deep.CutBlock
namespace Go.Proofs.Ythbpcenobaloaaa.Gm
set_option linter.unusedVariables false
set_option linter.unusedSimpArgs false
open Go.RowKit Go.Proofs.Ythbpcenobaloaaa.Bt Go.Proofs.Ythbpcenobaloaaa.Wk Go.Proofs.Ythbpcenobaloaaa.Sg Go.Proofs.Ythbpcenobaloaaa.Gp

theorem or_u16 {a b : Int} (a0 : 0 ≤ a) (a1 : a < 256) (b0 : 0 ≤ b) (b1 : b < 256) : Go.bits .or .u16 a (b * 256) = a + 256 * b := by
  obtain ⟨n, rfl⟩ := Int.eq_ofNat_of_zero_le a0
  obtain ⟨m, rfl⟩ := Int.eq_ofNat_of_zero_le b0
  rw [show ((m : Int) * 256) = ((m * 256 : Nat) : Int) by simp, or_nat .u16 ws_u16 n (m * 256) (by simp [IntKind.bits]; omega) (by simp [IntKind.bits]; omega), lor_add]
  · simp; omega
  · have s := land_split 8 n (m * 256)
    have e1 : m * 256 % 2 ^ 8 = 0 := by omega
    have e2 : n / 2 ^ 8 = 0 := by omega
    rw [e1, e2, Nat.and_zero, Nat.zero_and] at s
    simpa using s
set_option maxHeartbeats 2000000 in
theorem half_any {w : World} {m : Mem} (h : Rd w m) (k : Mok m) (a : Int) (r0 : -9223372036854775808 ≤ a) (r1 : a ≤ 9223372036854775807) :
    Calls Try.prog 33 #[m.v, .int .i64 a] w fun e w' => e = .returned (.int .u16 (halfV m a)) ∧ ∃ n, w' = w.drewN n := by
  have hm := k.hm
  unfold maxLen at hm
  unfold Mem.v
  by_cases g : 0 ≤ a ∧ a < (m.n : Int) - 1
  · obtain ⟨j, rfl⟩ := Int.eq_ofNat_of_zero_le g.1
    obtain ⟨ad, e1, l1, c1⟩ := h.at_ (k := j) (by omega)
    obtain ⟨ad', e2, l2, c2⟩ := h.at_ (k := j + 1) (by omega)
    obtain rfl : ad = ad' := Option.some.inj (e1.symm.trans e2)
    have b1 := k.hf j (by omega)
    have b2 := k.hf (j + 1) (by omega)
    have hv : halfV m (j : Int) = m.f j + 256 * m.f (j + 1) := by unfold halfV; rw [if_pos g]; rfl
    rw [hv, e1]
    have g2 := g.2
    clear hv e1 e2 h k
    generalize m.f j = x at *
    generalize m.f (j + 1) = y at *
    generalize m.n = n at *
    obtain ⟨x0, x1⟩ := b1
    obtain ⟨y0, y1⟩ := b2
    have O := or_u16 x0 x1 y0 y1
    have i0 : (0 : Int) ≤ (j : Int) := by omega
    have i1 : (j : Int) < (n : Int) := by omega
    have i2 : (j : Int) + 1 < (n : Int) := by omega
    have i3 : (n : Int) ≤ 9223372036854775807 := by omega
    have i4 : (0 : Int) ≤ (j : Int) + 1 := by omega
    rw [add_cellAt] at c2
    simp only [cellAt] at c2
    have w1 : IntKind.i64.wrap ((j : Int) + 1) = (j : Int) + 1 := by rw [IntKind.wrap_i64]; omega
    have w2 : IntKind.u16.wrap (y * 256) = y * 256 := by rw [wrap_u16]; omega
    have w3 : IntKind.u16.wrap x = x := by rw [wrap_u16]; omega
    have w4 : IntKind.u16.wrap y = y := by rw [wrap_u16]; omega
    clear g
    go_enter Try.func33, Try.ntmps33
    go_wp2_with fail
    go_quiet (fail)
    go_wp2
    go_ret
    exact ⟨rfl, _, rfl⟩
  · have hv : halfV m a = 0 := by unfold halfV; rw [if_neg g]
    rw [hv]
    by_cases g0 : a < 0
    · clear g hv h k
      generalize m.n = n at *
      go_enter Try.func33, Try.ntmps33
      go_wp2
      go_ret
      exact ⟨rfl, 0, rfl⟩
    · have g1 : (m.n : Int) - 1 ≤ a := by omega
      have g2 : 0 ≤ a := by omega
      clear g hv h k g0
      generalize m.n = n at *
      go_enter Try.func33, Try.ntmps33
      go_wp2
      go_ret
      exact ⟨rfl, 0, rfl⟩
end Go.Proofs.Ythbpcenobaloaaa.Gm
