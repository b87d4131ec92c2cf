/- ArmFields, walked. -/
import Derived.Test.YtlpjadpjjcpfgaaRm
import Derived.Test.YtlpjadpjjcpfgaaRn
namespace Go.Proofs.Ytlpjadpjjcpfgaa.Rj
set_option linter.unusedVariables false
set_option linter.unusedSimpArgs false
open Go.RowKit Go.Proofs.Ytlpjadpjjcpfgaa.Bt Go.Proofs.Ytlpjadpjjcpfgaa.Wk Go.Proofs.Ytlpjadpjjcpfgaa.Ra Go.Proofs.Ytlpjadpjjcpfgaa.Rp Go.Proofs.Ytlpjadpjjcpfgaa.Rb Go.Proofs.Ytlpjadpjjcpfgaa.Rf Go.Proofs.Ytlpjadpjjcpfgaa.Rl Go.Proofs.Ytlpjadpjjcpfgaa.Rm Go.Proofs.Ytlpjadpjjcpfgaa.Rn
theorem fields_law (x : Int) (hx : (Lit.int .u32 x).wf = true) (w : World) :
    Calls Try.prog 5 #[.int .u32 x] w fun e w' => e = .returned (.bool true) ∧ Below w.heap.size w w' := by
  obtain ⟨x0, x1⟩ := bounds_u32 hx
  have D := fun w => decode_any x x0 (by omega) w
  have B := (dec_both x).1
  have Sh := (dec_both x).2
  have q28 : fl x 28 4 = x / 268435456 := by
    unfold fl
    rw [show (2 : Int) ^ 28 = 268435456 from rfl, show (2 : Int) ^ 4 = 16 from rfl]
    omega
  rw [q28] at Sh
  generalize decP x = h at *
  obtain ⟨a0, a1, b0, b1, c0, c1, d0, d1, e0, e1, f0, f1, g0, g1, i0, i1, j0, j1, k0, k1, al⟩ := B
  obtain ⟨kd, cond, code, flags, rd, rn, rs, rm, imm, hasImm, shift, amount, byReg, load, byte, signed, pre, up, back, user, list, link, long, align⟩ := h
  unfold Shp at Sh
  simp only [none_] at Sh a0 a1 b0 b1 c0 c1 d0 d1 e0 e1 f0 f1 g0 g1 i0 i1 j0 j1 k0 k1 al D
  subst al
  rcases Sh with ⟨rfl, rfl, rfl, rfl, rfl, hk⟩ | ⟨rfl, rfl, rfl, rfl⟩ | ⟨rfl, rfl, rfl, hk⟩ | ⟨rfl, rfl, hk⟩ | hE
  · exact fields_imm x x0 (by omega) _ _ _ _ _ _ _ _ _ _ _ _ _ _ _ _ _ _ g0 g1 a0 a1 b0 b1 c0 c1 d0 d1 j0 j1 k0 k1 (by simpa using hk) (Lib.hid D) w
  · exact fields_reg x x0 (by omega) _ _ _ _ _ _ _ _ _ _ _ _ _ _ _ _ _ _ _ a0 a1 b0 b1 c0 c1 d0 d1 e0 e1 f0 f1 i0 i1 j0 j1 k0 k1 (Lib.hid D) w
  · exact fields_nil x x0 (by omega) _ _ _ _ _ _ _ _ _ _ _ _ _ _ _ _ _ _ _ _ g0 g1 a0 a1 b0 b1 c0 c1 d0 d1 e0 e1 f0 f1 i0 i1 j0 j1 k0 k1 (by simpa using hk) (Lib.hid D) w
  · by_cases hi : imm = 0
    · subst hi
      have hk' : (kd != 0) = true := by rcases hk with rfl | rfl <;> rfl
      exact fields_nil x x0 (by omega) _ _ _ _ _ _ _ _ _ _ _ _ _ _ _ _ _ _ _ _ g0 g1 a0 a1 b0 b1 c0 c1 d0 d1 e0 e1 f0 f1 i0 i1 j0 j1 k0 k1 hk' (Lib.hid D) w
    · have hi' : (imm != 0) = true := by simpa using hi
      rcases hk with rfl | rfl
      · exact fields_br x x0 (by omega) _ _ _ _ _ _ _ _ _ _ _ _ _ _ _ _ _ _ _ _ a0 a1 b0 b1 c0 c1 d0 d1 e0 e1 f0 f1 i0 i1 j0 j1 k0 k1 hi' (Lib.hid D) w
      · exact fields_soft x x0 (by omega) _ _ _ _ _ _ _ _ _ _ _ _ _ _ _ _ _ _ _ _ a0 a1 b0 b1 c0 c1 d0 d1 e0 e1 f0 f1 i0 i1 j0 j1 k0 k1 hi' (Lib.hid D) w
  · simp only [Ins.mk.injEq, and_true] at hE
    obtain ⟨rfl, rfl, rfl, rfl, rfl, rfl, rfl, rfl, rfl, rfl, rfl, rfl, rfl, rfl, rfl, rfl, rfl, rfl, rfl, rfl, rfl, rfl, rfl⟩ := hE
    exact fields_none x x0 (by omega) (Lib.hid D) w
end Go.Proofs.Ytlpjadpjjcpfgaa.Rj
