/- ArmDecodes, walked. -/
import Derived.Test.YtlpjadpjjcpfgaaRl
import Derived.Test.YtlpjadpjjcpfgaaRu
namespace Go.Proofs.Ytlpjadpjjcpfgaa.Rt
set_option linter.unusedVariables false
set_option linter.unusedSimpArgs false
open Go.RowKit Go.Proofs.Ytlpjadpjjcpfgaa.Bt Go.Proofs.Ytlpjadpjjcpfgaa.Wk Go.Proofs.Ytlpjadpjjcpfgaa.Ra Go.Proofs.Ytlpjadpjjcpfgaa.Rp Go.Proofs.Ytlpjadpjjcpfgaa.Rg Go.Proofs.Ytlpjadpjjcpfgaa.Rb Go.Proofs.Ytlpjadpjjcpfgaa.Rf Go.Proofs.Ytlpjadpjjcpfgaa.Rl Go.Proofs.Ytlpjadpjjcpfgaa.Rx Go.Proofs.Ytlpjadpjjcpfgaa.Ru
set_option maxRecDepth 100000 in
set_option maxHeartbeats 8000000 in
theorem decodes_law (x : Int) (hx : (Lit.int .u32 x).wf = true) (w : World) :
    Calls Try.prog 3 #[.int .u32 x] w fun e w' => e = .returned (.bool true) ∧ Below w.heap.size w w' := by
  obtain ⟨x0, x1⟩ := bounds_u32 hx
  have D := fun w => decode_any x x0 (by omega) w
  have R := fun w => rdecode_any x x0 (by omega) w
  rw [ref_dec x x0 (by omega)] at R
  generalize decP x = h at *
  have EQ := fun w => same24 h w
  have DH := Lib.hid D
  have RH := Lib.hid R
  clear D R hx
  go_enter Try.func3, Try.ntmps3
  go_wp2_with fail
  refine (awake_any _).mono ?_
  rintro e w0 ⟨rfl, hb0⟩
  go_wp2_with fail
  refine (DH.out _).mono ?_
  rintro e w1 ⟨rfl, hb1⟩
  go_wp2_with fail
  refine (RH.out _).mono ?_
  rintro e w2 ⟨rfl, hb2⟩
  have hb := below_then (below_then hb0 hb1 hb0.size) hb2 (below_then hb0 hb1 hb0.size).size
  clear hb0 hb1 hb2
  go_wp2
  go_ret
  exact ⟨rfl, hb⟩
end Go.Proofs.Ytlpjadpjjcpfgaa.Rt
