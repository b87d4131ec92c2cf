/- A look of layer 20 that came in. -/
import Derived.Test.YthbpcenobaloaaaOc
namespace Go.Proofs.Ythbpcenobaloaaa.Od
set_option linter.unusedVariables false
set_option linter.unusedSimpArgs false
open Go.RowKit Go.Proofs.Ythbpcenobaloaaa.Bt Go.Proofs.Ythbpcenobaloaaa.Wk Go.Proofs.Ythbpcenobaloaaa.Sg Go.Proofs.Ythbpcenobaloaaa.Gp Go.Proofs.Ythbpcenobaloaaa.Gm Go.Proofs.Ythbpcenobaloaaa.Hs Go.Proofs.Ythbpcenobaloaaa.Hf Go.Proofs.Ythbpcenobaloaaa.Hl Go.Proofs.Ythbpcenobaloaaa.Oa

theorem wf_u32 {n : Int} (h : (Lit.int .u32 n).wf = true) : 0 ≤ n ∧ n < 4294967296 := by simp [Lit.wf] at h; have a : IntKind.u32.min = 0 := rfl; have b : IntKind.u32.max = 4294967295 := rfl; omega
def w3 (f0 f1 f2 : Nat → Int) (i j : Nat) : Int := if j = 0 then f0 i else if j = 1 then f1 i else f2 i
theorem lo_ok {w : World} {A A2 : Option Addr} {N cc N2 cc2 : Nat} {f0 f1 f2 g : Nat → Int} (hNc : N ≤ cc) (hcm : cc ≤ maxLen) (hel : Elts w A N 3 (fun i => [.int .u16 (f0 i), .int .u16 (f1 i), .int .u16 (f2 i)])) (hin : ∀ i, i < N → (Lit.int .u16 (f0 i)).wf = true ∧ (Lit.int .u16 (f1 i)).wf = true ∧ (Lit.int .u16 (f2 i)).wf = true ∧ True) (hNc2 : N2 ≤ cc2) (hcm2 : cc2 ≤ maxLen) (hel2 : Elts w A2 N2 1 (fun i => [.int .i16 (g i)])) (hin2 : ∀ i, i < N2 → (Lit.int .i16 (g i)).wf = true ∧ True) : Lo w A A2 ⟨N, N2, w3 f0 f1 f2, g⟩ where
  hN := Nat.le_trans hNc hcm
  hM := Nat.le_trans hNc2 hcm2
  hw := hel
  hn := hel2
  bw := fun i hi j hj => by
    obtain ⟨a, b, c, _⟩ := hin i hi
    show 0 ≤ w3 f0 f1 f2 i j ∧ w3 f0 f1 f2 i j < 65536
    unfold w3
    split
    · exact wf_u16 a
    · split
      · exact wf_u16 b
      · exact wf_u16 c
  bn := fun i hi => wf_i16 (hin2 i hi).1
theorem Lo.later {w w' : World} {A A2 : Option Addr} {d : Ok} (h : Lo w A A2 d) (hb : Below w.heap.size w w') : Lo w' A A2 d := ⟨h.hN, h.hM, h.hw.keep hb, h.hn.keep hb, h.bw, h.bn⟩
/-- The scene that is filled. -/
def fillS (s : Sc) (seed : Int) (d : Ok) (bv bq bo : Nat) : Sc := withMem s bv bq bo (uptoN (vrO seed) (fun _ => 0) 98304) (uptoN (palF seed) (fun _ => 0) 1024) (oaU d 128)
theorem fill_ok {w : World} {s : Sc} {seed : Int} {A A2 : Option Addr} {d : Ok} (k : Sok s) (h0 : 0 ≤ seed ∧ seed < 4294967296) (h : Lo w A A2 d) (bv bq bo : Nat) : Sok (fillS s seed d bv bq bo) :=
  bd_ok k (bd_upto (bd_vrO seed) bd_zero 98304) (bd_upto (bd_palF h0.1 h0.2) bd_zero 1024) (bd_oaU h.bw 128) bv bq bo
theorem look_len (s : Sc) (v0 v1 v2 : Value) : ((cellsS s) ++ [v0, v1, v2]).toArray.size = 32 := by
  have : (cellsS s).length = 29 := sc_len s
  simp [this]
theorem info_look : (Try.prog.info? 36).map (·.size) = some 32 := by kernel_rfl
end Go.Proofs.Ythbpcenobaloaaa.Od
