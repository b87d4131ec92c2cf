/- ArmFields, walked, shape by shape. -/
import Derived.Test.YtlpjadpjjcpfgaaRl
import Derived.Deep.DeepCutAuto
namespace Go.Proofs.Ytlpjadpjjcpfgaa.Ri
set_option linter.unusedVariables false
set_option linter.unusedSimpArgs false
open Go.RowKit Go.Proofs.Ytlpjadpjjcpfgaa.Bt Go.Proofs.Ytlpjadpjjcpfgaa.Wk Go.Proofs.Ytlpjadpjjcpfgaa.Ra Go.Proofs.Ytlpjadpjjcpfgaa.Rp Go.Proofs.Ytlpjadpjjcpfgaa.Rb Go.Proofs.Ytlpjadpjjcpfgaa.Rf Go.Proofs.Ytlpjadpjjcpfgaa.Rl

def In15 (a : Int) : Prop := 0 ≤ a ∧ a ≤ 15
/-- A load of a whole struct that is guarded, and wanted. -/
theorem wpList_load_row_g {P : Program} {ops : Array Oper} {rest : List Oper} {o : Oper} {a : Act} {w : World} {Q : Exit → Act → World → Prop} (hw : Region.wanted o (yielded ops a.tmps) = true) (ty : TypeId) (x : Operand) (ho : o.op = .load ty x)
    (g : Nat) (hx : a.eval x = .pointer (some ⟨g, 0, none⟩)) (t : TypeId) (cs : Array Value) (fr : Nat × Nat) (d : TypeDesc) (hg : w.heap[g]? = some (.cells cs t fr))
    (hu : P.underlying ty = some d) (hd : (match d with | .struct _ | .array _ _ => true | _ => false) = true) (hi : (P.info? ty).map (·.size) = some cs.size)
    (h : wpList P ops Q rest (a.put o.dst (.agg cs)) w) : wpList P ops Q (o :: rest) a w :=
  wpList_step fun K hK => by simp only [hw, if_true]; exact wp_load_row ty x ho g hx t cs fr d hg hu hd hi (hK _ _ h)
theorem six_at {W : World} {b : Nat} {a0 a1 a2 a3 a4 a5 : Int} (h0 : In15 a0) (h1 : In15 a1) (h2 : In15 a2) (h3 : In15 a3) (h4 : In15 a4) (h5 : In15 a5)
    (hb : W.heap[b]? = some (.cells #[.int .i64 a0, .int .i64 a1, .int .i64 a2, .int .i64 a3, .int .i64 a4, .int .i64 a5] 3 (0, 0))) (k : Nat) (hk : k < 6) : ∃ x, W.cell? ⟨b, k, none⟩ = some (.int .i64 x) ∧ 0 ≤ x ∧ x ≤ 15 :=
  match k, hk with
  | 0, _ => ⟨a0, cellsAt hb 0, h0⟩
  | 1, _ => ⟨a1, cellsAt hb 1, h1⟩
  | 2, _ => ⟨a2, cellsAt hb 2, h2⟩
  | 3, _ => ⟨a3, cellsAt hb 3, h3⟩
  | 4, _ => ⟨a4, cellsAt hb 4, h4⟩
  | 5, _ => ⟨a5, cellsAt hb 5, h5⟩
  | n + 6, h => absurd h (by omega)
end Go.Proofs.Ytlpjadpjjcpfgaa.Ri
