/- Package arm, walked: the kinds of instructions. -/
import Derived.Test.YtlpjadpjjcpfgaaRa
import Derived.Laws.Tables
import Derived.Laws.Rows
import Derived.Test.YtlpjadpjjcpfgaaRg
namespace Go.Proofs.Ytlpjadpjjcpfgaa.Rb
set_option linter.unusedVariables false
set_option linter.unusedSimpArgs false
open Go.RowKit Go.Proofs.Ytlpjadpjjcpfgaa.Bt Go.Proofs.Ytlpjadpjjcpfgaa.Wk Go.Proofs.Ytlpjadpjjcpfgaa.Ra Go.Proofs.Ytlpjadpjjcpfgaa.Rp Go.Proofs.Ytlpjadpjjcpfgaa.Rg

theorem Only.setRow {b : Nat} {cs new : Array Value} {t : TypeId} {w W : World} (h : Only b (.cells cs t (0, 0)) w W) : Only b (.cells new t (0, 0)) w (W.setRow b new) :=
  ⟨setRow_heap W b cs new t (0, 0) h.at_, h.os, h.tape, h.output, by simpa using h.size, fun k hk hn => by rw [setRow_other W b k new hn]; exact h.block k hk hn⟩
theorem info25 : (Try.prog.info? 25).map (·.size) = some 24 := by kernel_rfl
theorem kA25 (a : Act) (w : World) (o : Oper) (h : o.op = .alloc 25) : (execOp (Act.eval a) o).run Try.prog w = .ok (.value (.pointer (some ⟨w.heap.size, 0, none⟩))) (w.alloc (.cells #[.int .i64 0, .int .i64 0, .int .i64 0, .bool false, .int .i64 0, .int .i64 0, .int .i64 0, .int .i64 0, .int .u32 0, .bool false, .int .i64 0, .int .i64 0, .bool false, .bool false, .bool false, .bool false, .bool false, .bool false, .bool false, .bool false, .int .i64 0, .bool false, .bool false, .bool false] 25 (0, 0))) := by
  have z : (zeroValue 25).run Try.prog w = .ok (.agg #[.int .i64 0, .int .i64 0, .int .i64 0, .bool false, .int .i64 0, .int .i64 0, .int .i64 0, .int .i64 0, .int .u32 0, .bool false, .int .i64 0, .int .i64 0, .bool false, .bool false, .bool false, .bool false, .bool false, .bool false, .bool false, .bool false, .int .i64 0, .bool false, .bool false, .bool false]) w := by kernel_rfl
  unfold execOp
  rw [h]
  go_simp
theorem bits_m {a : Int} (h0 : 0 ≤ a) (h1 : a < 4294967296) (i : Nat) (hi : i ≤ 32) (k : Int) (hk : (2 : Int) ^ i - 1 = k) (m : Int) (hm : (2 : Int) ^ i = m) : Go.bits .and .u32 a k = a % m := by rw [← hk, and_mask_u32 h0 h1 i hi, hm]
set_option maxRecDepth 100000 in
set_option maxHeartbeats 40000000 in
theorem block_any (x c d n s m : Int) (h0 : 0 ≤ x) (h1 : x < 4294967296) (w : World) :
    Calls Try.prog 15 #[.int .u32 x, .agg #[.int .i64 0, .int .i64 c, .int .i64 0, .bool false, .int .i64 d, .int .i64 n, .int .i64 s, .int .i64 m, .int .u32 0, .bool false, .int .i64 0, .int .i64 0, .bool false, .bool false, .bool false, .bool false, .bool false, .bool false, .bool false, .bool false, .int .i64 0, .bool false, .bool false, .bool false]] w fun e w' => e = .returned (.agg #[.int .i64 (blockP x c n).kd, .int .i64 (blockP x c n).cond, .int .i64 (blockP x c n).code, .bool (blockP x c n).flags, .int .i64 (blockP x c n).rd, .int .i64 (blockP x c n).rn, .int .i64 (blockP x c n).rs, .int .i64 (blockP x c n).rm, .int .u32 (blockP x c n).imm, .bool (blockP x c n).hasImm, .int .i64 (blockP x c n).shift, .int .i64 (blockP x c n).amount, .bool (blockP x c n).byReg, .bool (blockP x c n).load, .bool (blockP x c n).byte, .bool (blockP x c n).signed, .bool (blockP x c n).pre, .bool (blockP x c n).up, .bool (blockP x c n).back, .bool (blockP x c n).user, .int .i64 (blockP x c n).list, .bool (blockP x c n).link, .bool (blockP x c n).long, .bool (blockP x c n).align]) ∧ Below w.heap.size w w' := by
  have E : blockP x c n = ⟨8, c, 0, false, 0, n, 0, 0, 0, false, 0, 0, false, (tb x 20), false, false, (tb x 24), (tb x 23), (tb x 21), (tb x 22), (x % 65536), false, false, false⟩ := rfl
  simp only [E]
  clear E
  have g : Go.bits .and .u32 x 65535 = x % 65536 := bits_m h0 h1 16 (by decide) _ (by decide) _ (by decide)
  have z0 : 0 ≤ x % 65536 := by omega
  have z1 : x % 65536 < 65536 := by omega
  have wl : IntKind.i64.wrap (x % 65536) = x % 65536 := by rw [IntKind.wrap_i64]; omega
  have H20 : Hid (∀ w, Calls Try.prog 11 #[.int .u32 x, .int .i64 20] w fun e w' => e = .returned (.bool (tb x 20)) ∧ w = w') := Lib.hid fun w => bit_any x 20 h0 h1 (by decide) w
  have H21 : Hid (∀ w, Calls Try.prog 11 #[.int .u32 x, .int .i64 21] w fun e w' => e = .returned (.bool (tb x 21)) ∧ w = w') := Lib.hid fun w => bit_any x 21 h0 h1 (by decide) w
  have H22 : Hid (∀ w, Calls Try.prog 11 #[.int .u32 x, .int .i64 22] w fun e w' => e = .returned (.bool (tb x 22)) ∧ w = w') := Lib.hid fun w => bit_any x 22 h0 h1 (by decide) w
  have H23 : Hid (∀ w, Calls Try.prog 11 #[.int .u32 x, .int .i64 23] w fun e w' => e = .returned (.bool (tb x 23)) ∧ w = w') := Lib.hid fun w => bit_any x 23 h0 h1 (by decide) w
  have H24 : Hid (∀ w, Calls Try.prog 11 #[.int .u32 x, .int .i64 24] w fun e w' => e = .returned (.bool (tb x 24)) ∧ w = w') := Lib.hid fun w => bit_any x 24 h0 h1 (by decide) w
  generalize x % 65536 = lo at *
  generalize tb x 20 = b20 at *
  generalize tb x 21 = b21 at *
  generalize tb x 22 = b22 at *
  generalize tb x 23 = b23 at *
  generalize tb x 24 = b24 at *
  go_enter Try.func15, Try.ntmps15
  go_wp2_with fail
  have A1 : ((w.alloc (.cells #[.int .i64 0, .int .i64 c, .int .i64 0, .bool false, .int .i64 d, .int .i64 n, .int .i64 s, .int .i64 m, .int .u32 0, .bool false, .int .i64 0, .int .i64 0, .bool false, .bool false, .bool false, .bool false, .bool false, .bool false, .bool false, .bool false, .int .i64 0, .bool false, .bool false, .bool false] 25)).alloc (.cells #[.int .i64 0, .int .i64 0, .int .i64 0, .bool false, .int .i64 0, .int .i64 0, .int .i64 0, .int .i64 0, .int .u32 0, .bool false, .int .i64 0, .int .i64 0, .bool false, .bool false, .bool false, .bool false, .bool false, .bool false, .bool false, .bool false, .int .i64 0, .bool false, .bool false, .bool false] 25)).heap[w.heap.size]? = some (.cells #[.int .i64 0, .int .i64 c, .int .i64 0, .bool false, .int .i64 d, .int .i64 n, .int .i64 s, .int .i64 m, .int .u32 0, .bool false, .int .i64 0, .int .i64 0, .bool false, .bool false, .bool false, .bool false, .bool false, .bool false, .bool false, .bool false, .int .i64 0, .bool false, .bool false, .bool false] 25) := alloc_old _ (alloc_new _ _)
  have A2 : ((w.alloc (.cells #[.int .i64 0, .int .i64 c, .int .i64 0, .bool false, .int .i64 d, .int .i64 n, .int .i64 s, .int .i64 m, .int .u32 0, .bool false, .int .i64 0, .int .i64 0, .bool false, .bool false, .bool false, .bool false, .bool false, .bool false, .bool false, .bool false, .int .i64 0, .bool false, .bool false, .bool false] 25)).alloc (.cells #[.int .i64 0, .int .i64 0, .int .i64 0, .bool false, .int .i64 0, .int .i64 0, .int .i64 0, .int .i64 0, .int .u32 0, .bool false, .int .i64 0, .int .i64 0, .bool false, .bool false, .bool false, .bool false, .bool false, .bool false, .bool false, .bool false, .int .i64 0, .bool false, .bool false, .bool false] 25)).heap[w.heap.size + 1]? = some (.cells #[.int .i64 0, .int .i64 0, .int .i64 0, .bool false, .int .i64 0, .int .i64 0, .int .i64 0, .int .i64 0, .int .u32 0, .bool false, .int .i64 0, .int .i64 0, .bool false, .bool false, .bool false, .bool false, .bool false, .bool false, .bool false, .bool false, .int .i64 0, .bool false, .bool false, .bool false] 25) := by have := alloc_new (w.alloc (.cells #[.int .i64 0, .int .i64 c, .int .i64 0, .bool false, .int .i64 d, .int .i64 n, .int .i64 s, .int .i64 m, .int .u32 0, .bool false, .int .i64 0, .int .i64 0, .bool false, .bool false, .bool false, .bool false, .bool false, .bool false, .bool false, .bool false, .int .i64 0, .bool false, .bool false, .bool false] 25)) (.cells #[.int .i64 0, .int .i64 0, .int .i64 0, .bool false, .int .i64 0, .int .i64 0, .int .i64 0, .int .i64 0, .int .u32 0, .bool false, .int .i64 0, .int .i64 0, .bool false, .bool false, .bool false, .bool false, .bool false, .bool false, .bool false, .bool false, .int .i64 0, .bool false, .bool false, .bool false] 25); simpa using this
  have hB : Below w.heap.size w ((w.alloc (.cells #[.int .i64 0, .int .i64 c, .int .i64 0, .bool false, .int .i64 d, .int .i64 n, .int .i64 s, .int .i64 m, .int .u32 0, .bool false, .int .i64 0, .int .i64 0, .bool false, .bool false, .bool false, .bool false, .bool false, .bool false, .bool false, .bool false, .int .i64 0, .bool false, .bool false, .bool false] 25)).alloc (.cells #[.int .i64 0, .int .i64 0, .int .i64 0, .bool false, .int .i64 0, .int .i64 0, .int .i64 0, .int .i64 0, .int .u32 0, .bool false, .int .i64 0, .int .i64 0, .bool false, .bool false, .bool false, .bool false, .bool false, .bool false, .bool false, .bool false, .int .i64 0, .bool false, .bool false, .bool false] 25)) := ((Below.refl _ _).alloc (Nat.le_refl _) _).alloc (by simp) _
  generalize (w.alloc (.cells #[.int .i64 0, .int .i64 c, .int .i64 0, .bool false, .int .i64 d, .int .i64 n, .int .i64 s, .int .i64 m, .int .u32 0, .bool false, .int .i64 0, .int .i64 0, .bool false, .bool false, .bool false, .bool false, .bool false, .bool false, .bool false, .bool false, .int .i64 0, .bool false, .bool false, .bool false] 25)).alloc (.cells #[.int .i64 0, .int .i64 0, .int .i64 0, .bool false, .int .i64 0, .int .i64 0, .int .i64 0, .int .i64 0, .int .u32 0, .bool false, .int .i64 0, .int .i64 0, .bool false, .bool false, .bool false, .bool false, .bool false, .bool false, .bool false, .bool false, .int .i64 0, .bool false, .bool false, .bool false] 25) = W at *
  have A1H := Lib.hid A1
  have A2H := Lib.hid A2
  have hBH := Lib.hid hB
  clear A1 A2 hB
  have C1 : W.cell? ⟨w.heap.size, 1, none⟩ = some (.int .i64 c) := cellsAt A1H.out 1
  have C4 : W.cell? ⟨w.heap.size, 4, none⟩ = some (.int .i64 d) := cellsAt A1H.out 4
  have C5 : W.cell? ⟨w.heap.size, 5, none⟩ = some (.int .i64 n) := cellsAt A1H.out 5
  have C6 : W.cell? ⟨w.heap.size, 6, none⟩ = some (.int .i64 s) := cellsAt A1H.out 6
  have C7 : W.cell? ⟨w.heap.size, 7, none⟩ = some (.int .i64 m) := cellsAt A1H.out 7
  have S1 := sizeAt A1H.out
  have S2 := sizeAt A2H.out
  go_still_tail 18, (by kernel_rfl)
  repeat (first | still_step | (refine wpStill_step (fun K hK => ?_); go_simp; (first | (with_reducible refine ⟨_, flip (H20.out _), hK _ ?_⟩) | (with_reducible refine ⟨_, flip (H21.out _), hK _ ?_⟩) | (with_reducible refine ⟨_, flip (H22.out _), hK _ ?_⟩) | (with_reducible refine ⟨_, flip (H23.out _), hK _ ?_⟩) | (with_reducible refine ⟨_, flip (H24.out _), hK _ ?_⟩)); clear hK K))
  refine wpStill_nil ?_
  change wpList _ _ _ _ _ (World.drew _)
  (refine wpList_store_row rfl 25 (.tmp 4) (.tmp 22) rfl (w.heap.size + 1) _ rfl rfl 25 _ (drew_heap A2H.out) info25 rfl (by simp [Value.oneCell']) ?_)
  go_wp2_with fail
  exact bodyPost_ret (results_cell_row rfl _ _ (w.heap.size + 1) 25 _ _ _ rfl (setRow_heap _ _ _ _ _ _ (drew_heap A2H.out)) Try.underlying25 rfl info25) rfl ⟨rfl, below_only (below_d1 hBH.out) (Only.setRow (Only.refl (drew_heap A2H.out))) (by omega) (below_d1 hBH.out).size⟩
end Go.Proofs.Ytlpjadpjjcpfgaa.Rb
