/- Package arm, walked: the status words. -/
import Derived.Test.YtlpjadpjjcpfgaaRb
import Derived.Deep.DeepCutAuto
namespace Go.Proofs.Ytlpjadpjjcpfgaa.Rc
set_option linter.unusedVariables false
set_option linter.unusedSimpArgs false
open Go.RowKit Go.Proofs.Ytlpjadpjjcpfgaa.Bt Go.Proofs.Ytlpjadpjjcpfgaa.Wk Go.Proofs.Ytlpjadpjjcpfgaa.Ra Go.Proofs.Ytlpjadpjjcpfgaa.Rp Go.Proofs.Ytlpjadpjjcpfgaa.Rg Go.Proofs.Ytlpjadpjjcpfgaa.Rb
set_option maxRecDepth 100000 in
set_option maxHeartbeats 40000000 in
theorem status_any (x c d n s m : Int) (imm : Bool) (h0 : 0 ≤ x) (h1 : x < 4294967296) (w : World) :
    Calls Try.prog 22 #[.int .u32 x, .agg #[.int .i64 0, .int .i64 c, .int .i64 0, .bool false, .int .i64 d, .int .i64 n, .int .i64 s, .int .i64 m, .int .u32 0, .bool false, .int .i64 0, .int .i64 0, .bool false, .bool false, .bool false, .bool false, .bool false, .bool false, .bool false, .bool false, .int .i64 0, .bool false, .bool false, .bool false], .bool imm] w fun e w' => e = .returned (.agg #[.int .i64 (statusP x c d n s m imm).kd, .int .i64 (statusP x c d n s m imm).cond, .int .i64 (statusP x c d n s m imm).code, .bool (statusP x c d n s m imm).flags, .int .i64 (statusP x c d n s m imm).rd, .int .i64 (statusP x c d n s m imm).rn, .int .i64 (statusP x c d n s m imm).rs, .int .i64 (statusP x c d n s m imm).rm, .int .u32 (statusP x c d n s m imm).imm, .bool (statusP x c d n s m imm).hasImm, .int .i64 (statusP x c d n s m imm).shift, .int .i64 (statusP x c d n s m imm).amount, .bool (statusP x c d n s m imm).byReg, .bool (statusP x c d n s m imm).load, .bool (statusP x c d n s m imm).byte, .bool (statusP x c d n s m imm).signed, .bool (statusP x c d n s m imm).pre, .bool (statusP x c d n s m imm).up, .bool (statusP x c d n s m imm).back, .bool (statusP x c d n s m imm).user, .int .i64 (statusP x c d n s m imm).list, .bool (statusP x c d n s m imm).link, .bool (statusP x c d n s m imm).long, .bool (statusP x c d n s m imm).align]) ∧ Below w.heap.size w w' := by
  have H21 : Hid (∀ w, Calls Try.prog 11 #[.int .u32 x, .int .i64 21] w fun e w' => e = .returned (.bool (tb x 21)) ∧ w = w') := Lib.hid fun w => bit_any x 21 h0 h1 (by decide) w
  have H22 : Hid (∀ w, Calls Try.prog 11 #[.int .u32 x, .int .i64 22] w fun e w' => e = .returned (.bool (tb x 22)) ∧ w = w') := Lib.hid fun w => bit_any x 22 h0 h1 (by decide) w
  have g1 : Go.bits .and .u32 (x / 16) 16777215 = x / 16 % 16777216 := bits_m (by omega) (by omega) 24 (by decide) _ (by decide) _ (by decide)
  have g3 : Go.bits .and .u32 (x / 16) 255 = x / 16 % 256 := bits_m (by omega) (by omega) 8 (by decide) _ (by decide) _ (by decide)
  have g4 : Go.bits .and .u32 x 255 = x % 256 := bits_m h0 h1 8 (by decide) _ (by decide) _ (by decide)
  unfold statusP
  generalize x / 16 % 16777216 = v1 at *
  obtain ⟨v2, g2⟩ : ∃ v, Go.bits .and .u32 x 264179711 = v := ⟨_, rfl⟩
  rw [g2]
  generalize x / 16 % 256 = v3 at *
  generalize x % 256 = v4 at *
  generalize tb x 21 = b21 at *
  generalize tb x 22 = b22 at *
  cases imm
  · by_cases q1 : v1 = 1245169
    · rw [if_pos ⟨rfl, q1⟩]
      have e1 : (v1 == 1245169) = true := by simpa using q1
      clear q1
      try simp only [none_]
      go_enter Try.func22, Try.ntmps22
      go_upto_region 1 with fail
      have A1 : ((w.alloc (.cells #[.int .i64 0, .int .i64 c, .int .i64 0, .bool false, .int .i64 d, .int .i64 n, .int .i64 s, .int .i64 m, .int .u32 0, .bool false, .int .i64 0, .int .i64 0, .bool false, .bool false, .bool false, .bool false, .bool false, .bool false, .bool false, .bool false, .int .i64 0, .bool false, .bool false, .bool false] 25)).alloc (.cells #[.int .i64 0, .int .i64 0, .int .i64 0, .bool false, .int .i64 0, .int .i64 0, .int .i64 0, .int .i64 0, .int .u32 0, .bool false, .int .i64 0, .int .i64 0, .bool false, .bool false, .bool false, .bool false, .bool false, .bool false, .bool false, .bool false, .int .i64 0, .bool false, .bool false, .bool false] 25)).heap[w.heap.size]? = some (.cells #[.int .i64 0, .int .i64 c, .int .i64 0, .bool false, .int .i64 d, .int .i64 n, .int .i64 s, .int .i64 m, .int .u32 0, .bool false, .int .i64 0, .int .i64 0, .bool false, .bool false, .bool false, .bool false, .bool false, .bool false, .bool false, .bool false, .int .i64 0, .bool false, .bool false, .bool false] 25) := alloc_old _ (alloc_new _ _)
      have A2 : ((w.alloc (.cells #[.int .i64 0, .int .i64 c, .int .i64 0, .bool false, .int .i64 d, .int .i64 n, .int .i64 s, .int .i64 m, .int .u32 0, .bool false, .int .i64 0, .int .i64 0, .bool false, .bool false, .bool false, .bool false, .bool false, .bool false, .bool false, .bool false, .int .i64 0, .bool false, .bool false, .bool false] 25)).alloc (.cells #[.int .i64 0, .int .i64 0, .int .i64 0, .bool false, .int .i64 0, .int .i64 0, .int .i64 0, .int .i64 0, .int .u32 0, .bool false, .int .i64 0, .int .i64 0, .bool false, .bool false, .bool false, .bool false, .bool false, .bool false, .bool false, .bool false, .int .i64 0, .bool false, .bool false, .bool false] 25)).heap[w.heap.size + 1]? = some (.cells #[.int .i64 0, .int .i64 0, .int .i64 0, .bool false, .int .i64 0, .int .i64 0, .int .i64 0, .int .i64 0, .int .u32 0, .bool false, .int .i64 0, .int .i64 0, .bool false, .bool false, .bool false, .bool false, .bool false, .bool false, .bool false, .bool false, .int .i64 0, .bool false, .bool false, .bool false] 25) := by have := alloc_new (w.alloc (.cells #[.int .i64 0, .int .i64 c, .int .i64 0, .bool false, .int .i64 d, .int .i64 n, .int .i64 s, .int .i64 m, .int .u32 0, .bool false, .int .i64 0, .int .i64 0, .bool false, .bool false, .bool false, .bool false, .bool false, .bool false, .bool false, .bool false, .int .i64 0, .bool false, .bool false, .bool false] 25)) (.cells #[.int .i64 0, .int .i64 0, .int .i64 0, .bool false, .int .i64 0, .int .i64 0, .int .i64 0, .int .i64 0, .int .u32 0, .bool false, .int .i64 0, .int .i64 0, .bool false, .bool false, .bool false, .bool false, .bool false, .bool false, .bool false, .bool false, .int .i64 0, .bool false, .bool false, .bool false] 25); simpa using this
      have hB : Below w.heap.size w ((w.alloc (.cells #[.int .i64 0, .int .i64 c, .int .i64 0, .bool false, .int .i64 d, .int .i64 n, .int .i64 s, .int .i64 m, .int .u32 0, .bool false, .int .i64 0, .int .i64 0, .bool false, .bool false, .bool false, .bool false, .bool false, .bool false, .bool false, .bool false, .int .i64 0, .bool false, .bool false, .bool false] 25)).alloc (.cells #[.int .i64 0, .int .i64 0, .int .i64 0, .bool false, .int .i64 0, .int .i64 0, .int .i64 0, .int .i64 0, .int .u32 0, .bool false, .int .i64 0, .int .i64 0, .bool false, .bool false, .bool false, .bool false, .bool false, .bool false, .bool false, .bool false, .int .i64 0, .bool false, .bool false, .bool false] 25)) := ((Below.refl _ _).alloc (Nat.le_refl _) _).alloc (by simp) _
      generalize (w.alloc (.cells #[.int .i64 0, .int .i64 c, .int .i64 0, .bool false, .int .i64 d, .int .i64 n, .int .i64 s, .int .i64 m, .int .u32 0, .bool false, .int .i64 0, .int .i64 0, .bool false, .bool false, .bool false, .bool false, .bool false, .bool false, .bool false, .bool false, .int .i64 0, .bool false, .bool false, .bool false] 25)).alloc (.cells #[.int .i64 0, .int .i64 0, .int .i64 0, .bool false, .int .i64 0, .int .i64 0, .int .i64 0, .int .i64 0, .int .u32 0, .bool false, .int .i64 0, .int .i64 0, .bool false, .bool false, .bool false, .bool false, .bool false, .bool false, .bool false, .bool false, .int .i64 0, .bool false, .bool false, .bool false] 25) = W at *
      have A1H := Lib.hid A1
      have A2H := Lib.hid A2
      have hBH := Lib.hid hB
      clear A1 A2 hB
      have C1 : W.cell? ⟨w.heap.size, 1, none⟩ = some (.int .i64 c) := cellsAt A1H.out 1
      have C4 : W.cell? ⟨w.heap.size, 4, none⟩ = some (.int .i64 d) := cellsAt A1H.out 4
      have C5 : W.cell? ⟨w.heap.size, 5, none⟩ = some (.int .i64 n) := cellsAt A1H.out 5
      have C6 : W.cell? ⟨w.heap.size, 6, none⟩ = some (.int .i64 s) := cellsAt A1H.out 6
      have C7 : W.cell? ⟨w.heap.size, 7, none⟩ = some (.int .i64 m) := cellsAt A1H.out 7
      have S1 := sizeAt A1H.out
      have S2 := sizeAt A2H.out
      go_wp2_with (first | (go_at_call 11; ((with_reducible refine (H21.out _).mono ?_); rintro e w' ⟨rfl, rfl⟩)) | (go_at_call 11; ((with_reducible refine (H22.out _).mono ?_); rintro e w' ⟨rfl, rfl⟩)) | (refine wpList_store_row rfl 25 (.tmp 6) (.tmp 21) rfl (w.heap.size + 1) _ rfl rfl 25 _ (A2H.out) info25 rfl (by simp [Value.oneCell']) ?_))
      exact bodyPost_ret (results_cell_row rfl _ _ (w.heap.size + 1) 25 _ _ _ rfl (setRow_heap _ _ _ _ _ _ (A2H.out)) Try.underlying25 rfl info25) rfl ⟨rfl, below_only (hBH.out) (Only.setRow (Only.refl (A2H.out))) (by omega) (hBH.out).size⟩
    rw [if_neg (fun h => q1 h.2)]
    have e1 : (v1 == 1245169) = false := by simpa using q1
    clear q1
    by_cases q2 : v2 = 17760256
    · rw [if_pos ⟨rfl, q2⟩]
      have e2 : (v2 == 17760256) = true := by simpa using q2
      clear q2
      try simp only [none_]
      go_enter Try.func22, Try.ntmps22
      go_upto_region 1 with fail
      have A1 : ((w.alloc (.cells #[.int .i64 0, .int .i64 c, .int .i64 0, .bool false, .int .i64 d, .int .i64 n, .int .i64 s, .int .i64 m, .int .u32 0, .bool false, .int .i64 0, .int .i64 0, .bool false, .bool false, .bool false, .bool false, .bool false, .bool false, .bool false, .bool false, .int .i64 0, .bool false, .bool false, .bool false] 25)).alloc (.cells #[.int .i64 0, .int .i64 0, .int .i64 0, .bool false, .int .i64 0, .int .i64 0, .int .i64 0, .int .i64 0, .int .u32 0, .bool false, .int .i64 0, .int .i64 0, .bool false, .bool false, .bool false, .bool false, .bool false, .bool false, .bool false, .bool false, .int .i64 0, .bool false, .bool false, .bool false] 25)).heap[w.heap.size]? = some (.cells #[.int .i64 0, .int .i64 c, .int .i64 0, .bool false, .int .i64 d, .int .i64 n, .int .i64 s, .int .i64 m, .int .u32 0, .bool false, .int .i64 0, .int .i64 0, .bool false, .bool false, .bool false, .bool false, .bool false, .bool false, .bool false, .bool false, .int .i64 0, .bool false, .bool false, .bool false] 25) := alloc_old _ (alloc_new _ _)
      have A2 : ((w.alloc (.cells #[.int .i64 0, .int .i64 c, .int .i64 0, .bool false, .int .i64 d, .int .i64 n, .int .i64 s, .int .i64 m, .int .u32 0, .bool false, .int .i64 0, .int .i64 0, .bool false, .bool false, .bool false, .bool false, .bool false, .bool false, .bool false, .bool false, .int .i64 0, .bool false, .bool false, .bool false] 25)).alloc (.cells #[.int .i64 0, .int .i64 0, .int .i64 0, .bool false, .int .i64 0, .int .i64 0, .int .i64 0, .int .i64 0, .int .u32 0, .bool false, .int .i64 0, .int .i64 0, .bool false, .bool false, .bool false, .bool false, .bool false, .bool false, .bool false, .bool false, .int .i64 0, .bool false, .bool false, .bool false] 25)).heap[w.heap.size + 1]? = some (.cells #[.int .i64 0, .int .i64 0, .int .i64 0, .bool false, .int .i64 0, .int .i64 0, .int .i64 0, .int .i64 0, .int .u32 0, .bool false, .int .i64 0, .int .i64 0, .bool false, .bool false, .bool false, .bool false, .bool false, .bool false, .bool false, .bool false, .int .i64 0, .bool false, .bool false, .bool false] 25) := by have := alloc_new (w.alloc (.cells #[.int .i64 0, .int .i64 c, .int .i64 0, .bool false, .int .i64 d, .int .i64 n, .int .i64 s, .int .i64 m, .int .u32 0, .bool false, .int .i64 0, .int .i64 0, .bool false, .bool false, .bool false, .bool false, .bool false, .bool false, .bool false, .bool false, .int .i64 0, .bool false, .bool false, .bool false] 25)) (.cells #[.int .i64 0, .int .i64 0, .int .i64 0, .bool false, .int .i64 0, .int .i64 0, .int .i64 0, .int .i64 0, .int .u32 0, .bool false, .int .i64 0, .int .i64 0, .bool false, .bool false, .bool false, .bool false, .bool false, .bool false, .bool false, .bool false, .int .i64 0, .bool false, .bool false, .bool false] 25); simpa using this
      have hB : Below w.heap.size w ((w.alloc (.cells #[.int .i64 0, .int .i64 c, .int .i64 0, .bool false, .int .i64 d, .int .i64 n, .int .i64 s, .int .i64 m, .int .u32 0, .bool false, .int .i64 0, .int .i64 0, .bool false, .bool false, .bool false, .bool false, .bool false, .bool false, .bool false, .bool false, .int .i64 0, .bool false, .bool false, .bool false] 25)).alloc (.cells #[.int .i64 0, .int .i64 0, .int .i64 0, .bool false, .int .i64 0, .int .i64 0, .int .i64 0, .int .i64 0, .int .u32 0, .bool false, .int .i64 0, .int .i64 0, .bool false, .bool false, .bool false, .bool false, .bool false, .bool false, .bool false, .bool false, .int .i64 0, .bool false, .bool false, .bool false] 25)) := ((Below.refl _ _).alloc (Nat.le_refl _) _).alloc (by simp) _
      generalize (w.alloc (.cells #[.int .i64 0, .int .i64 c, .int .i64 0, .bool false, .int .i64 d, .int .i64 n, .int .i64 s, .int .i64 m, .int .u32 0, .bool false, .int .i64 0, .int .i64 0, .bool false, .bool false, .bool false, .bool false, .bool false, .bool false, .bool false, .bool false, .int .i64 0, .bool false, .bool false, .bool false] 25)).alloc (.cells #[.int .i64 0, .int .i64 0, .int .i64 0, .bool false, .int .i64 0, .int .i64 0, .int .i64 0, .int .i64 0, .int .u32 0, .bool false, .int .i64 0, .int .i64 0, .bool false, .bool false, .bool false, .bool false, .bool false, .bool false, .bool false, .bool false, .int .i64 0, .bool false, .bool false, .bool false] 25) = W at *
      have A1H := Lib.hid A1
      have A2H := Lib.hid A2
      have hBH := Lib.hid hB
      clear A1 A2 hB
      have C1 : W.cell? ⟨w.heap.size, 1, none⟩ = some (.int .i64 c) := cellsAt A1H.out 1
      have C4 : W.cell? ⟨w.heap.size, 4, none⟩ = some (.int .i64 d) := cellsAt A1H.out 4
      have C5 : W.cell? ⟨w.heap.size, 5, none⟩ = some (.int .i64 n) := cellsAt A1H.out 5
      have C6 : W.cell? ⟨w.heap.size, 6, none⟩ = some (.int .i64 s) := cellsAt A1H.out 6
      have C7 : W.cell? ⟨w.heap.size, 7, none⟩ = some (.int .i64 m) := cellsAt A1H.out 7
      have S1 := sizeAt A1H.out
      have S2 := sizeAt A2H.out
      go_wp2_with (first | (go_at_call 11; ((with_reducible refine (H21.out _).mono ?_); rintro e w' ⟨rfl, rfl⟩)) | (go_at_call 11; ((with_reducible refine (H22.out _).mono ?_); rintro e w' ⟨rfl, rfl⟩)))
      go_still_tail 7, (by kernel_rfl)
      repeat (first | still_step | (refine wpStill_step (fun K hK => ?_); go_simp; (first | (with_reducible refine ⟨_, flip (H22.out _), hK _ ?_⟩)); clear hK K))
      refine wpStill_nil ?_
      change wpList _ _ _ _ _ (World.drew _)
      (refine wpList_store_row rfl 25 (.tmp 6) (.tmp 36) rfl (w.heap.size + 1) _ rfl rfl 25 _ (drew_heap (A2H.out)) info25 rfl (by simp [Value.oneCell']) ?_)
      go_wp2_with fail
      exact bodyPost_ret (results_cell_row rfl _ _ (w.heap.size + 1) 25 _ _ _ rfl (setRow_heap _ _ _ _ _ _ (drew_heap (A2H.out))) Try.underlying25 rfl info25) rfl ⟨rfl, below_only (below_d1 (hBH.out)) (Only.setRow (Only.refl (drew_heap (A2H.out)))) (by omega) (below_d1 (hBH.out)).size⟩
    rw [if_neg (fun h => q2 h.2)]
    have e2 : (v2 == 17760256) = false := by simpa using q2
    clear q2
    by_cases q3 : b21 = true ∧ d = 15 ∧ (false = true ∨ v3 = 0)
    · obtain ⟨rfl, qd, q0⟩ := q3
      have qv : v3 = 0 := by rcases q0 with h | h; cases h; exact h
      rw [if_pos ⟨rfl, qd, .inr qv⟩, if_neg Bool.false_ne_true]
      have e3 : (d == 15) = true := by simpa using qd
      have e4 : (v3 == 0) = true := by simpa using qv
      clear qd q0 qv
      try simp only [none_]
      go_enter Try.func22, Try.ntmps22
      go_upto_region 1 with fail
      have A1 : ((w.alloc (.cells #[.int .i64 0, .int .i64 c, .int .i64 0, .bool false, .int .i64 d, .int .i64 n, .int .i64 s, .int .i64 m, .int .u32 0, .bool false, .int .i64 0, .int .i64 0, .bool false, .bool false, .bool false, .bool false, .bool false, .bool false, .bool false, .bool false, .int .i64 0, .bool false, .bool false, .bool false] 25)).alloc (.cells #[.int .i64 0, .int .i64 0, .int .i64 0, .bool false, .int .i64 0, .int .i64 0, .int .i64 0, .int .i64 0, .int .u32 0, .bool false, .int .i64 0, .int .i64 0, .bool false, .bool false, .bool false, .bool false, .bool false, .bool false, .bool false, .bool false, .int .i64 0, .bool false, .bool false, .bool false] 25)).heap[w.heap.size]? = some (.cells #[.int .i64 0, .int .i64 c, .int .i64 0, .bool false, .int .i64 d, .int .i64 n, .int .i64 s, .int .i64 m, .int .u32 0, .bool false, .int .i64 0, .int .i64 0, .bool false, .bool false, .bool false, .bool false, .bool false, .bool false, .bool false, .bool false, .int .i64 0, .bool false, .bool false, .bool false] 25) := alloc_old _ (alloc_new _ _)
      have A2 : ((w.alloc (.cells #[.int .i64 0, .int .i64 c, .int .i64 0, .bool false, .int .i64 d, .int .i64 n, .int .i64 s, .int .i64 m, .int .u32 0, .bool false, .int .i64 0, .int .i64 0, .bool false, .bool false, .bool false, .bool false, .bool false, .bool false, .bool false, .bool false, .int .i64 0, .bool false, .bool false, .bool false] 25)).alloc (.cells #[.int .i64 0, .int .i64 0, .int .i64 0, .bool false, .int .i64 0, .int .i64 0, .int .i64 0, .int .i64 0, .int .u32 0, .bool false, .int .i64 0, .int .i64 0, .bool false, .bool false, .bool false, .bool false, .bool false, .bool false, .bool false, .bool false, .int .i64 0, .bool false, .bool false, .bool false] 25)).heap[w.heap.size + 1]? = some (.cells #[.int .i64 0, .int .i64 0, .int .i64 0, .bool false, .int .i64 0, .int .i64 0, .int .i64 0, .int .i64 0, .int .u32 0, .bool false, .int .i64 0, .int .i64 0, .bool false, .bool false, .bool false, .bool false, .bool false, .bool false, .bool false, .bool false, .int .i64 0, .bool false, .bool false, .bool false] 25) := by have := alloc_new (w.alloc (.cells #[.int .i64 0, .int .i64 c, .int .i64 0, .bool false, .int .i64 d, .int .i64 n, .int .i64 s, .int .i64 m, .int .u32 0, .bool false, .int .i64 0, .int .i64 0, .bool false, .bool false, .bool false, .bool false, .bool false, .bool false, .bool false, .bool false, .int .i64 0, .bool false, .bool false, .bool false] 25)) (.cells #[.int .i64 0, .int .i64 0, .int .i64 0, .bool false, .int .i64 0, .int .i64 0, .int .i64 0, .int .i64 0, .int .u32 0, .bool false, .int .i64 0, .int .i64 0, .bool false, .bool false, .bool false, .bool false, .bool false, .bool false, .bool false, .bool false, .int .i64 0, .bool false, .bool false, .bool false] 25); simpa using this
      have hB : Below w.heap.size w ((w.alloc (.cells #[.int .i64 0, .int .i64 c, .int .i64 0, .bool false, .int .i64 d, .int .i64 n, .int .i64 s, .int .i64 m, .int .u32 0, .bool false, .int .i64 0, .int .i64 0, .bool false, .bool false, .bool false, .bool false, .bool false, .bool false, .bool false, .bool false, .int .i64 0, .bool false, .bool false, .bool false] 25)).alloc (.cells #[.int .i64 0, .int .i64 0, .int .i64 0, .bool false, .int .i64 0, .int .i64 0, .int .i64 0, .int .i64 0, .int .u32 0, .bool false, .int .i64 0, .int .i64 0, .bool false, .bool false, .bool false, .bool false, .bool false, .bool false, .bool false, .bool false, .int .i64 0, .bool false, .bool false, .bool false] 25)) := ((Below.refl _ _).alloc (Nat.le_refl _) _).alloc (by simp) _
      generalize (w.alloc (.cells #[.int .i64 0, .int .i64 c, .int .i64 0, .bool false, .int .i64 d, .int .i64 n, .int .i64 s, .int .i64 m, .int .u32 0, .bool false, .int .i64 0, .int .i64 0, .bool false, .bool false, .bool false, .bool false, .bool false, .bool false, .bool false, .bool false, .int .i64 0, .bool false, .bool false, .bool false] 25)).alloc (.cells #[.int .i64 0, .int .i64 0, .int .i64 0, .bool false, .int .i64 0, .int .i64 0, .int .i64 0, .int .i64 0, .int .u32 0, .bool false, .int .i64 0, .int .i64 0, .bool false, .bool false, .bool false, .bool false, .bool false, .bool false, .bool false, .bool false, .int .i64 0, .bool false, .bool false, .bool false] 25) = W at *
      have A1H := Lib.hid A1
      have A2H := Lib.hid A2
      have hBH := Lib.hid hB
      clear A1 A2 hB
      have C1 : W.cell? ⟨w.heap.size, 1, none⟩ = some (.int .i64 c) := cellsAt A1H.out 1
      have C4 : W.cell? ⟨w.heap.size, 4, none⟩ = some (.int .i64 d) := cellsAt A1H.out 4
      have C5 : W.cell? ⟨w.heap.size, 5, none⟩ = some (.int .i64 n) := cellsAt A1H.out 5
      have C6 : W.cell? ⟨w.heap.size, 6, none⟩ = some (.int .i64 s) := cellsAt A1H.out 6
      have C7 : W.cell? ⟨w.heap.size, 7, none⟩ = some (.int .i64 m) := cellsAt A1H.out 7
      have S1 := sizeAt A1H.out
      have S2 := sizeAt A2H.out
      go_wp2_with (first | (go_at_call 11; ((with_reducible refine (H21.out _).mono ?_); rintro e w' ⟨rfl, rfl⟩)) | (go_at_call 11; ((with_reducible refine (H22.out _).mono ?_); rintro e w' ⟨rfl, rfl⟩)))
      refine region_alloc 7 (by kernel_rfl) (by kernel_rfl) _ _ 25 7 60 #[.int .i64 0, .int .i64 0, .int .i64 0, .bool false, .int .i64 0, .int .i64 0, .int .i64 0, .int .i64 0, .int .u32 0, .bool false, .int .i64 0, .int .i64 0, .bool false, .bool false, .bool false, .bool false, .bool false, .bool false, .bool false, .bool false, .int .i64 0, .bool false, .bool false, .bool false] rfl rfl rfl rfl rfl (fun a w => kA25 _ _ _ rfl) rfl rfl rfl (by decide) (by simp) info25 ?_
      simp only [List.take_succ_cons, List.take_zero]
      have HC1 := Lib.hid C1
      have HC4 := Lib.hid C4
      have HC5 := Lib.hid C5
      have HC6 := Lib.hid C6
      have HC7 := Lib.hid C7
      have HS1 := Lib.hid S1
      repeat (refine wpSure_next ?_ (fun w' hw' J hJ => ?_) (fun L hL => ?_); rotate_left; (have D1 := (hw'.2 _ 1 HS1.out).trans HC1.out; have D4 := (hw'.2 _ 4 HS1.out).trans HC4.out; have D5 := (hw'.2 _ 5 HS1.out).trans HC5.out; have D6 := (hw'.2 _ 6 HS1.out).trans HC6.out; have D7 := (hw'.2 _ 7 HS1.out).trans HC7.out; clear hw'; unfold stillK; go_simp; (first | exact hJ | ((with_reducible refine ⟨_, Wk.flip (H21.out _), ?_⟩); exact hJ) | ((with_reducible refine ⟨_, Wk.flip (H22.out _), ?_⟩); exact hJ))); (go_simp; refine hL _ ?_; clear hL L))
      refine wpSure_nil ?_
      refine ⟨by simp, _, rfl, rfl, by simp [Value.oneCell'], ?_⟩
      go_wp2_with (first | (go_at_call 11; ((with_reducible refine (H21.out _).mono ?_); rintro e w' ⟨rfl, rfl⟩)) | (go_at_call 11; ((with_reducible refine (H22.out _).mono ?_); rintro e w' ⟨rfl, rfl⟩)) | (refine wpList_load_row rfl 25 (.tmp 7) rfl (W.heap.size) rfl 25 _ (0, 0) _ (drew_heap (alloc_new W _)) Try.underlying25 rfl info25 ?_) | (refine wpList_store_row rfl 25 (.tmp 6) (.tmp 72) rfl (w.heap.size + 1) _ rfl rfl 25 _ (drew_heap (alloc_old _ A2H.out)) info25 rfl (by simp [Value.oneCell']) ?_))
      exact bodyPost_ret (results_cell_row rfl _ _ (w.heap.size + 1) 25 _ _ _ rfl (setRow_heap _ _ _ _ _ _ (drew_heap (alloc_old _ A2H.out))) Try.underlying25 rfl info25) rfl ⟨rfl, below_only (below_d1 (hBH.out.alloc hBH.out.size _)) (Only.setRow (Only.refl (drew_heap (alloc_old _ A2H.out)))) (by omega) (below_d1 (hBH.out.alloc hBH.out.size _)).size⟩
    have tst : b21 = false ∨ (b21 = true ∧ (d == 15) = false) ∨ (b21 = true ∧ (d == 15) = true ∧ (v3 == 0) = false) := by
      cases b21
      · exact .inl rfl
      · by_cases h : d = 15
        · exact .inr (.inr ⟨rfl, by simpa using h, by simp; exact fun e => q3 ⟨rfl, h, .inr e⟩⟩)
        · exact .inr (.inl ⟨rfl, by simpa using h⟩)
    rw [if_neg q3]
    clear q3
    rcases tst with rfl | ⟨rfl, e3⟩ | ⟨rfl, e3, e4⟩
    all_goals
      try simp only [none_]
      go_enter Try.func22, Try.ntmps22
      go_upto_region 1 with fail
      have A1 : ((w.alloc (.cells #[.int .i64 0, .int .i64 c, .int .i64 0, .bool false, .int .i64 d, .int .i64 n, .int .i64 s, .int .i64 m, .int .u32 0, .bool false, .int .i64 0, .int .i64 0, .bool false, .bool false, .bool false, .bool false, .bool false, .bool false, .bool false, .bool false, .int .i64 0, .bool false, .bool false, .bool false] 25)).alloc (.cells #[.int .i64 0, .int .i64 0, .int .i64 0, .bool false, .int .i64 0, .int .i64 0, .int .i64 0, .int .i64 0, .int .u32 0, .bool false, .int .i64 0, .int .i64 0, .bool false, .bool false, .bool false, .bool false, .bool false, .bool false, .bool false, .bool false, .int .i64 0, .bool false, .bool false, .bool false] 25)).heap[w.heap.size]? = some (.cells #[.int .i64 0, .int .i64 c, .int .i64 0, .bool false, .int .i64 d, .int .i64 n, .int .i64 s, .int .i64 m, .int .u32 0, .bool false, .int .i64 0, .int .i64 0, .bool false, .bool false, .bool false, .bool false, .bool false, .bool false, .bool false, .bool false, .int .i64 0, .bool false, .bool false, .bool false] 25) := alloc_old _ (alloc_new _ _)
      have A2 : ((w.alloc (.cells #[.int .i64 0, .int .i64 c, .int .i64 0, .bool false, .int .i64 d, .int .i64 n, .int .i64 s, .int .i64 m, .int .u32 0, .bool false, .int .i64 0, .int .i64 0, .bool false, .bool false, .bool false, .bool false, .bool false, .bool false, .bool false, .bool false, .int .i64 0, .bool false, .bool false, .bool false] 25)).alloc (.cells #[.int .i64 0, .int .i64 0, .int .i64 0, .bool false, .int .i64 0, .int .i64 0, .int .i64 0, .int .i64 0, .int .u32 0, .bool false, .int .i64 0, .int .i64 0, .bool false, .bool false, .bool false, .bool false, .bool false, .bool false, .bool false, .bool false, .int .i64 0, .bool false, .bool false, .bool false] 25)).heap[w.heap.size + 1]? = some (.cells #[.int .i64 0, .int .i64 0, .int .i64 0, .bool false, .int .i64 0, .int .i64 0, .int .i64 0, .int .i64 0, .int .u32 0, .bool false, .int .i64 0, .int .i64 0, .bool false, .bool false, .bool false, .bool false, .bool false, .bool false, .bool false, .bool false, .int .i64 0, .bool false, .bool false, .bool false] 25) := by have := alloc_new (w.alloc (.cells #[.int .i64 0, .int .i64 c, .int .i64 0, .bool false, .int .i64 d, .int .i64 n, .int .i64 s, .int .i64 m, .int .u32 0, .bool false, .int .i64 0, .int .i64 0, .bool false, .bool false, .bool false, .bool false, .bool false, .bool false, .bool false, .bool false, .int .i64 0, .bool false, .bool false, .bool false] 25)) (.cells #[.int .i64 0, .int .i64 0, .int .i64 0, .bool false, .int .i64 0, .int .i64 0, .int .i64 0, .int .i64 0, .int .u32 0, .bool false, .int .i64 0, .int .i64 0, .bool false, .bool false, .bool false, .bool false, .bool false, .bool false, .bool false, .bool false, .int .i64 0, .bool false, .bool false, .bool false] 25); simpa using this
      have hB : Below w.heap.size w ((w.alloc (.cells #[.int .i64 0, .int .i64 c, .int .i64 0, .bool false, .int .i64 d, .int .i64 n, .int .i64 s, .int .i64 m, .int .u32 0, .bool false, .int .i64 0, .int .i64 0, .bool false, .bool false, .bool false, .bool false, .bool false, .bool false, .bool false, .bool false, .int .i64 0, .bool false, .bool false, .bool false] 25)).alloc (.cells #[.int .i64 0, .int .i64 0, .int .i64 0, .bool false, .int .i64 0, .int .i64 0, .int .i64 0, .int .i64 0, .int .u32 0, .bool false, .int .i64 0, .int .i64 0, .bool false, .bool false, .bool false, .bool false, .bool false, .bool false, .bool false, .bool false, .int .i64 0, .bool false, .bool false, .bool false] 25)) := ((Below.refl _ _).alloc (Nat.le_refl _) _).alloc (by simp) _
      generalize (w.alloc (.cells #[.int .i64 0, .int .i64 c, .int .i64 0, .bool false, .int .i64 d, .int .i64 n, .int .i64 s, .int .i64 m, .int .u32 0, .bool false, .int .i64 0, .int .i64 0, .bool false, .bool false, .bool false, .bool false, .bool false, .bool false, .bool false, .bool false, .int .i64 0, .bool false, .bool false, .bool false] 25)).alloc (.cells #[.int .i64 0, .int .i64 0, .int .i64 0, .bool false, .int .i64 0, .int .i64 0, .int .i64 0, .int .i64 0, .int .u32 0, .bool false, .int .i64 0, .int .i64 0, .bool false, .bool false, .bool false, .bool false, .bool false, .bool false, .bool false, .bool false, .int .i64 0, .bool false, .bool false, .bool false] 25) = W at *
      have A1H := Lib.hid A1
      have A2H := Lib.hid A2
      have hBH := Lib.hid hB
      clear A1 A2 hB
      have C1 : W.cell? ⟨w.heap.size, 1, none⟩ = some (.int .i64 c) := cellsAt A1H.out 1
      have C4 : W.cell? ⟨w.heap.size, 4, none⟩ = some (.int .i64 d) := cellsAt A1H.out 4
      have C5 : W.cell? ⟨w.heap.size, 5, none⟩ = some (.int .i64 n) := cellsAt A1H.out 5
      have C6 : W.cell? ⟨w.heap.size, 6, none⟩ = some (.int .i64 s) := cellsAt A1H.out 6
      have C7 : W.cell? ⟨w.heap.size, 7, none⟩ = some (.int .i64 m) := cellsAt A1H.out 7
      have S1 := sizeAt A1H.out
      have S2 := sizeAt A2H.out
      go_wp2_with (first | (go_at_call 11; ((with_reducible refine (H21.out _).mono ?_); rintro e w' ⟨rfl, rfl⟩)) | (go_at_call 11; ((with_reducible refine (H22.out _).mono ?_); rintro e w' ⟨rfl, rfl⟩)) | (refine wpList_store_row rfl 25 (.tmp 6) (.tmp 75) rfl (w.heap.size + 1) _ rfl rfl 25 _ (A2H.out) info25 rfl (by simp [Value.oneCell']) ?_))
      exact bodyPost_ret (results_cell_row rfl _ _ (w.heap.size + 1) 25 _ _ _ rfl (setRow_heap _ _ _ _ _ _ (A2H.out)) Try.underlying25 rfl info25) rfl ⟨rfl, below_only (hBH.out) (Only.setRow (Only.refl (A2H.out))) (by omega) (hBH.out).size⟩
  · rw [if_neg (fun h => by cases h.1), if_neg (fun h => by cases h.1)]
    by_cases q3 : b21 = true ∧ d = 15 ∧ (true = true ∨ v3 = 0)
    · obtain ⟨rfl, qd, _⟩ := q3
      rw [if_pos ⟨rfl, qd, .inl rfl⟩, if_pos rfl]
      have e3 : (d == 15) = true := by simpa using qd
      clear qd
      try simp only [none_]
      go_enter Try.func22, Try.ntmps22
      go_upto_region 1 with fail
      have A1 : ((w.alloc (.cells #[.int .i64 0, .int .i64 c, .int .i64 0, .bool false, .int .i64 d, .int .i64 n, .int .i64 s, .int .i64 m, .int .u32 0, .bool false, .int .i64 0, .int .i64 0, .bool false, .bool false, .bool false, .bool false, .bool false, .bool false, .bool false, .bool false, .int .i64 0, .bool false, .bool false, .bool false] 25)).alloc (.cells #[.int .i64 0, .int .i64 0, .int .i64 0, .bool false, .int .i64 0, .int .i64 0, .int .i64 0, .int .i64 0, .int .u32 0, .bool false, .int .i64 0, .int .i64 0, .bool false, .bool false, .bool false, .bool false, .bool false, .bool false, .bool false, .bool false, .int .i64 0, .bool false, .bool false, .bool false] 25)).heap[w.heap.size]? = some (.cells #[.int .i64 0, .int .i64 c, .int .i64 0, .bool false, .int .i64 d, .int .i64 n, .int .i64 s, .int .i64 m, .int .u32 0, .bool false, .int .i64 0, .int .i64 0, .bool false, .bool false, .bool false, .bool false, .bool false, .bool false, .bool false, .bool false, .int .i64 0, .bool false, .bool false, .bool false] 25) := alloc_old _ (alloc_new _ _)
      have A2 : ((w.alloc (.cells #[.int .i64 0, .int .i64 c, .int .i64 0, .bool false, .int .i64 d, .int .i64 n, .int .i64 s, .int .i64 m, .int .u32 0, .bool false, .int .i64 0, .int .i64 0, .bool false, .bool false, .bool false, .bool false, .bool false, .bool false, .bool false, .bool false, .int .i64 0, .bool false, .bool false, .bool false] 25)).alloc (.cells #[.int .i64 0, .int .i64 0, .int .i64 0, .bool false, .int .i64 0, .int .i64 0, .int .i64 0, .int .i64 0, .int .u32 0, .bool false, .int .i64 0, .int .i64 0, .bool false, .bool false, .bool false, .bool false, .bool false, .bool false, .bool false, .bool false, .int .i64 0, .bool false, .bool false, .bool false] 25)).heap[w.heap.size + 1]? = some (.cells #[.int .i64 0, .int .i64 0, .int .i64 0, .bool false, .int .i64 0, .int .i64 0, .int .i64 0, .int .i64 0, .int .u32 0, .bool false, .int .i64 0, .int .i64 0, .bool false, .bool false, .bool false, .bool false, .bool false, .bool false, .bool false, .bool false, .int .i64 0, .bool false, .bool false, .bool false] 25) := by have := alloc_new (w.alloc (.cells #[.int .i64 0, .int .i64 c, .int .i64 0, .bool false, .int .i64 d, .int .i64 n, .int .i64 s, .int .i64 m, .int .u32 0, .bool false, .int .i64 0, .int .i64 0, .bool false, .bool false, .bool false, .bool false, .bool false, .bool false, .bool false, .bool false, .int .i64 0, .bool false, .bool false, .bool false] 25)) (.cells #[.int .i64 0, .int .i64 0, .int .i64 0, .bool false, .int .i64 0, .int .i64 0, .int .i64 0, .int .i64 0, .int .u32 0, .bool false, .int .i64 0, .int .i64 0, .bool false, .bool false, .bool false, .bool false, .bool false, .bool false, .bool false, .bool false, .int .i64 0, .bool false, .bool false, .bool false] 25); simpa using this
      have hB : Below w.heap.size w ((w.alloc (.cells #[.int .i64 0, .int .i64 c, .int .i64 0, .bool false, .int .i64 d, .int .i64 n, .int .i64 s, .int .i64 m, .int .u32 0, .bool false, .int .i64 0, .int .i64 0, .bool false, .bool false, .bool false, .bool false, .bool false, .bool false, .bool false, .bool false, .int .i64 0, .bool false, .bool false, .bool false] 25)).alloc (.cells #[.int .i64 0, .int .i64 0, .int .i64 0, .bool false, .int .i64 0, .int .i64 0, .int .i64 0, .int .i64 0, .int .u32 0, .bool false, .int .i64 0, .int .i64 0, .bool false, .bool false, .bool false, .bool false, .bool false, .bool false, .bool false, .bool false, .int .i64 0, .bool false, .bool false, .bool false] 25)) := ((Below.refl _ _).alloc (Nat.le_refl _) _).alloc (by simp) _
      generalize (w.alloc (.cells #[.int .i64 0, .int .i64 c, .int .i64 0, .bool false, .int .i64 d, .int .i64 n, .int .i64 s, .int .i64 m, .int .u32 0, .bool false, .int .i64 0, .int .i64 0, .bool false, .bool false, .bool false, .bool false, .bool false, .bool false, .bool false, .bool false, .int .i64 0, .bool false, .bool false, .bool false] 25)).alloc (.cells #[.int .i64 0, .int .i64 0, .int .i64 0, .bool false, .int .i64 0, .int .i64 0, .int .i64 0, .int .i64 0, .int .u32 0, .bool false, .int .i64 0, .int .i64 0, .bool false, .bool false, .bool false, .bool false, .bool false, .bool false, .bool false, .bool false, .int .i64 0, .bool false, .bool false, .bool false] 25) = W at *
      have A1H := Lib.hid A1
      have A2H := Lib.hid A2
      have hBH := Lib.hid hB
      clear A1 A2 hB
      have C1 : W.cell? ⟨w.heap.size, 1, none⟩ = some (.int .i64 c) := cellsAt A1H.out 1
      have C4 : W.cell? ⟨w.heap.size, 4, none⟩ = some (.int .i64 d) := cellsAt A1H.out 4
      have C5 : W.cell? ⟨w.heap.size, 5, none⟩ = some (.int .i64 n) := cellsAt A1H.out 5
      have C6 : W.cell? ⟨w.heap.size, 6, none⟩ = some (.int .i64 s) := cellsAt A1H.out 6
      have C7 : W.cell? ⟨w.heap.size, 7, none⟩ = some (.int .i64 m) := cellsAt A1H.out 7
      have S1 := sizeAt A1H.out
      have S2 := sizeAt A2H.out
      go_wp2_with (first | (go_at_call 11; ((with_reducible refine (H21.out _).mono ?_); rintro e w' ⟨rfl, rfl⟩)) | (go_at_call 11; ((with_reducible refine (H22.out _).mono ?_); rintro e w' ⟨rfl, rfl⟩)))
      refine region_alloc 7 (by kernel_rfl) (by kernel_rfl) _ _ 25 7 60 #[.int .i64 0, .int .i64 0, .int .i64 0, .bool false, .int .i64 0, .int .i64 0, .int .i64 0, .int .i64 0, .int .u32 0, .bool false, .int .i64 0, .int .i64 0, .bool false, .bool false, .bool false, .bool false, .bool false, .bool false, .bool false, .bool false, .int .i64 0, .bool false, .bool false, .bool false] rfl rfl rfl rfl rfl (fun a w => kA25 _ _ _ rfl) rfl rfl rfl (by decide) (by simp) info25 ?_
      simp only [List.take_succ_cons, List.take_zero]
      have HC1 := Lib.hid C1
      have HC4 := Lib.hid C4
      have HC5 := Lib.hid C5
      have HC6 := Lib.hid C6
      have HC7 := Lib.hid C7
      have HS1 := Lib.hid S1
      repeat (refine wpSure_next ?_ (fun w' hw' J hJ => ?_) (fun L hL => ?_); rotate_left; (have D1 := (hw'.2 _ 1 HS1.out).trans HC1.out; have D4 := (hw'.2 _ 4 HS1.out).trans HC4.out; have D5 := (hw'.2 _ 5 HS1.out).trans HC5.out; have D6 := (hw'.2 _ 6 HS1.out).trans HC6.out; have D7 := (hw'.2 _ 7 HS1.out).trans HC7.out; clear hw'; unfold stillK; go_simp; (first | exact hJ | ((with_reducible refine ⟨_, Wk.flip (H21.out _), ?_⟩); exact hJ) | ((with_reducible refine ⟨_, Wk.flip (H22.out _), ?_⟩); exact hJ))); (go_simp; refine hL _ ?_; clear hL L))
      refine wpSure_nil ?_
      refine ⟨by simp, _, rfl, rfl, by simp [Value.oneCell'], ?_⟩
      go_wp2_with (first | (go_at_call 11; ((with_reducible refine (H21.out _).mono ?_); rintro e w' ⟨rfl, rfl⟩)) | (go_at_call 11; ((with_reducible refine (H22.out _).mono ?_); rintro e w' ⟨rfl, rfl⟩)) | (refine wpList_load_row rfl 25 (.tmp 7) rfl (W.heap.size) rfl 25 _ (0, 0) _ (drew_heap (alloc_new W _)) Try.underlying25 rfl info25 ?_) | (refine wpList_store_row rfl 25 (.tmp 6) (.tmp 72) rfl (w.heap.size + 1) _ rfl rfl 25 _ (drew_heap (alloc_old _ A2H.out)) info25 rfl (by simp [Value.oneCell']) ?_))
      exact bodyPost_ret (results_cell_row rfl _ _ (w.heap.size + 1) 25 _ _ _ rfl (setRow_heap _ _ _ _ _ _ (drew_heap (alloc_old _ A2H.out))) Try.underlying25 rfl info25) rfl ⟨rfl, below_only (below_d1 (hBH.out.alloc hBH.out.size _)) (Only.setRow (Only.refl (drew_heap (alloc_old _ A2H.out)))) (by omega) (below_d1 (hBH.out.alloc hBH.out.size _)).size⟩
    have tst : b21 = false ∨ (b21 = true ∧ (d == 15) = false) := by
      cases b21
      · exact .inl rfl
      · exact .inr ⟨rfl, by simp; exact fun e => q3 ⟨rfl, e, .inl rfl⟩⟩
    rw [if_neg q3]
    clear q3
    rcases tst with rfl | ⟨rfl, e3⟩
    all_goals
      try simp only [none_]
      go_enter Try.func22, Try.ntmps22
      go_upto_region 1 with fail
      have A1 : ((w.alloc (.cells #[.int .i64 0, .int .i64 c, .int .i64 0, .bool false, .int .i64 d, .int .i64 n, .int .i64 s, .int .i64 m, .int .u32 0, .bool false, .int .i64 0, .int .i64 0, .bool false, .bool false, .bool false, .bool false, .bool false, .bool false, .bool false, .bool false, .int .i64 0, .bool false, .bool false, .bool false] 25)).alloc (.cells #[.int .i64 0, .int .i64 0, .int .i64 0, .bool false, .int .i64 0, .int .i64 0, .int .i64 0, .int .i64 0, .int .u32 0, .bool false, .int .i64 0, .int .i64 0, .bool false, .bool false, .bool false, .bool false, .bool false, .bool false, .bool false, .bool false, .int .i64 0, .bool false, .bool false, .bool false] 25)).heap[w.heap.size]? = some (.cells #[.int .i64 0, .int .i64 c, .int .i64 0, .bool false, .int .i64 d, .int .i64 n, .int .i64 s, .int .i64 m, .int .u32 0, .bool false, .int .i64 0, .int .i64 0, .bool false, .bool false, .bool false, .bool false, .bool false, .bool false, .bool false, .bool false, .int .i64 0, .bool false, .bool false, .bool false] 25) := alloc_old _ (alloc_new _ _)
      have A2 : ((w.alloc (.cells #[.int .i64 0, .int .i64 c, .int .i64 0, .bool false, .int .i64 d, .int .i64 n, .int .i64 s, .int .i64 m, .int .u32 0, .bool false, .int .i64 0, .int .i64 0, .bool false, .bool false, .bool false, .bool false, .bool false, .bool false, .bool false, .bool false, .int .i64 0, .bool false, .bool false, .bool false] 25)).alloc (.cells #[.int .i64 0, .int .i64 0, .int .i64 0, .bool false, .int .i64 0, .int .i64 0, .int .i64 0, .int .i64 0, .int .u32 0, .bool false, .int .i64 0, .int .i64 0, .bool false, .bool false, .bool false, .bool false, .bool false, .bool false, .bool false, .bool false, .int .i64 0, .bool false, .bool false, .bool false] 25)).heap[w.heap.size + 1]? = some (.cells #[.int .i64 0, .int .i64 0, .int .i64 0, .bool false, .int .i64 0, .int .i64 0, .int .i64 0, .int .i64 0, .int .u32 0, .bool false, .int .i64 0, .int .i64 0, .bool false, .bool false, .bool false, .bool false, .bool false, .bool false, .bool false, .bool false, .int .i64 0, .bool false, .bool false, .bool false] 25) := by have := alloc_new (w.alloc (.cells #[.int .i64 0, .int .i64 c, .int .i64 0, .bool false, .int .i64 d, .int .i64 n, .int .i64 s, .int .i64 m, .int .u32 0, .bool false, .int .i64 0, .int .i64 0, .bool false, .bool false, .bool false, .bool false, .bool false, .bool false, .bool false, .bool false, .int .i64 0, .bool false, .bool false, .bool false] 25)) (.cells #[.int .i64 0, .int .i64 0, .int .i64 0, .bool false, .int .i64 0, .int .i64 0, .int .i64 0, .int .i64 0, .int .u32 0, .bool false, .int .i64 0, .int .i64 0, .bool false, .bool false, .bool false, .bool false, .bool false, .bool false, .bool false, .bool false, .int .i64 0, .bool false, .bool false, .bool false] 25); simpa using this
      have hB : Below w.heap.size w ((w.alloc (.cells #[.int .i64 0, .int .i64 c, .int .i64 0, .bool false, .int .i64 d, .int .i64 n, .int .i64 s, .int .i64 m, .int .u32 0, .bool false, .int .i64 0, .int .i64 0, .bool false, .bool false, .bool false, .bool false, .bool false, .bool false, .bool false, .bool false, .int .i64 0, .bool false, .bool false, .bool false] 25)).alloc (.cells #[.int .i64 0, .int .i64 0, .int .i64 0, .bool false, .int .i64 0, .int .i64 0, .int .i64 0, .int .i64 0, .int .u32 0, .bool false, .int .i64 0, .int .i64 0, .bool false, .bool false, .bool false, .bool false, .bool false, .bool false, .bool false, .bool false, .int .i64 0, .bool false, .bool false, .bool false] 25)) := ((Below.refl _ _).alloc (Nat.le_refl _) _).alloc (by simp) _
      generalize (w.alloc (.cells #[.int .i64 0, .int .i64 c, .int .i64 0, .bool false, .int .i64 d, .int .i64 n, .int .i64 s, .int .i64 m, .int .u32 0, .bool false, .int .i64 0, .int .i64 0, .bool false, .bool false, .bool false, .bool false, .bool false, .bool false, .bool false, .bool false, .int .i64 0, .bool false, .bool false, .bool false] 25)).alloc (.cells #[.int .i64 0, .int .i64 0, .int .i64 0, .bool false, .int .i64 0, .int .i64 0, .int .i64 0, .int .i64 0, .int .u32 0, .bool false, .int .i64 0, .int .i64 0, .bool false, .bool false, .bool false, .bool false, .bool false, .bool false, .bool false, .bool false, .int .i64 0, .bool false, .bool false, .bool false] 25) = W at *
      have A1H := Lib.hid A1
      have A2H := Lib.hid A2
      have hBH := Lib.hid hB
      clear A1 A2 hB
      have C1 : W.cell? ⟨w.heap.size, 1, none⟩ = some (.int .i64 c) := cellsAt A1H.out 1
      have C4 : W.cell? ⟨w.heap.size, 4, none⟩ = some (.int .i64 d) := cellsAt A1H.out 4
      have C5 : W.cell? ⟨w.heap.size, 5, none⟩ = some (.int .i64 n) := cellsAt A1H.out 5
      have C6 : W.cell? ⟨w.heap.size, 6, none⟩ = some (.int .i64 s) := cellsAt A1H.out 6
      have C7 : W.cell? ⟨w.heap.size, 7, none⟩ = some (.int .i64 m) := cellsAt A1H.out 7
      have S1 := sizeAt A1H.out
      have S2 := sizeAt A2H.out
      go_wp2_with (first | (go_at_call 11; ((with_reducible refine (H21.out _).mono ?_); rintro e w' ⟨rfl, rfl⟩)) | (go_at_call 11; ((with_reducible refine (H22.out _).mono ?_); rintro e w' ⟨rfl, rfl⟩)) | (refine wpList_store_row rfl 25 (.tmp 6) (.tmp 75) rfl (w.heap.size + 1) _ rfl rfl 25 _ (A2H.out) info25 rfl (by simp [Value.oneCell']) ?_))
      exact bodyPost_ret (results_cell_row rfl _ _ (w.heap.size + 1) 25 _ _ _ rfl (setRow_heap _ _ _ _ _ _ (A2H.out)) Try.underlying25 rfl info25) rfl ⟨rfl, below_only (hBH.out) (Only.setRow (Only.refl (A2H.out))) (by omega) (hBH.out).size⟩
end Go.Proofs.Ytlpjadpjjcpfgaa.Rc
