/- Package arm, walked: what has bits 7 and 4 set. -/
import Derived.Test.YtlpjadpjjcpfgaaRh
namespace Go.Proofs.Ytlpjadpjjcpfgaa.Re
set_option linter.unusedVariables false
set_option linter.unusedSimpArgs false
open Go.RowKit Go.Proofs.Ytlpjadpjjcpfgaa.Bt Go.Proofs.Ytlpjadpjjcpfgaa.Wk Go.Proofs.Ytlpjadpjjcpfgaa.Ra Go.Proofs.Ytlpjadpjjcpfgaa.Rp Go.Proofs.Ytlpjadpjjcpfgaa.Rg Go.Proofs.Ytlpjadpjjcpfgaa.Rb Go.Proofs.Ytlpjadpjjcpfgaa.Rh
set_option maxRecDepth 100000 in
set_option maxHeartbeats 40000000 in
theorem extra_any (x c d n s m : Int) (h0 : 0 ≤ x) (h1 : x < 4294967296) (w : World) :
    Calls Try.prog 12 #[.int .u32 x, .agg #[.int .i64 0, .int .i64 c, .int .i64 0, .bool false, .int .i64 d, .int .i64 n, .int .i64 s, .int .i64 m, .int .u32 0, .bool false, .int .i64 0, .int .i64 0, .bool false, .bool false, .bool false, .bool false, .bool false, .bool false, .bool false, .bool false, .int .i64 0, .bool false, .bool false, .bool false]] w fun e w' => e = .returned (.agg #[.int .i64 (extraP x c d n s m).kd, .int .i64 (extraP x c d n s m).cond, .int .i64 (extraP x c d n s m).code, .bool (extraP x c d n s m).flags, .int .i64 (extraP x c d n s m).rd, .int .i64 (extraP x c d n s m).rn, .int .i64 (extraP x c d n s m).rs, .int .i64 (extraP x c d n s m).rm, .int .u32 (extraP x c d n s m).imm, .bool (extraP x c d n s m).hasImm, .int .i64 (extraP x c d n s m).shift, .int .i64 (extraP x c d n s m).amount, .bool (extraP x c d n s m).byReg, .bool (extraP x c d n s m).load, .bool (extraP x c d n s m).byte, .bool (extraP x c d n s m).signed, .bool (extraP x c d n s m).pre, .bool (extraP x c d n s m).up, .bool (extraP x c d n s m).back, .bool (extraP x c d n s m).user, .int .i64 (extraP x c d n s m).list, .bool (extraP x c d n s m).link, .bool (extraP x c d n s m).long, .bool (extraP x c d n s m).align]) ∧ Below w.heap.size w w' := by
  have H20 : Hid (∀ w, Calls Try.prog 11 #[.int .u32 x, .int .i64 20] w fun e w' => e = .returned (.bool (tb x 20)) ∧ w = w') := Lib.hid fun w => bit_any x 20 h0 h1 (by decide) w
  have H21 : Hid (∀ w, Calls Try.prog 11 #[.int .u32 x, .int .i64 21] w fun e w' => e = .returned (.bool (tb x 21)) ∧ w = w') := Lib.hid fun w => bit_any x 21 h0 h1 (by decide) w
  have H22 : Hid (∀ w, Calls Try.prog 11 #[.int .u32 x, .int .i64 22] w fun e w' => e = .returned (.bool (tb x 22)) ∧ w = w') := Lib.hid fun w => bit_any x 22 h0 h1 (by decide) w
  have G5_2 : Hid (∀ w, Calls Try.prog 10 #[.int .u32 x, .int .i64 5, .int .i64 2] w fun e w' => e = .returned (.int .i64 (fl x 5 2)) ∧ w' = w.drew) := Lib.hid fun w => field_any x 5 2 h0 h1 (by decide) (by decide) w
  have G22_6 : Hid (∀ w, Calls Try.prog 10 #[.int .u32 x, .int .i64 22, .int .i64 6] w fun e w' => e = .returned (.int .i64 (fl x 22 6)) ∧ w' = w.drew) := Lib.hid fun w => field_any x 22 6 h0 h1 (by decide) (by decide) w
  have G23_5 : Hid (∀ w, Calls Try.prog 10 #[.int .u32 x, .int .i64 23, .int .i64 5] w fun e w' => e = .returned (.int .i64 (fl x 23 5)) ∧ w' = w.drew) := Lib.hid fun w => field_any x 23 5 h0 h1 (by decide) (by decide) w
  have G20_2 : Hid (∀ w, Calls Try.prog 10 #[.int .u32 x, .int .i64 20, .int .i64 2] w fun e w' => e = .returned (.int .i64 (fl x 20 2)) ∧ w' = w.drew) := Lib.hid fun w => field_any x 20 2 h0 h1 (by decide) (by decide) w
  have SC := Lib.hid (fun w => half_any x c d n s m h0 h1 w)
  unfold extraP
  generalize halfP x c d n m = hh at *
  generalize tb x 20 = b20 at *
  generalize tb x 21 = b21 at *
  generalize tb x 22 = b22 at *
  generalize fl x 5 2 = f5_2 at *
  generalize fl x 22 6 = f22_6 at *
  generalize fl x 23 5 = f23_5 at *
  generalize fl x 20 2 = f20_2 at *
  by_cases q1 : f5_2 ≠ 0
  · rw [if_pos q1]
    have e1 : (f5_2 != 0) = true := by simpa using q1
    clear q1
    try simp only [none_]
    go_enter Try.func12, Try.ntmps12
    go_wp2_with fail
    have A1 : ((w.alloc (.cells #[.int .i64 0, .int .i64 c, .int .i64 0, .bool false, .int .i64 d, .int .i64 n, .int .i64 s, .int .i64 m, .int .u32 0, .bool false, .int .i64 0, .int .i64 0, .bool false, .bool false, .bool false, .bool false, .bool false, .bool false, .bool false, .bool false, .int .i64 0, .bool false, .bool false, .bool false] 25)).alloc (.cells #[.int .i64 0, .int .i64 0, .int .i64 0, .bool false, .int .i64 0, .int .i64 0, .int .i64 0, .int .i64 0, .int .u32 0, .bool false, .int .i64 0, .int .i64 0, .bool false, .bool false, .bool false, .bool false, .bool false, .bool false, .bool false, .bool false, .int .i64 0, .bool false, .bool false, .bool false] 25)).heap[w.heap.size]? = some (.cells #[.int .i64 0, .int .i64 c, .int .i64 0, .bool false, .int .i64 d, .int .i64 n, .int .i64 s, .int .i64 m, .int .u32 0, .bool false, .int .i64 0, .int .i64 0, .bool false, .bool false, .bool false, .bool false, .bool false, .bool false, .bool false, .bool false, .int .i64 0, .bool false, .bool false, .bool false] 25) := alloc_old _ (alloc_new _ _)
    have A2 : ((w.alloc (.cells #[.int .i64 0, .int .i64 c, .int .i64 0, .bool false, .int .i64 d, .int .i64 n, .int .i64 s, .int .i64 m, .int .u32 0, .bool false, .int .i64 0, .int .i64 0, .bool false, .bool false, .bool false, .bool false, .bool false, .bool false, .bool false, .bool false, .int .i64 0, .bool false, .bool false, .bool false] 25)).alloc (.cells #[.int .i64 0, .int .i64 0, .int .i64 0, .bool false, .int .i64 0, .int .i64 0, .int .i64 0, .int .i64 0, .int .u32 0, .bool false, .int .i64 0, .int .i64 0, .bool false, .bool false, .bool false, .bool false, .bool false, .bool false, .bool false, .bool false, .int .i64 0, .bool false, .bool false, .bool false] 25)).heap[w.heap.size + 1]? = some (.cells #[.int .i64 0, .int .i64 0, .int .i64 0, .bool false, .int .i64 0, .int .i64 0, .int .i64 0, .int .i64 0, .int .u32 0, .bool false, .int .i64 0, .int .i64 0, .bool false, .bool false, .bool false, .bool false, .bool false, .bool false, .bool false, .bool false, .int .i64 0, .bool false, .bool false, .bool false] 25) := by have := alloc_new (w.alloc (.cells #[.int .i64 0, .int .i64 c, .int .i64 0, .bool false, .int .i64 d, .int .i64 n, .int .i64 s, .int .i64 m, .int .u32 0, .bool false, .int .i64 0, .int .i64 0, .bool false, .bool false, .bool false, .bool false, .bool false, .bool false, .bool false, .bool false, .int .i64 0, .bool false, .bool false, .bool false] 25)) (.cells #[.int .i64 0, .int .i64 0, .int .i64 0, .bool false, .int .i64 0, .int .i64 0, .int .i64 0, .int .i64 0, .int .u32 0, .bool false, .int .i64 0, .int .i64 0, .bool false, .bool false, .bool false, .bool false, .bool false, .bool false, .bool false, .bool false, .int .i64 0, .bool false, .bool false, .bool false] 25); simpa using this
    have hB : Below w.heap.size w ((w.alloc (.cells #[.int .i64 0, .int .i64 c, .int .i64 0, .bool false, .int .i64 d, .int .i64 n, .int .i64 s, .int .i64 m, .int .u32 0, .bool false, .int .i64 0, .int .i64 0, .bool false, .bool false, .bool false, .bool false, .bool false, .bool false, .bool false, .bool false, .int .i64 0, .bool false, .bool false, .bool false] 25)).alloc (.cells #[.int .i64 0, .int .i64 0, .int .i64 0, .bool false, .int .i64 0, .int .i64 0, .int .i64 0, .int .i64 0, .int .u32 0, .bool false, .int .i64 0, .int .i64 0, .bool false, .bool false, .bool false, .bool false, .bool false, .bool false, .bool false, .bool false, .int .i64 0, .bool false, .bool false, .bool false] 25)) := ((Below.refl _ _).alloc (Nat.le_refl _) _).alloc (by simp) _
    generalize (w.alloc (.cells #[.int .i64 0, .int .i64 c, .int .i64 0, .bool false, .int .i64 d, .int .i64 n, .int .i64 s, .int .i64 m, .int .u32 0, .bool false, .int .i64 0, .int .i64 0, .bool false, .bool false, .bool false, .bool false, .bool false, .bool false, .bool false, .bool false, .int .i64 0, .bool false, .bool false, .bool false] 25)).alloc (.cells #[.int .i64 0, .int .i64 0, .int .i64 0, .bool false, .int .i64 0, .int .i64 0, .int .i64 0, .int .i64 0, .int .u32 0, .bool false, .int .i64 0, .int .i64 0, .bool false, .bool false, .bool false, .bool false, .bool false, .bool false, .bool false, .bool false, .int .i64 0, .bool false, .bool false, .bool false] 25) = W at *
    have A1H := Lib.hid A1
    have A2H := Lib.hid A2
    have hBH := Lib.hid hB
    clear A1 A2 hB
    have C1 : W.cell? ⟨w.heap.size, 1, none⟩ = some (.int .i64 c) := cellsAt A1H.out 1
    have C4 : W.cell? ⟨w.heap.size, 4, none⟩ = some (.int .i64 d) := cellsAt A1H.out 4
    have C5 : W.cell? ⟨w.heap.size, 5, none⟩ = some (.int .i64 n) := cellsAt A1H.out 5
    have C6 : W.cell? ⟨w.heap.size, 6, none⟩ = some (.int .i64 s) := cellsAt A1H.out 6
    have C7 : W.cell? ⟨w.heap.size, 7, none⟩ = some (.int .i64 m) := cellsAt A1H.out 7
    have S1 := sizeAt A1H.out
    have S2 := sizeAt A2H.out
    go_wp2_with fail
    refine (G5_2.out _).mono ?_
    rintro e w' ⟨rfl, rfl⟩
    have A1' := Lib.hid (drew_heap A1H.out)
    have A2' := Lib.hid (drew_heap A2H.out)
    have hB' := Lib.hid (below_d1 hBH.out)
    clear A1H A2H hBH C1 C4 C5 C6 C7 S1 S2
    generalize W.drew = W' at *
    obtain ⟨W, rfl⟩ : ∃ v : World, v = W' := ⟨_, rfl⟩
    have A1H := A1'
    have A2H := A2'
    have hBH := hB'
    clear A1' A2' hB'
    have C1 : W.cell? ⟨w.heap.size, 1, none⟩ = some (.int .i64 c) := cellsAt A1H.out 1
    have C4 : W.cell? ⟨w.heap.size, 4, none⟩ = some (.int .i64 d) := cellsAt A1H.out 4
    have C5 : W.cell? ⟨w.heap.size, 5, none⟩ = some (.int .i64 n) := cellsAt A1H.out 5
    have C6 : W.cell? ⟨w.heap.size, 6, none⟩ = some (.int .i64 s) := cellsAt A1H.out 6
    have C7 : W.cell? ⟨w.heap.size, 7, none⟩ = some (.int .i64 m) := cellsAt A1H.out 7
    have S1 := sizeAt A1H.out
    have S2 := sizeAt A2H.out
    go_wp2_with (first | (go_at_call 11; ((with_reducible refine (H20.out _).mono ?_); rintro e w' ⟨rfl, rfl⟩)) | (go_at_call 11; ((with_reducible refine (H21.out _).mono ?_); rintro e w' ⟨rfl, rfl⟩)) | (go_at_call 11; ((with_reducible refine (H22.out _).mono ?_); rintro e w' ⟨rfl, rfl⟩)) | (refine wpList_load_row rfl 25 (.tmp 3) rfl (w.heap.size) rfl 25 _ (0, 0) _ (A1H.out) Try.underlying25 rfl info25 ?_))
    refine (SC.out _).mono ?_
    rintro e w2 ⟨rfl, hb⟩
    go_wp2_with (refine wpList_store_row rfl 25 (.tmp 4) (.tmp 10) rfl (w.heap.size + 1) _ rfl rfl 25 _ (keep hb A2H.out) info25 rfl (by simp [Value.oneCell']) ?_)
    exact bodyPost_ret (results_cell_row rfl _ _ (w.heap.size + 1) 25 _ _ _ rfl (setRow_heap _ _ _ _ _ _ (keep hb A2H.out)) Try.underlying25 rfl info25) rfl ⟨rfl, below_only (below_then hBH.out hb hBH.out.size) (Only.setRow (Only.refl (keep hb A2H.out))) (by omega) (below_then hBH.out hb hBH.out.size).size⟩
  rw [if_neg q1]
  have e1 : (f5_2 != 0) = false := by have := Decidable.not_not.1 q1; simp [this]
  clear q1 SC
  by_cases q2 : f22_6 = 0
  · rw [if_pos q2]
    have e2 : (f22_6 == 0) = true := by simpa using q2
    clear q2
    try simp only [none_]
    go_enter Try.func12, Try.ntmps12
    go_wp2_with fail
    have A1 : ((w.alloc (.cells #[.int .i64 0, .int .i64 c, .int .i64 0, .bool false, .int .i64 d, .int .i64 n, .int .i64 s, .int .i64 m, .int .u32 0, .bool false, .int .i64 0, .int .i64 0, .bool false, .bool false, .bool false, .bool false, .bool false, .bool false, .bool false, .bool false, .int .i64 0, .bool false, .bool false, .bool false] 25)).alloc (.cells #[.int .i64 0, .int .i64 0, .int .i64 0, .bool false, .int .i64 0, .int .i64 0, .int .i64 0, .int .i64 0, .int .u32 0, .bool false, .int .i64 0, .int .i64 0, .bool false, .bool false, .bool false, .bool false, .bool false, .bool false, .bool false, .bool false, .int .i64 0, .bool false, .bool false, .bool false] 25)).heap[w.heap.size]? = some (.cells #[.int .i64 0, .int .i64 c, .int .i64 0, .bool false, .int .i64 d, .int .i64 n, .int .i64 s, .int .i64 m, .int .u32 0, .bool false, .int .i64 0, .int .i64 0, .bool false, .bool false, .bool false, .bool false, .bool false, .bool false, .bool false, .bool false, .int .i64 0, .bool false, .bool false, .bool false] 25) := alloc_old _ (alloc_new _ _)
    have A2 : ((w.alloc (.cells #[.int .i64 0, .int .i64 c, .int .i64 0, .bool false, .int .i64 d, .int .i64 n, .int .i64 s, .int .i64 m, .int .u32 0, .bool false, .int .i64 0, .int .i64 0, .bool false, .bool false, .bool false, .bool false, .bool false, .bool false, .bool false, .bool false, .int .i64 0, .bool false, .bool false, .bool false] 25)).alloc (.cells #[.int .i64 0, .int .i64 0, .int .i64 0, .bool false, .int .i64 0, .int .i64 0, .int .i64 0, .int .i64 0, .int .u32 0, .bool false, .int .i64 0, .int .i64 0, .bool false, .bool false, .bool false, .bool false, .bool false, .bool false, .bool false, .bool false, .int .i64 0, .bool false, .bool false, .bool false] 25)).heap[w.heap.size + 1]? = some (.cells #[.int .i64 0, .int .i64 0, .int .i64 0, .bool false, .int .i64 0, .int .i64 0, .int .i64 0, .int .i64 0, .int .u32 0, .bool false, .int .i64 0, .int .i64 0, .bool false, .bool false, .bool false, .bool false, .bool false, .bool false, .bool false, .bool false, .int .i64 0, .bool false, .bool false, .bool false] 25) := by have := alloc_new (w.alloc (.cells #[.int .i64 0, .int .i64 c, .int .i64 0, .bool false, .int .i64 d, .int .i64 n, .int .i64 s, .int .i64 m, .int .u32 0, .bool false, .int .i64 0, .int .i64 0, .bool false, .bool false, .bool false, .bool false, .bool false, .bool false, .bool false, .bool false, .int .i64 0, .bool false, .bool false, .bool false] 25)) (.cells #[.int .i64 0, .int .i64 0, .int .i64 0, .bool false, .int .i64 0, .int .i64 0, .int .i64 0, .int .i64 0, .int .u32 0, .bool false, .int .i64 0, .int .i64 0, .bool false, .bool false, .bool false, .bool false, .bool false, .bool false, .bool false, .bool false, .int .i64 0, .bool false, .bool false, .bool false] 25); simpa using this
    have hB : Below w.heap.size w ((w.alloc (.cells #[.int .i64 0, .int .i64 c, .int .i64 0, .bool false, .int .i64 d, .int .i64 n, .int .i64 s, .int .i64 m, .int .u32 0, .bool false, .int .i64 0, .int .i64 0, .bool false, .bool false, .bool false, .bool false, .bool false, .bool false, .bool false, .bool false, .int .i64 0, .bool false, .bool false, .bool false] 25)).alloc (.cells #[.int .i64 0, .int .i64 0, .int .i64 0, .bool false, .int .i64 0, .int .i64 0, .int .i64 0, .int .i64 0, .int .u32 0, .bool false, .int .i64 0, .int .i64 0, .bool false, .bool false, .bool false, .bool false, .bool false, .bool false, .bool false, .bool false, .int .i64 0, .bool false, .bool false, .bool false] 25)) := ((Below.refl _ _).alloc (Nat.le_refl _) _).alloc (by simp) _
    generalize (w.alloc (.cells #[.int .i64 0, .int .i64 c, .int .i64 0, .bool false, .int .i64 d, .int .i64 n, .int .i64 s, .int .i64 m, .int .u32 0, .bool false, .int .i64 0, .int .i64 0, .bool false, .bool false, .bool false, .bool false, .bool false, .bool false, .bool false, .bool false, .int .i64 0, .bool false, .bool false, .bool false] 25)).alloc (.cells #[.int .i64 0, .int .i64 0, .int .i64 0, .bool false, .int .i64 0, .int .i64 0, .int .i64 0, .int .i64 0, .int .u32 0, .bool false, .int .i64 0, .int .i64 0, .bool false, .bool false, .bool false, .bool false, .bool false, .bool false, .bool false, .bool false, .int .i64 0, .bool false, .bool false, .bool false] 25) = W at *
    have A1H := Lib.hid A1
    have A2H := Lib.hid A2
    have hBH := Lib.hid hB
    clear A1 A2 hB
    have C1 : W.cell? ⟨w.heap.size, 1, none⟩ = some (.int .i64 c) := cellsAt A1H.out 1
    have C4 : W.cell? ⟨w.heap.size, 4, none⟩ = some (.int .i64 d) := cellsAt A1H.out 4
    have C5 : W.cell? ⟨w.heap.size, 5, none⟩ = some (.int .i64 n) := cellsAt A1H.out 5
    have C6 : W.cell? ⟨w.heap.size, 6, none⟩ = some (.int .i64 s) := cellsAt A1H.out 6
    have C7 : W.cell? ⟨w.heap.size, 7, none⟩ = some (.int .i64 m) := cellsAt A1H.out 7
    have S1 := sizeAt A1H.out
    have S2 := sizeAt A2H.out
    go_wp2_with fail
    refine (G5_2.out _).mono ?_
    rintro e w' ⟨rfl, rfl⟩
    have A1' := Lib.hid (drew_heap A1H.out)
    have A2' := Lib.hid (drew_heap A2H.out)
    have hB' := Lib.hid (below_d1 hBH.out)
    clear A1H A2H hBH C1 C4 C5 C6 C7 S1 S2
    generalize W.drew = W' at *
    obtain ⟨W, rfl⟩ : ∃ v : World, v = W' := ⟨_, rfl⟩
    have A1H := A1'
    have A2H := A2'
    have hBH := hB'
    clear A1' A2' hB'
    have C1 : W.cell? ⟨w.heap.size, 1, none⟩ = some (.int .i64 c) := cellsAt A1H.out 1
    have C4 : W.cell? ⟨w.heap.size, 4, none⟩ = some (.int .i64 d) := cellsAt A1H.out 4
    have C5 : W.cell? ⟨w.heap.size, 5, none⟩ = some (.int .i64 n) := cellsAt A1H.out 5
    have C6 : W.cell? ⟨w.heap.size, 6, none⟩ = some (.int .i64 s) := cellsAt A1H.out 6
    have C7 : W.cell? ⟨w.heap.size, 7, none⟩ = some (.int .i64 m) := cellsAt A1H.out 7
    have S1 := sizeAt A1H.out
    have S2 := sizeAt A2H.out
    go_wp2_with fail
    refine (G22_6.out _).mono ?_
    rintro e w' ⟨rfl, rfl⟩
    have A1' := Lib.hid (drew_heap A1H.out)
    have A2' := Lib.hid (drew_heap A2H.out)
    have hB' := Lib.hid (below_d1 hBH.out)
    clear A1H A2H hBH C1 C4 C5 C6 C7 S1 S2
    generalize W.drew = W' at *
    obtain ⟨W, rfl⟩ : ∃ v : World, v = W' := ⟨_, rfl⟩
    have A1H := A1'
    have A2H := A2'
    have hBH := hB'
    clear A1' A2' hB'
    have C1 : W.cell? ⟨w.heap.size, 1, none⟩ = some (.int .i64 c) := cellsAt A1H.out 1
    have C4 : W.cell? ⟨w.heap.size, 4, none⟩ = some (.int .i64 d) := cellsAt A1H.out 4
    have C5 : W.cell? ⟨w.heap.size, 5, none⟩ = some (.int .i64 n) := cellsAt A1H.out 5
    have C6 : W.cell? ⟨w.heap.size, 6, none⟩ = some (.int .i64 s) := cellsAt A1H.out 6
    have C7 : W.cell? ⟨w.heap.size, 7, none⟩ = some (.int .i64 m) := cellsAt A1H.out 7
    have S1 := sizeAt A1H.out
    have S2 := sizeAt A2H.out
    go_wp2_with fail
    go_still_tail 15, (by kernel_rfl)
    repeat (first | still_step | (refine wpStill_step (fun K hK => ?_); go_simp; (first | (with_reducible refine ⟨_, flip (H20.out _), hK _ ?_⟩) | (with_reducible refine ⟨_, flip (H21.out _), hK _ ?_⟩)); clear hK K))
    refine wpStill_nil ?_
    change wpList _ _ _ _ _ (World.drew _)
    (refine wpList_store_row rfl 25 (.tmp 4) (.tmp 29) rfl (w.heap.size + 1) _ rfl rfl 25 _ (drew_heap (A2H.out)) info25 rfl (by simp [Value.oneCell']) ?_)
    go_wp2_with fail
    exact bodyPost_ret (results_cell_row rfl _ _ (w.heap.size + 1) 25 _ _ _ rfl (setRow_heap _ _ _ _ _ _ (drew_heap (A2H.out))) Try.underlying25 rfl info25) rfl ⟨rfl, below_only (below_d1 (hBH.out)) (Only.setRow (Only.refl (drew_heap (A2H.out)))) (by omega) (below_d1 (hBH.out)).size⟩
  rw [if_neg q2]
  have e2 : (f22_6 == 0) = false := by simpa using q2
  clear q2
  by_cases q3 : f23_5 = 1
  · rw [if_pos q3]
    have e3 : (f23_5 == 1) = true := by simpa using q3
    clear q3
    try simp only [none_]
    go_enter Try.func12, Try.ntmps12
    go_wp2_with fail
    have A1 : ((w.alloc (.cells #[.int .i64 0, .int .i64 c, .int .i64 0, .bool false, .int .i64 d, .int .i64 n, .int .i64 s, .int .i64 m, .int .u32 0, .bool false, .int .i64 0, .int .i64 0, .bool false, .bool false, .bool false, .bool false, .bool false, .bool false, .bool false, .bool false, .int .i64 0, .bool false, .bool false, .bool false] 25)).alloc (.cells #[.int .i64 0, .int .i64 0, .int .i64 0, .bool false, .int .i64 0, .int .i64 0, .int .i64 0, .int .i64 0, .int .u32 0, .bool false, .int .i64 0, .int .i64 0, .bool false, .bool false, .bool false, .bool false, .bool false, .bool false, .bool false, .bool false, .int .i64 0, .bool false, .bool false, .bool false] 25)).heap[w.heap.size]? = some (.cells #[.int .i64 0, .int .i64 c, .int .i64 0, .bool false, .int .i64 d, .int .i64 n, .int .i64 s, .int .i64 m, .int .u32 0, .bool false, .int .i64 0, .int .i64 0, .bool false, .bool false, .bool false, .bool false, .bool false, .bool false, .bool false, .bool false, .int .i64 0, .bool false, .bool false, .bool false] 25) := alloc_old _ (alloc_new _ _)
    have A2 : ((w.alloc (.cells #[.int .i64 0, .int .i64 c, .int .i64 0, .bool false, .int .i64 d, .int .i64 n, .int .i64 s, .int .i64 m, .int .u32 0, .bool false, .int .i64 0, .int .i64 0, .bool false, .bool false, .bool false, .bool false, .bool false, .bool false, .bool false, .bool false, .int .i64 0, .bool false, .bool false, .bool false] 25)).alloc (.cells #[.int .i64 0, .int .i64 0, .int .i64 0, .bool false, .int .i64 0, .int .i64 0, .int .i64 0, .int .i64 0, .int .u32 0, .bool false, .int .i64 0, .int .i64 0, .bool false, .bool false, .bool false, .bool false, .bool false, .bool false, .bool false, .bool false, .int .i64 0, .bool false, .bool false, .bool false] 25)).heap[w.heap.size + 1]? = some (.cells #[.int .i64 0, .int .i64 0, .int .i64 0, .bool false, .int .i64 0, .int .i64 0, .int .i64 0, .int .i64 0, .int .u32 0, .bool false, .int .i64 0, .int .i64 0, .bool false, .bool false, .bool false, .bool false, .bool false, .bool false, .bool false, .bool false, .int .i64 0, .bool false, .bool false, .bool false] 25) := by have := alloc_new (w.alloc (.cells #[.int .i64 0, .int .i64 c, .int .i64 0, .bool false, .int .i64 d, .int .i64 n, .int .i64 s, .int .i64 m, .int .u32 0, .bool false, .int .i64 0, .int .i64 0, .bool false, .bool false, .bool false, .bool false, .bool false, .bool false, .bool false, .bool false, .int .i64 0, .bool false, .bool false, .bool false] 25)) (.cells #[.int .i64 0, .int .i64 0, .int .i64 0, .bool false, .int .i64 0, .int .i64 0, .int .i64 0, .int .i64 0, .int .u32 0, .bool false, .int .i64 0, .int .i64 0, .bool false, .bool false, .bool false, .bool false, .bool false, .bool false, .bool false, .bool false, .int .i64 0, .bool false, .bool false, .bool false] 25); simpa using this
    have hB : Below w.heap.size w ((w.alloc (.cells #[.int .i64 0, .int .i64 c, .int .i64 0, .bool false, .int .i64 d, .int .i64 n, .int .i64 s, .int .i64 m, .int .u32 0, .bool false, .int .i64 0, .int .i64 0, .bool false, .bool false, .bool false, .bool false, .bool false, .bool false, .bool false, .bool false, .int .i64 0, .bool false, .bool false, .bool false] 25)).alloc (.cells #[.int .i64 0, .int .i64 0, .int .i64 0, .bool false, .int .i64 0, .int .i64 0, .int .i64 0, .int .i64 0, .int .u32 0, .bool false, .int .i64 0, .int .i64 0, .bool false, .bool false, .bool false, .bool false, .bool false, .bool false, .bool false, .bool false, .int .i64 0, .bool false, .bool false, .bool false] 25)) := ((Below.refl _ _).alloc (Nat.le_refl _) _).alloc (by simp) _
    generalize (w.alloc (.cells #[.int .i64 0, .int .i64 c, .int .i64 0, .bool false, .int .i64 d, .int .i64 n, .int .i64 s, .int .i64 m, .int .u32 0, .bool false, .int .i64 0, .int .i64 0, .bool false, .bool false, .bool false, .bool false, .bool false, .bool false, .bool false, .bool false, .int .i64 0, .bool false, .bool false, .bool false] 25)).alloc (.cells #[.int .i64 0, .int .i64 0, .int .i64 0, .bool false, .int .i64 0, .int .i64 0, .int .i64 0, .int .i64 0, .int .u32 0, .bool false, .int .i64 0, .int .i64 0, .bool false, .bool false, .bool false, .bool false, .bool false, .bool false, .bool false, .bool false, .int .i64 0, .bool false, .bool false, .bool false] 25) = W at *
    have A1H := Lib.hid A1
    have A2H := Lib.hid A2
    have hBH := Lib.hid hB
    clear A1 A2 hB
    have C1 : W.cell? ⟨w.heap.size, 1, none⟩ = some (.int .i64 c) := cellsAt A1H.out 1
    have C4 : W.cell? ⟨w.heap.size, 4, none⟩ = some (.int .i64 d) := cellsAt A1H.out 4
    have C5 : W.cell? ⟨w.heap.size, 5, none⟩ = some (.int .i64 n) := cellsAt A1H.out 5
    have C6 : W.cell? ⟨w.heap.size, 6, none⟩ = some (.int .i64 s) := cellsAt A1H.out 6
    have C7 : W.cell? ⟨w.heap.size, 7, none⟩ = some (.int .i64 m) := cellsAt A1H.out 7
    have S1 := sizeAt A1H.out
    have S2 := sizeAt A2H.out
    go_wp2_with fail
    refine (G5_2.out _).mono ?_
    rintro e w' ⟨rfl, rfl⟩
    have A1' := Lib.hid (drew_heap A1H.out)
    have A2' := Lib.hid (drew_heap A2H.out)
    have hB' := Lib.hid (below_d1 hBH.out)
    clear A1H A2H hBH C1 C4 C5 C6 C7 S1 S2
    generalize W.drew = W' at *
    obtain ⟨W, rfl⟩ : ∃ v : World, v = W' := ⟨_, rfl⟩
    have A1H := A1'
    have A2H := A2'
    have hBH := hB'
    clear A1' A2' hB'
    have C1 : W.cell? ⟨w.heap.size, 1, none⟩ = some (.int .i64 c) := cellsAt A1H.out 1
    have C4 : W.cell? ⟨w.heap.size, 4, none⟩ = some (.int .i64 d) := cellsAt A1H.out 4
    have C5 : W.cell? ⟨w.heap.size, 5, none⟩ = some (.int .i64 n) := cellsAt A1H.out 5
    have C6 : W.cell? ⟨w.heap.size, 6, none⟩ = some (.int .i64 s) := cellsAt A1H.out 6
    have C7 : W.cell? ⟨w.heap.size, 7, none⟩ = some (.int .i64 m) := cellsAt A1H.out 7
    have S1 := sizeAt A1H.out
    have S2 := sizeAt A2H.out
    go_wp2_with fail
    refine (G22_6.out _).mono ?_
    rintro e w' ⟨rfl, rfl⟩
    have A1' := Lib.hid (drew_heap A1H.out)
    have A2' := Lib.hid (drew_heap A2H.out)
    have hB' := Lib.hid (below_d1 hBH.out)
    clear A1H A2H hBH C1 C4 C5 C6 C7 S1 S2
    generalize W.drew = W' at *
    obtain ⟨W, rfl⟩ : ∃ v : World, v = W' := ⟨_, rfl⟩
    have A1H := A1'
    have A2H := A2'
    have hBH := hB'
    clear A1' A2' hB'
    have C1 : W.cell? ⟨w.heap.size, 1, none⟩ = some (.int .i64 c) := cellsAt A1H.out 1
    have C4 : W.cell? ⟨w.heap.size, 4, none⟩ = some (.int .i64 d) := cellsAt A1H.out 4
    have C5 : W.cell? ⟨w.heap.size, 5, none⟩ = some (.int .i64 n) := cellsAt A1H.out 5
    have C6 : W.cell? ⟨w.heap.size, 6, none⟩ = some (.int .i64 s) := cellsAt A1H.out 6
    have C7 : W.cell? ⟨w.heap.size, 7, none⟩ = some (.int .i64 m) := cellsAt A1H.out 7
    have S1 := sizeAt A1H.out
    have S2 := sizeAt A2H.out
    go_wp2_with fail
    refine (G23_5.out _).mono ?_
    rintro e w' ⟨rfl, rfl⟩
    have A1' := Lib.hid (drew_heap A1H.out)
    have A2' := Lib.hid (drew_heap A2H.out)
    have hB' := Lib.hid (below_d1 hBH.out)
    clear A1H A2H hBH C1 C4 C5 C6 C7 S1 S2
    generalize W.drew = W' at *
    obtain ⟨W, rfl⟩ : ∃ v : World, v = W' := ⟨_, rfl⟩
    have A1H := A1'
    have A2H := A2'
    have hBH := hB'
    clear A1' A2' hB'
    have C1 : W.cell? ⟨w.heap.size, 1, none⟩ = some (.int .i64 c) := cellsAt A1H.out 1
    have C4 : W.cell? ⟨w.heap.size, 4, none⟩ = some (.int .i64 d) := cellsAt A1H.out 4
    have C5 : W.cell? ⟨w.heap.size, 5, none⟩ = some (.int .i64 n) := cellsAt A1H.out 5
    have C6 : W.cell? ⟨w.heap.size, 6, none⟩ = some (.int .i64 s) := cellsAt A1H.out 6
    have C7 : W.cell? ⟨w.heap.size, 7, none⟩ = some (.int .i64 m) := cellsAt A1H.out 7
    have S1 := sizeAt A1H.out
    have S2 := sizeAt A2H.out
    go_wp2_with fail
    go_still_tail 17, (by kernel_rfl)
    repeat (first | still_step | (refine wpStill_step (fun K hK => ?_); go_simp; (first | (with_reducible refine ⟨_, flip (H20.out _), hK _ ?_⟩) | (with_reducible refine ⟨_, flip (H21.out _), hK _ ?_⟩) | (with_reducible refine ⟨_, flip (H22.out _), hK _ ?_⟩)); clear hK K))
    refine wpStill_nil ?_
    change wpList _ _ _ _ _ (World.drew _)
    (refine wpList_store_row rfl 25 (.tmp 4) (.tmp 50) rfl (w.heap.size + 1) _ rfl rfl 25 _ (drew_heap (A2H.out)) info25 rfl (by simp [Value.oneCell']) ?_)
    go_wp2_with fail
    exact bodyPost_ret (results_cell_row rfl _ _ (w.heap.size + 1) 25 _ _ _ rfl (setRow_heap _ _ _ _ _ _ (drew_heap (A2H.out))) Try.underlying25 rfl info25) rfl ⟨rfl, below_only (below_d1 (hBH.out)) (Only.setRow (Only.refl (drew_heap (A2H.out)))) (by omega) (below_d1 (hBH.out)).size⟩
  rw [if_neg q3]
  have e3 : (f23_5 == 1) = false := by simpa using q3
  clear q3
  by_cases q4 : f23_5 = 2 ∧ f20_2 = 0 ∧ s = 0
  · obtain ⟨qa, qb, qc⟩ := q4
    rw [if_pos ⟨qa, qb, qc⟩]
    have e4 : (f23_5 == 2) = true := by simpa using qa
    have e5 : (f20_2 == 0) = true := by simpa using qb
    have e6 : (s == 0) = true := by simpa using qc
    clear qa qb qc
    try simp only [none_]
    go_enter Try.func12, Try.ntmps12
    go_wp2_with fail
    have A1 : ((w.alloc (.cells #[.int .i64 0, .int .i64 c, .int .i64 0, .bool false, .int .i64 d, .int .i64 n, .int .i64 s, .int .i64 m, .int .u32 0, .bool false, .int .i64 0, .int .i64 0, .bool false, .bool false, .bool false, .bool false, .bool false, .bool false, .bool false, .bool false, .int .i64 0, .bool false, .bool false, .bool false] 25)).alloc (.cells #[.int .i64 0, .int .i64 0, .int .i64 0, .bool false, .int .i64 0, .int .i64 0, .int .i64 0, .int .i64 0, .int .u32 0, .bool false, .int .i64 0, .int .i64 0, .bool false, .bool false, .bool false, .bool false, .bool false, .bool false, .bool false, .bool false, .int .i64 0, .bool false, .bool false, .bool false] 25)).heap[w.heap.size]? = some (.cells #[.int .i64 0, .int .i64 c, .int .i64 0, .bool false, .int .i64 d, .int .i64 n, .int .i64 s, .int .i64 m, .int .u32 0, .bool false, .int .i64 0, .int .i64 0, .bool false, .bool false, .bool false, .bool false, .bool false, .bool false, .bool false, .bool false, .int .i64 0, .bool false, .bool false, .bool false] 25) := alloc_old _ (alloc_new _ _)
    have A2 : ((w.alloc (.cells #[.int .i64 0, .int .i64 c, .int .i64 0, .bool false, .int .i64 d, .int .i64 n, .int .i64 s, .int .i64 m, .int .u32 0, .bool false, .int .i64 0, .int .i64 0, .bool false, .bool false, .bool false, .bool false, .bool false, .bool false, .bool false, .bool false, .int .i64 0, .bool false, .bool false, .bool false] 25)).alloc (.cells #[.int .i64 0, .int .i64 0, .int .i64 0, .bool false, .int .i64 0, .int .i64 0, .int .i64 0, .int .i64 0, .int .u32 0, .bool false, .int .i64 0, .int .i64 0, .bool false, .bool false, .bool false, .bool false, .bool false, .bool false, .bool false, .bool false, .int .i64 0, .bool false, .bool false, .bool false] 25)).heap[w.heap.size + 1]? = some (.cells #[.int .i64 0, .int .i64 0, .int .i64 0, .bool false, .int .i64 0, .int .i64 0, .int .i64 0, .int .i64 0, .int .u32 0, .bool false, .int .i64 0, .int .i64 0, .bool false, .bool false, .bool false, .bool false, .bool false, .bool false, .bool false, .bool false, .int .i64 0, .bool false, .bool false, .bool false] 25) := by have := alloc_new (w.alloc (.cells #[.int .i64 0, .int .i64 c, .int .i64 0, .bool false, .int .i64 d, .int .i64 n, .int .i64 s, .int .i64 m, .int .u32 0, .bool false, .int .i64 0, .int .i64 0, .bool false, .bool false, .bool false, .bool false, .bool false, .bool false, .bool false, .bool false, .int .i64 0, .bool false, .bool false, .bool false] 25)) (.cells #[.int .i64 0, .int .i64 0, .int .i64 0, .bool false, .int .i64 0, .int .i64 0, .int .i64 0, .int .i64 0, .int .u32 0, .bool false, .int .i64 0, .int .i64 0, .bool false, .bool false, .bool false, .bool false, .bool false, .bool false, .bool false, .bool false, .int .i64 0, .bool false, .bool false, .bool false] 25); simpa using this
    have hB : Below w.heap.size w ((w.alloc (.cells #[.int .i64 0, .int .i64 c, .int .i64 0, .bool false, .int .i64 d, .int .i64 n, .int .i64 s, .int .i64 m, .int .u32 0, .bool false, .int .i64 0, .int .i64 0, .bool false, .bool false, .bool false, .bool false, .bool false, .bool false, .bool false, .bool false, .int .i64 0, .bool false, .bool false, .bool false] 25)).alloc (.cells #[.int .i64 0, .int .i64 0, .int .i64 0, .bool false, .int .i64 0, .int .i64 0, .int .i64 0, .int .i64 0, .int .u32 0, .bool false, .int .i64 0, .int .i64 0, .bool false, .bool false, .bool false, .bool false, .bool false, .bool false, .bool false, .bool false, .int .i64 0, .bool false, .bool false, .bool false] 25)) := ((Below.refl _ _).alloc (Nat.le_refl _) _).alloc (by simp) _
    generalize (w.alloc (.cells #[.int .i64 0, .int .i64 c, .int .i64 0, .bool false, .int .i64 d, .int .i64 n, .int .i64 s, .int .i64 m, .int .u32 0, .bool false, .int .i64 0, .int .i64 0, .bool false, .bool false, .bool false, .bool false, .bool false, .bool false, .bool false, .bool false, .int .i64 0, .bool false, .bool false, .bool false] 25)).alloc (.cells #[.int .i64 0, .int .i64 0, .int .i64 0, .bool false, .int .i64 0, .int .i64 0, .int .i64 0, .int .i64 0, .int .u32 0, .bool false, .int .i64 0, .int .i64 0, .bool false, .bool false, .bool false, .bool false, .bool false, .bool false, .bool false, .bool false, .int .i64 0, .bool false, .bool false, .bool false] 25) = W at *
    have A1H := Lib.hid A1
    have A2H := Lib.hid A2
    have hBH := Lib.hid hB
    clear A1 A2 hB
    have C1 : W.cell? ⟨w.heap.size, 1, none⟩ = some (.int .i64 c) := cellsAt A1H.out 1
    have C4 : W.cell? ⟨w.heap.size, 4, none⟩ = some (.int .i64 d) := cellsAt A1H.out 4
    have C5 : W.cell? ⟨w.heap.size, 5, none⟩ = some (.int .i64 n) := cellsAt A1H.out 5
    have C6 : W.cell? ⟨w.heap.size, 6, none⟩ = some (.int .i64 s) := cellsAt A1H.out 6
    have C7 : W.cell? ⟨w.heap.size, 7, none⟩ = some (.int .i64 m) := cellsAt A1H.out 7
    have S1 := sizeAt A1H.out
    have S2 := sizeAt A2H.out
    go_wp2_with fail
    refine (G5_2.out _).mono ?_
    rintro e w' ⟨rfl, rfl⟩
    have A1' := Lib.hid (drew_heap A1H.out)
    have A2' := Lib.hid (drew_heap A2H.out)
    have hB' := Lib.hid (below_d1 hBH.out)
    clear A1H A2H hBH C1 C4 C5 C6 C7 S1 S2
    generalize W.drew = W' at *
    obtain ⟨W, rfl⟩ : ∃ v : World, v = W' := ⟨_, rfl⟩
    have A1H := A1'
    have A2H := A2'
    have hBH := hB'
    clear A1' A2' hB'
    have C1 : W.cell? ⟨w.heap.size, 1, none⟩ = some (.int .i64 c) := cellsAt A1H.out 1
    have C4 : W.cell? ⟨w.heap.size, 4, none⟩ = some (.int .i64 d) := cellsAt A1H.out 4
    have C5 : W.cell? ⟨w.heap.size, 5, none⟩ = some (.int .i64 n) := cellsAt A1H.out 5
    have C6 : W.cell? ⟨w.heap.size, 6, none⟩ = some (.int .i64 s) := cellsAt A1H.out 6
    have C7 : W.cell? ⟨w.heap.size, 7, none⟩ = some (.int .i64 m) := cellsAt A1H.out 7
    have S1 := sizeAt A1H.out
    have S2 := sizeAt A2H.out
    go_wp2_with fail
    refine (G22_6.out _).mono ?_
    rintro e w' ⟨rfl, rfl⟩
    have A1' := Lib.hid (drew_heap A1H.out)
    have A2' := Lib.hid (drew_heap A2H.out)
    have hB' := Lib.hid (below_d1 hBH.out)
    clear A1H A2H hBH C1 C4 C5 C6 C7 S1 S2
    generalize W.drew = W' at *
    obtain ⟨W, rfl⟩ : ∃ v : World, v = W' := ⟨_, rfl⟩
    have A1H := A1'
    have A2H := A2'
    have hBH := hB'
    clear A1' A2' hB'
    have C1 : W.cell? ⟨w.heap.size, 1, none⟩ = some (.int .i64 c) := cellsAt A1H.out 1
    have C4 : W.cell? ⟨w.heap.size, 4, none⟩ = some (.int .i64 d) := cellsAt A1H.out 4
    have C5 : W.cell? ⟨w.heap.size, 5, none⟩ = some (.int .i64 n) := cellsAt A1H.out 5
    have C6 : W.cell? ⟨w.heap.size, 6, none⟩ = some (.int .i64 s) := cellsAt A1H.out 6
    have C7 : W.cell? ⟨w.heap.size, 7, none⟩ = some (.int .i64 m) := cellsAt A1H.out 7
    have S1 := sizeAt A1H.out
    have S2 := sizeAt A2H.out
    go_wp2_with fail
    refine (G23_5.out _).mono ?_
    rintro e w' ⟨rfl, rfl⟩
    have A1' := Lib.hid (drew_heap A1H.out)
    have A2' := Lib.hid (drew_heap A2H.out)
    have hB' := Lib.hid (below_d1 hBH.out)
    clear A1H A2H hBH C1 C4 C5 C6 C7 S1 S2
    generalize W.drew = W' at *
    obtain ⟨W, rfl⟩ : ∃ v : World, v = W' := ⟨_, rfl⟩
    have A1H := A1'
    have A2H := A2'
    have hBH := hB'
    clear A1' A2' hB'
    have C1 : W.cell? ⟨w.heap.size, 1, none⟩ = some (.int .i64 c) := cellsAt A1H.out 1
    have C4 : W.cell? ⟨w.heap.size, 4, none⟩ = some (.int .i64 d) := cellsAt A1H.out 4
    have C5 : W.cell? ⟨w.heap.size, 5, none⟩ = some (.int .i64 n) := cellsAt A1H.out 5
    have C6 : W.cell? ⟨w.heap.size, 6, none⟩ = some (.int .i64 s) := cellsAt A1H.out 6
    have C7 : W.cell? ⟨w.heap.size, 7, none⟩ = some (.int .i64 m) := cellsAt A1H.out 7
    have S1 := sizeAt A1H.out
    have S2 := sizeAt A2H.out
    go_wp2_with fail
    refine (G23_5.out _).mono ?_
    rintro e w' ⟨rfl, rfl⟩
    have A1' := Lib.hid (drew_heap A1H.out)
    have A2' := Lib.hid (drew_heap A2H.out)
    have hB' := Lib.hid (below_d1 hBH.out)
    clear A1H A2H hBH C1 C4 C5 C6 C7 S1 S2
    generalize W.drew = W' at *
    obtain ⟨W, rfl⟩ : ∃ v : World, v = W' := ⟨_, rfl⟩
    have A1H := A1'
    have A2H := A2'
    have hBH := hB'
    clear A1' A2' hB'
    have C1 : W.cell? ⟨w.heap.size, 1, none⟩ = some (.int .i64 c) := cellsAt A1H.out 1
    have C4 : W.cell? ⟨w.heap.size, 4, none⟩ = some (.int .i64 d) := cellsAt A1H.out 4
    have C5 : W.cell? ⟨w.heap.size, 5, none⟩ = some (.int .i64 n) := cellsAt A1H.out 5
    have C6 : W.cell? ⟨w.heap.size, 6, none⟩ = some (.int .i64 s) := cellsAt A1H.out 6
    have C7 : W.cell? ⟨w.heap.size, 7, none⟩ = some (.int .i64 m) := cellsAt A1H.out 7
    have S1 := sizeAt A1H.out
    have S2 := sizeAt A2H.out
    go_wp2_with fail
    refine (G20_2.out _).mono ?_
    rintro e w' ⟨rfl, rfl⟩
    have A1' := Lib.hid (drew_heap A1H.out)
    have A2' := Lib.hid (drew_heap A2H.out)
    have hB' := Lib.hid (below_d1 hBH.out)
    clear A1H A2H hBH C1 C4 C5 C6 C7 S1 S2
    generalize W.drew = W' at *
    obtain ⟨W, rfl⟩ : ∃ v : World, v = W' := ⟨_, rfl⟩
    have A1H := A1'
    have A2H := A2'
    have hBH := hB'
    clear A1' A2' hB'
    have C1 : W.cell? ⟨w.heap.size, 1, none⟩ = some (.int .i64 c) := cellsAt A1H.out 1
    have C4 : W.cell? ⟨w.heap.size, 4, none⟩ = some (.int .i64 d) := cellsAt A1H.out 4
    have C5 : W.cell? ⟨w.heap.size, 5, none⟩ = some (.int .i64 n) := cellsAt A1H.out 5
    have C6 : W.cell? ⟨w.heap.size, 6, none⟩ = some (.int .i64 s) := cellsAt A1H.out 6
    have C7 : W.cell? ⟨w.heap.size, 7, none⟩ = some (.int .i64 m) := cellsAt A1H.out 7
    have S1 := sizeAt A1H.out
    have S2 := sizeAt A2H.out
    go_wp2_with fail
    go_still_tail 11, (by kernel_rfl)
    repeat (first | still_step | (refine wpStill_step (fun K hK => ?_); go_simp; (first | (with_reducible refine ⟨_, flip (H22.out _), hK _ ?_⟩)); clear hK K))
    refine wpStill_nil ?_
    change wpList _ _ _ _ _ (World.drew _)
    (refine wpList_store_row rfl 25 (.tmp 4) (.tmp 75) rfl (w.heap.size + 1) _ rfl rfl 25 _ (drew_heap (A2H.out)) info25 rfl (by simp [Value.oneCell']) ?_)
    go_wp2_with fail
    exact bodyPost_ret (results_cell_row rfl _ _ (w.heap.size + 1) 25 _ _ _ rfl (setRow_heap _ _ _ _ _ _ (drew_heap (A2H.out))) Try.underlying25 rfl info25) rfl ⟨rfl, below_only (below_d1 (hBH.out)) (Only.setRow (Only.refl (drew_heap (A2H.out)))) (by omega) (below_d1 (hBH.out)).size⟩
  have tst : (f23_5 == 2) = false ∨ ((f23_5 == 2) = true ∧ (f20_2 == 0) = false) ∨ ((f23_5 == 2) = true ∧ (f20_2 == 0) = true ∧ (s == 0) = false) := by
    by_cases h : f23_5 = 2
    · by_cases h2 : f20_2 = 0
      · exact .inr (.inr ⟨by simpa using h, by simpa using h2, by simp; exact fun e => q4 ⟨h, h2, e⟩⟩)
      · exact .inr (.inl ⟨by simpa using h, by simpa using h2⟩)
    · exact .inl (by simpa using h)
  rw [if_neg q4]
  clear q4
  rcases tst with e4 | ⟨e4, e5⟩ | ⟨e4, e5, e6⟩
  · try simp only [none_]
    go_enter Try.func12, Try.ntmps12
    go_wp2_with fail
    have A1 : ((w.alloc (.cells #[.int .i64 0, .int .i64 c, .int .i64 0, .bool false, .int .i64 d, .int .i64 n, .int .i64 s, .int .i64 m, .int .u32 0, .bool false, .int .i64 0, .int .i64 0, .bool false, .bool false, .bool false, .bool false, .bool false, .bool false, .bool false, .bool false, .int .i64 0, .bool false, .bool false, .bool false] 25)).alloc (.cells #[.int .i64 0, .int .i64 0, .int .i64 0, .bool false, .int .i64 0, .int .i64 0, .int .i64 0, .int .i64 0, .int .u32 0, .bool false, .int .i64 0, .int .i64 0, .bool false, .bool false, .bool false, .bool false, .bool false, .bool false, .bool false, .bool false, .int .i64 0, .bool false, .bool false, .bool false] 25)).heap[w.heap.size]? = some (.cells #[.int .i64 0, .int .i64 c, .int .i64 0, .bool false, .int .i64 d, .int .i64 n, .int .i64 s, .int .i64 m, .int .u32 0, .bool false, .int .i64 0, .int .i64 0, .bool false, .bool false, .bool false, .bool false, .bool false, .bool false, .bool false, .bool false, .int .i64 0, .bool false, .bool false, .bool false] 25) := alloc_old _ (alloc_new _ _)
    have A2 : ((w.alloc (.cells #[.int .i64 0, .int .i64 c, .int .i64 0, .bool false, .int .i64 d, .int .i64 n, .int .i64 s, .int .i64 m, .int .u32 0, .bool false, .int .i64 0, .int .i64 0, .bool false, .bool false, .bool false, .bool false, .bool false, .bool false, .bool false, .bool false, .int .i64 0, .bool false, .bool false, .bool false] 25)).alloc (.cells #[.int .i64 0, .int .i64 0, .int .i64 0, .bool false, .int .i64 0, .int .i64 0, .int .i64 0, .int .i64 0, .int .u32 0, .bool false, .int .i64 0, .int .i64 0, .bool false, .bool false, .bool false, .bool false, .bool false, .bool false, .bool false, .bool false, .int .i64 0, .bool false, .bool false, .bool false] 25)).heap[w.heap.size + 1]? = some (.cells #[.int .i64 0, .int .i64 0, .int .i64 0, .bool false, .int .i64 0, .int .i64 0, .int .i64 0, .int .i64 0, .int .u32 0, .bool false, .int .i64 0, .int .i64 0, .bool false, .bool false, .bool false, .bool false, .bool false, .bool false, .bool false, .bool false, .int .i64 0, .bool false, .bool false, .bool false] 25) := by have := alloc_new (w.alloc (.cells #[.int .i64 0, .int .i64 c, .int .i64 0, .bool false, .int .i64 d, .int .i64 n, .int .i64 s, .int .i64 m, .int .u32 0, .bool false, .int .i64 0, .int .i64 0, .bool false, .bool false, .bool false, .bool false, .bool false, .bool false, .bool false, .bool false, .int .i64 0, .bool false, .bool false, .bool false] 25)) (.cells #[.int .i64 0, .int .i64 0, .int .i64 0, .bool false, .int .i64 0, .int .i64 0, .int .i64 0, .int .i64 0, .int .u32 0, .bool false, .int .i64 0, .int .i64 0, .bool false, .bool false, .bool false, .bool false, .bool false, .bool false, .bool false, .bool false, .int .i64 0, .bool false, .bool false, .bool false] 25); simpa using this
    have hB : Below w.heap.size w ((w.alloc (.cells #[.int .i64 0, .int .i64 c, .int .i64 0, .bool false, .int .i64 d, .int .i64 n, .int .i64 s, .int .i64 m, .int .u32 0, .bool false, .int .i64 0, .int .i64 0, .bool false, .bool false, .bool false, .bool false, .bool false, .bool false, .bool false, .bool false, .int .i64 0, .bool false, .bool false, .bool false] 25)).alloc (.cells #[.int .i64 0, .int .i64 0, .int .i64 0, .bool false, .int .i64 0, .int .i64 0, .int .i64 0, .int .i64 0, .int .u32 0, .bool false, .int .i64 0, .int .i64 0, .bool false, .bool false, .bool false, .bool false, .bool false, .bool false, .bool false, .bool false, .int .i64 0, .bool false, .bool false, .bool false] 25)) := ((Below.refl _ _).alloc (Nat.le_refl _) _).alloc (by simp) _
    generalize (w.alloc (.cells #[.int .i64 0, .int .i64 c, .int .i64 0, .bool false, .int .i64 d, .int .i64 n, .int .i64 s, .int .i64 m, .int .u32 0, .bool false, .int .i64 0, .int .i64 0, .bool false, .bool false, .bool false, .bool false, .bool false, .bool false, .bool false, .bool false, .int .i64 0, .bool false, .bool false, .bool false] 25)).alloc (.cells #[.int .i64 0, .int .i64 0, .int .i64 0, .bool false, .int .i64 0, .int .i64 0, .int .i64 0, .int .i64 0, .int .u32 0, .bool false, .int .i64 0, .int .i64 0, .bool false, .bool false, .bool false, .bool false, .bool false, .bool false, .bool false, .bool false, .int .i64 0, .bool false, .bool false, .bool false] 25) = W at *
    have A1H := Lib.hid A1
    have A2H := Lib.hid A2
    have hBH := Lib.hid hB
    clear A1 A2 hB
    have C1 : W.cell? ⟨w.heap.size, 1, none⟩ = some (.int .i64 c) := cellsAt A1H.out 1
    have C4 : W.cell? ⟨w.heap.size, 4, none⟩ = some (.int .i64 d) := cellsAt A1H.out 4
    have C5 : W.cell? ⟨w.heap.size, 5, none⟩ = some (.int .i64 n) := cellsAt A1H.out 5
    have C6 : W.cell? ⟨w.heap.size, 6, none⟩ = some (.int .i64 s) := cellsAt A1H.out 6
    have C7 : W.cell? ⟨w.heap.size, 7, none⟩ = some (.int .i64 m) := cellsAt A1H.out 7
    have S1 := sizeAt A1H.out
    have S2 := sizeAt A2H.out
    go_wp2_with fail
    refine (G5_2.out _).mono ?_
    rintro e w' ⟨rfl, rfl⟩
    have A1' := Lib.hid (drew_heap A1H.out)
    have A2' := Lib.hid (drew_heap A2H.out)
    have hB' := Lib.hid (below_d1 hBH.out)
    clear A1H A2H hBH C1 C4 C5 C6 C7 S1 S2
    generalize W.drew = W' at *
    obtain ⟨W, rfl⟩ : ∃ v : World, v = W' := ⟨_, rfl⟩
    have A1H := A1'
    have A2H := A2'
    have hBH := hB'
    clear A1' A2' hB'
    have C1 : W.cell? ⟨w.heap.size, 1, none⟩ = some (.int .i64 c) := cellsAt A1H.out 1
    have C4 : W.cell? ⟨w.heap.size, 4, none⟩ = some (.int .i64 d) := cellsAt A1H.out 4
    have C5 : W.cell? ⟨w.heap.size, 5, none⟩ = some (.int .i64 n) := cellsAt A1H.out 5
    have C6 : W.cell? ⟨w.heap.size, 6, none⟩ = some (.int .i64 s) := cellsAt A1H.out 6
    have C7 : W.cell? ⟨w.heap.size, 7, none⟩ = some (.int .i64 m) := cellsAt A1H.out 7
    have S1 := sizeAt A1H.out
    have S2 := sizeAt A2H.out
    go_wp2_with fail
    refine (G22_6.out _).mono ?_
    rintro e w' ⟨rfl, rfl⟩
    have A1' := Lib.hid (drew_heap A1H.out)
    have A2' := Lib.hid (drew_heap A2H.out)
    have hB' := Lib.hid (below_d1 hBH.out)
    clear A1H A2H hBH C1 C4 C5 C6 C7 S1 S2
    generalize W.drew = W' at *
    obtain ⟨W, rfl⟩ : ∃ v : World, v = W' := ⟨_, rfl⟩
    have A1H := A1'
    have A2H := A2'
    have hBH := hB'
    clear A1' A2' hB'
    have C1 : W.cell? ⟨w.heap.size, 1, none⟩ = some (.int .i64 c) := cellsAt A1H.out 1
    have C4 : W.cell? ⟨w.heap.size, 4, none⟩ = some (.int .i64 d) := cellsAt A1H.out 4
    have C5 : W.cell? ⟨w.heap.size, 5, none⟩ = some (.int .i64 n) := cellsAt A1H.out 5
    have C6 : W.cell? ⟨w.heap.size, 6, none⟩ = some (.int .i64 s) := cellsAt A1H.out 6
    have C7 : W.cell? ⟨w.heap.size, 7, none⟩ = some (.int .i64 m) := cellsAt A1H.out 7
    have S1 := sizeAt A1H.out
    have S2 := sizeAt A2H.out
    go_wp2_with fail
    refine (G23_5.out _).mono ?_
    rintro e w' ⟨rfl, rfl⟩
    have A1' := Lib.hid (drew_heap A1H.out)
    have A2' := Lib.hid (drew_heap A2H.out)
    have hB' := Lib.hid (below_d1 hBH.out)
    clear A1H A2H hBH C1 C4 C5 C6 C7 S1 S2
    generalize W.drew = W' at *
    obtain ⟨W, rfl⟩ : ∃ v : World, v = W' := ⟨_, rfl⟩
    have A1H := A1'
    have A2H := A2'
    have hBH := hB'
    clear A1' A2' hB'
    have C1 : W.cell? ⟨w.heap.size, 1, none⟩ = some (.int .i64 c) := cellsAt A1H.out 1
    have C4 : W.cell? ⟨w.heap.size, 4, none⟩ = some (.int .i64 d) := cellsAt A1H.out 4
    have C5 : W.cell? ⟨w.heap.size, 5, none⟩ = some (.int .i64 n) := cellsAt A1H.out 5
    have C6 : W.cell? ⟨w.heap.size, 6, none⟩ = some (.int .i64 s) := cellsAt A1H.out 6
    have C7 : W.cell? ⟨w.heap.size, 7, none⟩ = some (.int .i64 m) := cellsAt A1H.out 7
    have S1 := sizeAt A1H.out
    have S2 := sizeAt A2H.out
    go_wp2_with fail
    refine (G23_5.out _).mono ?_
    rintro e w' ⟨rfl, rfl⟩
    have A1' := Lib.hid (drew_heap A1H.out)
    have A2' := Lib.hid (drew_heap A2H.out)
    have hB' := Lib.hid (below_d1 hBH.out)
    clear A1H A2H hBH C1 C4 C5 C6 C7 S1 S2
    generalize W.drew = W' at *
    obtain ⟨W, rfl⟩ : ∃ v : World, v = W' := ⟨_, rfl⟩
    have A1H := A1'
    have A2H := A2'
    have hBH := hB'
    clear A1' A2' hB'
    have C1 : W.cell? ⟨w.heap.size, 1, none⟩ = some (.int .i64 c) := cellsAt A1H.out 1
    have C4 : W.cell? ⟨w.heap.size, 4, none⟩ = some (.int .i64 d) := cellsAt A1H.out 4
    have C5 : W.cell? ⟨w.heap.size, 5, none⟩ = some (.int .i64 n) := cellsAt A1H.out 5
    have C6 : W.cell? ⟨w.heap.size, 6, none⟩ = some (.int .i64 s) := cellsAt A1H.out 6
    have C7 : W.cell? ⟨w.heap.size, 7, none⟩ = some (.int .i64 m) := cellsAt A1H.out 7
    have S1 := sizeAt A1H.out
    have S2 := sizeAt A2H.out
    go_wp2_with (first | (refine wpList_store_row rfl 25 (.tmp 4) (.tmp 78) rfl (w.heap.size + 1) _ rfl rfl 25 _ (A2H.out) info25 rfl (by simp [Value.oneCell']) ?_))
    exact bodyPost_ret (results_cell_row rfl _ _ (w.heap.size + 1) 25 _ _ _ rfl (setRow_heap _ _ _ _ _ _ (A2H.out)) Try.underlying25 rfl info25) rfl ⟨rfl, below_only (hBH.out) (Only.setRow (Only.refl (A2H.out))) (by omega) (hBH.out).size⟩
  · try simp only [none_]
    go_enter Try.func12, Try.ntmps12
    go_wp2_with fail
    have A1 : ((w.alloc (.cells #[.int .i64 0, .int .i64 c, .int .i64 0, .bool false, .int .i64 d, .int .i64 n, .int .i64 s, .int .i64 m, .int .u32 0, .bool false, .int .i64 0, .int .i64 0, .bool false, .bool false, .bool false, .bool false, .bool false, .bool false, .bool false, .bool false, .int .i64 0, .bool false, .bool false, .bool false] 25)).alloc (.cells #[.int .i64 0, .int .i64 0, .int .i64 0, .bool false, .int .i64 0, .int .i64 0, .int .i64 0, .int .i64 0, .int .u32 0, .bool false, .int .i64 0, .int .i64 0, .bool false, .bool false, .bool false, .bool false, .bool false, .bool false, .bool false, .bool false, .int .i64 0, .bool false, .bool false, .bool false] 25)).heap[w.heap.size]? = some (.cells #[.int .i64 0, .int .i64 c, .int .i64 0, .bool false, .int .i64 d, .int .i64 n, .int .i64 s, .int .i64 m, .int .u32 0, .bool false, .int .i64 0, .int .i64 0, .bool false, .bool false, .bool false, .bool false, .bool false, .bool false, .bool false, .bool false, .int .i64 0, .bool false, .bool false, .bool false] 25) := alloc_old _ (alloc_new _ _)
    have A2 : ((w.alloc (.cells #[.int .i64 0, .int .i64 c, .int .i64 0, .bool false, .int .i64 d, .int .i64 n, .int .i64 s, .int .i64 m, .int .u32 0, .bool false, .int .i64 0, .int .i64 0, .bool false, .bool false, .bool false, .bool false, .bool false, .bool false, .bool false, .bool false, .int .i64 0, .bool false, .bool false, .bool false] 25)).alloc (.cells #[.int .i64 0, .int .i64 0, .int .i64 0, .bool false, .int .i64 0, .int .i64 0, .int .i64 0, .int .i64 0, .int .u32 0, .bool false, .int .i64 0, .int .i64 0, .bool false, .bool false, .bool false, .bool false, .bool false, .bool false, .bool false, .bool false, .int .i64 0, .bool false, .bool false, .bool false] 25)).heap[w.heap.size + 1]? = some (.cells #[.int .i64 0, .int .i64 0, .int .i64 0, .bool false, .int .i64 0, .int .i64 0, .int .i64 0, .int .i64 0, .int .u32 0, .bool false, .int .i64 0, .int .i64 0, .bool false, .bool false, .bool false, .bool false, .bool false, .bool false, .bool false, .bool false, .int .i64 0, .bool false, .bool false, .bool false] 25) := by have := alloc_new (w.alloc (.cells #[.int .i64 0, .int .i64 c, .int .i64 0, .bool false, .int .i64 d, .int .i64 n, .int .i64 s, .int .i64 m, .int .u32 0, .bool false, .int .i64 0, .int .i64 0, .bool false, .bool false, .bool false, .bool false, .bool false, .bool false, .bool false, .bool false, .int .i64 0, .bool false, .bool false, .bool false] 25)) (.cells #[.int .i64 0, .int .i64 0, .int .i64 0, .bool false, .int .i64 0, .int .i64 0, .int .i64 0, .int .i64 0, .int .u32 0, .bool false, .int .i64 0, .int .i64 0, .bool false, .bool false, .bool false, .bool false, .bool false, .bool false, .bool false, .bool false, .int .i64 0, .bool false, .bool false, .bool false] 25); simpa using this
    have hB : Below w.heap.size w ((w.alloc (.cells #[.int .i64 0, .int .i64 c, .int .i64 0, .bool false, .int .i64 d, .int .i64 n, .int .i64 s, .int .i64 m, .int .u32 0, .bool false, .int .i64 0, .int .i64 0, .bool false, .bool false, .bool false, .bool false, .bool false, .bool false, .bool false, .bool false, .int .i64 0, .bool false, .bool false, .bool false] 25)).alloc (.cells #[.int .i64 0, .int .i64 0, .int .i64 0, .bool false, .int .i64 0, .int .i64 0, .int .i64 0, .int .i64 0, .int .u32 0, .bool false, .int .i64 0, .int .i64 0, .bool false, .bool false, .bool false, .bool false, .bool false, .bool false, .bool false, .bool false, .int .i64 0, .bool false, .bool false, .bool false] 25)) := ((Below.refl _ _).alloc (Nat.le_refl _) _).alloc (by simp) _
    generalize (w.alloc (.cells #[.int .i64 0, .int .i64 c, .int .i64 0, .bool false, .int .i64 d, .int .i64 n, .int .i64 s, .int .i64 m, .int .u32 0, .bool false, .int .i64 0, .int .i64 0, .bool false, .bool false, .bool false, .bool false, .bool false, .bool false, .bool false, .bool false, .int .i64 0, .bool false, .bool false, .bool false] 25)).alloc (.cells #[.int .i64 0, .int .i64 0, .int .i64 0, .bool false, .int .i64 0, .int .i64 0, .int .i64 0, .int .i64 0, .int .u32 0, .bool false, .int .i64 0, .int .i64 0, .bool false, .bool false, .bool false, .bool false, .bool false, .bool false, .bool false, .bool false, .int .i64 0, .bool false, .bool false, .bool false] 25) = W at *
    have A1H := Lib.hid A1
    have A2H := Lib.hid A2
    have hBH := Lib.hid hB
    clear A1 A2 hB
    have C1 : W.cell? ⟨w.heap.size, 1, none⟩ = some (.int .i64 c) := cellsAt A1H.out 1
    have C4 : W.cell? ⟨w.heap.size, 4, none⟩ = some (.int .i64 d) := cellsAt A1H.out 4
    have C5 : W.cell? ⟨w.heap.size, 5, none⟩ = some (.int .i64 n) := cellsAt A1H.out 5
    have C6 : W.cell? ⟨w.heap.size, 6, none⟩ = some (.int .i64 s) := cellsAt A1H.out 6
    have C7 : W.cell? ⟨w.heap.size, 7, none⟩ = some (.int .i64 m) := cellsAt A1H.out 7
    have S1 := sizeAt A1H.out
    have S2 := sizeAt A2H.out
    go_wp2_with fail
    refine (G5_2.out _).mono ?_
    rintro e w' ⟨rfl, rfl⟩
    have A1' := Lib.hid (drew_heap A1H.out)
    have A2' := Lib.hid (drew_heap A2H.out)
    have hB' := Lib.hid (below_d1 hBH.out)
    clear A1H A2H hBH C1 C4 C5 C6 C7 S1 S2
    generalize W.drew = W' at *
    obtain ⟨W, rfl⟩ : ∃ v : World, v = W' := ⟨_, rfl⟩
    have A1H := A1'
    have A2H := A2'
    have hBH := hB'
    clear A1' A2' hB'
    have C1 : W.cell? ⟨w.heap.size, 1, none⟩ = some (.int .i64 c) := cellsAt A1H.out 1
    have C4 : W.cell? ⟨w.heap.size, 4, none⟩ = some (.int .i64 d) := cellsAt A1H.out 4
    have C5 : W.cell? ⟨w.heap.size, 5, none⟩ = some (.int .i64 n) := cellsAt A1H.out 5
    have C6 : W.cell? ⟨w.heap.size, 6, none⟩ = some (.int .i64 s) := cellsAt A1H.out 6
    have C7 : W.cell? ⟨w.heap.size, 7, none⟩ = some (.int .i64 m) := cellsAt A1H.out 7
    have S1 := sizeAt A1H.out
    have S2 := sizeAt A2H.out
    go_wp2_with fail
    refine (G22_6.out _).mono ?_
    rintro e w' ⟨rfl, rfl⟩
    have A1' := Lib.hid (drew_heap A1H.out)
    have A2' := Lib.hid (drew_heap A2H.out)
    have hB' := Lib.hid (below_d1 hBH.out)
    clear A1H A2H hBH C1 C4 C5 C6 C7 S1 S2
    generalize W.drew = W' at *
    obtain ⟨W, rfl⟩ : ∃ v : World, v = W' := ⟨_, rfl⟩
    have A1H := A1'
    have A2H := A2'
    have hBH := hB'
    clear A1' A2' hB'
    have C1 : W.cell? ⟨w.heap.size, 1, none⟩ = some (.int .i64 c) := cellsAt A1H.out 1
    have C4 : W.cell? ⟨w.heap.size, 4, none⟩ = some (.int .i64 d) := cellsAt A1H.out 4
    have C5 : W.cell? ⟨w.heap.size, 5, none⟩ = some (.int .i64 n) := cellsAt A1H.out 5
    have C6 : W.cell? ⟨w.heap.size, 6, none⟩ = some (.int .i64 s) := cellsAt A1H.out 6
    have C7 : W.cell? ⟨w.heap.size, 7, none⟩ = some (.int .i64 m) := cellsAt A1H.out 7
    have S1 := sizeAt A1H.out
    have S2 := sizeAt A2H.out
    go_wp2_with fail
    refine (G23_5.out _).mono ?_
    rintro e w' ⟨rfl, rfl⟩
    have A1' := Lib.hid (drew_heap A1H.out)
    have A2' := Lib.hid (drew_heap A2H.out)
    have hB' := Lib.hid (below_d1 hBH.out)
    clear A1H A2H hBH C1 C4 C5 C6 C7 S1 S2
    generalize W.drew = W' at *
    obtain ⟨W, rfl⟩ : ∃ v : World, v = W' := ⟨_, rfl⟩
    have A1H := A1'
    have A2H := A2'
    have hBH := hB'
    clear A1' A2' hB'
    have C1 : W.cell? ⟨w.heap.size, 1, none⟩ = some (.int .i64 c) := cellsAt A1H.out 1
    have C4 : W.cell? ⟨w.heap.size, 4, none⟩ = some (.int .i64 d) := cellsAt A1H.out 4
    have C5 : W.cell? ⟨w.heap.size, 5, none⟩ = some (.int .i64 n) := cellsAt A1H.out 5
    have C6 : W.cell? ⟨w.heap.size, 6, none⟩ = some (.int .i64 s) := cellsAt A1H.out 6
    have C7 : W.cell? ⟨w.heap.size, 7, none⟩ = some (.int .i64 m) := cellsAt A1H.out 7
    have S1 := sizeAt A1H.out
    have S2 := sizeAt A2H.out
    go_wp2_with fail
    refine (G23_5.out _).mono ?_
    rintro e w' ⟨rfl, rfl⟩
    have A1' := Lib.hid (drew_heap A1H.out)
    have A2' := Lib.hid (drew_heap A2H.out)
    have hB' := Lib.hid (below_d1 hBH.out)
    clear A1H A2H hBH C1 C4 C5 C6 C7 S1 S2
    generalize W.drew = W' at *
    obtain ⟨W, rfl⟩ : ∃ v : World, v = W' := ⟨_, rfl⟩
    have A1H := A1'
    have A2H := A2'
    have hBH := hB'
    clear A1' A2' hB'
    have C1 : W.cell? ⟨w.heap.size, 1, none⟩ = some (.int .i64 c) := cellsAt A1H.out 1
    have C4 : W.cell? ⟨w.heap.size, 4, none⟩ = some (.int .i64 d) := cellsAt A1H.out 4
    have C5 : W.cell? ⟨w.heap.size, 5, none⟩ = some (.int .i64 n) := cellsAt A1H.out 5
    have C6 : W.cell? ⟨w.heap.size, 6, none⟩ = some (.int .i64 s) := cellsAt A1H.out 6
    have C7 : W.cell? ⟨w.heap.size, 7, none⟩ = some (.int .i64 m) := cellsAt A1H.out 7
    have S1 := sizeAt A1H.out
    have S2 := sizeAt A2H.out
    go_wp2_with fail
    refine (G20_2.out _).mono ?_
    rintro e w' ⟨rfl, rfl⟩
    have A1' := Lib.hid (drew_heap A1H.out)
    have A2' := Lib.hid (drew_heap A2H.out)
    have hB' := Lib.hid (below_d1 hBH.out)
    clear A1H A2H hBH C1 C4 C5 C6 C7 S1 S2
    generalize W.drew = W' at *
    obtain ⟨W, rfl⟩ : ∃ v : World, v = W' := ⟨_, rfl⟩
    have A1H := A1'
    have A2H := A2'
    have hBH := hB'
    clear A1' A2' hB'
    have C1 : W.cell? ⟨w.heap.size, 1, none⟩ = some (.int .i64 c) := cellsAt A1H.out 1
    have C4 : W.cell? ⟨w.heap.size, 4, none⟩ = some (.int .i64 d) := cellsAt A1H.out 4
    have C5 : W.cell? ⟨w.heap.size, 5, none⟩ = some (.int .i64 n) := cellsAt A1H.out 5
    have C6 : W.cell? ⟨w.heap.size, 6, none⟩ = some (.int .i64 s) := cellsAt A1H.out 6
    have C7 : W.cell? ⟨w.heap.size, 7, none⟩ = some (.int .i64 m) := cellsAt A1H.out 7
    have S1 := sizeAt A1H.out
    have S2 := sizeAt A2H.out
    go_wp2_with (first | (refine wpList_store_row rfl 25 (.tmp 4) (.tmp 78) rfl (w.heap.size + 1) _ rfl rfl 25 _ (A2H.out) info25 rfl (by simp [Value.oneCell']) ?_))
    exact bodyPost_ret (results_cell_row rfl _ _ (w.heap.size + 1) 25 _ _ _ rfl (setRow_heap _ _ _ _ _ _ (A2H.out)) Try.underlying25 rfl info25) rfl ⟨rfl, below_only (hBH.out) (Only.setRow (Only.refl (A2H.out))) (by omega) (hBH.out).size⟩
  · try simp only [none_]
    go_enter Try.func12, Try.ntmps12
    go_wp2_with fail
    have A1 : ((w.alloc (.cells #[.int .i64 0, .int .i64 c, .int .i64 0, .bool false, .int .i64 d, .int .i64 n, .int .i64 s, .int .i64 m, .int .u32 0, .bool false, .int .i64 0, .int .i64 0, .bool false, .bool false, .bool false, .bool false, .bool false, .bool false, .bool false, .bool false, .int .i64 0, .bool false, .bool false, .bool false] 25)).alloc (.cells #[.int .i64 0, .int .i64 0, .int .i64 0, .bool false, .int .i64 0, .int .i64 0, .int .i64 0, .int .i64 0, .int .u32 0, .bool false, .int .i64 0, .int .i64 0, .bool false, .bool false, .bool false, .bool false, .bool false, .bool false, .bool false, .bool false, .int .i64 0, .bool false, .bool false, .bool false] 25)).heap[w.heap.size]? = some (.cells #[.int .i64 0, .int .i64 c, .int .i64 0, .bool false, .int .i64 d, .int .i64 n, .int .i64 s, .int .i64 m, .int .u32 0, .bool false, .int .i64 0, .int .i64 0, .bool false, .bool false, .bool false, .bool false, .bool false, .bool false, .bool false, .bool false, .int .i64 0, .bool false, .bool false, .bool false] 25) := alloc_old _ (alloc_new _ _)
    have A2 : ((w.alloc (.cells #[.int .i64 0, .int .i64 c, .int .i64 0, .bool false, .int .i64 d, .int .i64 n, .int .i64 s, .int .i64 m, .int .u32 0, .bool false, .int .i64 0, .int .i64 0, .bool false, .bool false, .bool false, .bool false, .bool false, .bool false, .bool false, .bool false, .int .i64 0, .bool false, .bool false, .bool false] 25)).alloc (.cells #[.int .i64 0, .int .i64 0, .int .i64 0, .bool false, .int .i64 0, .int .i64 0, .int .i64 0, .int .i64 0, .int .u32 0, .bool false, .int .i64 0, .int .i64 0, .bool false, .bool false, .bool false, .bool false, .bool false, .bool false, .bool false, .bool false, .int .i64 0, .bool false, .bool false, .bool false] 25)).heap[w.heap.size + 1]? = some (.cells #[.int .i64 0, .int .i64 0, .int .i64 0, .bool false, .int .i64 0, .int .i64 0, .int .i64 0, .int .i64 0, .int .u32 0, .bool false, .int .i64 0, .int .i64 0, .bool false, .bool false, .bool false, .bool false, .bool false, .bool false, .bool false, .bool false, .int .i64 0, .bool false, .bool false, .bool false] 25) := by have := alloc_new (w.alloc (.cells #[.int .i64 0, .int .i64 c, .int .i64 0, .bool false, .int .i64 d, .int .i64 n, .int .i64 s, .int .i64 m, .int .u32 0, .bool false, .int .i64 0, .int .i64 0, .bool false, .bool false, .bool false, .bool false, .bool false, .bool false, .bool false, .bool false, .int .i64 0, .bool false, .bool false, .bool false] 25)) (.cells #[.int .i64 0, .int .i64 0, .int .i64 0, .bool false, .int .i64 0, .int .i64 0, .int .i64 0, .int .i64 0, .int .u32 0, .bool false, .int .i64 0, .int .i64 0, .bool false, .bool false, .bool false, .bool false, .bool false, .bool false, .bool false, .bool false, .int .i64 0, .bool false, .bool false, .bool false] 25); simpa using this
    have hB : Below w.heap.size w ((w.alloc (.cells #[.int .i64 0, .int .i64 c, .int .i64 0, .bool false, .int .i64 d, .int .i64 n, .int .i64 s, .int .i64 m, .int .u32 0, .bool false, .int .i64 0, .int .i64 0, .bool false, .bool false, .bool false, .bool false, .bool false, .bool false, .bool false, .bool false, .int .i64 0, .bool false, .bool false, .bool false] 25)).alloc (.cells #[.int .i64 0, .int .i64 0, .int .i64 0, .bool false, .int .i64 0, .int .i64 0, .int .i64 0, .int .i64 0, .int .u32 0, .bool false, .int .i64 0, .int .i64 0, .bool false, .bool false, .bool false, .bool false, .bool false, .bool false, .bool false, .bool false, .int .i64 0, .bool false, .bool false, .bool false] 25)) := ((Below.refl _ _).alloc (Nat.le_refl _) _).alloc (by simp) _
    generalize (w.alloc (.cells #[.int .i64 0, .int .i64 c, .int .i64 0, .bool false, .int .i64 d, .int .i64 n, .int .i64 s, .int .i64 m, .int .u32 0, .bool false, .int .i64 0, .int .i64 0, .bool false, .bool false, .bool false, .bool false, .bool false, .bool false, .bool false, .bool false, .int .i64 0, .bool false, .bool false, .bool false] 25)).alloc (.cells #[.int .i64 0, .int .i64 0, .int .i64 0, .bool false, .int .i64 0, .int .i64 0, .int .i64 0, .int .i64 0, .int .u32 0, .bool false, .int .i64 0, .int .i64 0, .bool false, .bool false, .bool false, .bool false, .bool false, .bool false, .bool false, .bool false, .int .i64 0, .bool false, .bool false, .bool false] 25) = W at *
    have A1H := Lib.hid A1
    have A2H := Lib.hid A2
    have hBH := Lib.hid hB
    clear A1 A2 hB
    have C1 : W.cell? ⟨w.heap.size, 1, none⟩ = some (.int .i64 c) := cellsAt A1H.out 1
    have C4 : W.cell? ⟨w.heap.size, 4, none⟩ = some (.int .i64 d) := cellsAt A1H.out 4
    have C5 : W.cell? ⟨w.heap.size, 5, none⟩ = some (.int .i64 n) := cellsAt A1H.out 5
    have C6 : W.cell? ⟨w.heap.size, 6, none⟩ = some (.int .i64 s) := cellsAt A1H.out 6
    have C7 : W.cell? ⟨w.heap.size, 7, none⟩ = some (.int .i64 m) := cellsAt A1H.out 7
    have S1 := sizeAt A1H.out
    have S2 := sizeAt A2H.out
    go_wp2_with fail
    refine (G5_2.out _).mono ?_
    rintro e w' ⟨rfl, rfl⟩
    have A1' := Lib.hid (drew_heap A1H.out)
    have A2' := Lib.hid (drew_heap A2H.out)
    have hB' := Lib.hid (below_d1 hBH.out)
    clear A1H A2H hBH C1 C4 C5 C6 C7 S1 S2
    generalize W.drew = W' at *
    obtain ⟨W, rfl⟩ : ∃ v : World, v = W' := ⟨_, rfl⟩
    have A1H := A1'
    have A2H := A2'
    have hBH := hB'
    clear A1' A2' hB'
    have C1 : W.cell? ⟨w.heap.size, 1, none⟩ = some (.int .i64 c) := cellsAt A1H.out 1
    have C4 : W.cell? ⟨w.heap.size, 4, none⟩ = some (.int .i64 d) := cellsAt A1H.out 4
    have C5 : W.cell? ⟨w.heap.size, 5, none⟩ = some (.int .i64 n) := cellsAt A1H.out 5
    have C6 : W.cell? ⟨w.heap.size, 6, none⟩ = some (.int .i64 s) := cellsAt A1H.out 6
    have C7 : W.cell? ⟨w.heap.size, 7, none⟩ = some (.int .i64 m) := cellsAt A1H.out 7
    have S1 := sizeAt A1H.out
    have S2 := sizeAt A2H.out
    go_wp2_with fail
    refine (G22_6.out _).mono ?_
    rintro e w' ⟨rfl, rfl⟩
    have A1' := Lib.hid (drew_heap A1H.out)
    have A2' := Lib.hid (drew_heap A2H.out)
    have hB' := Lib.hid (below_d1 hBH.out)
    clear A1H A2H hBH C1 C4 C5 C6 C7 S1 S2
    generalize W.drew = W' at *
    obtain ⟨W, rfl⟩ : ∃ v : World, v = W' := ⟨_, rfl⟩
    have A1H := A1'
    have A2H := A2'
    have hBH := hB'
    clear A1' A2' hB'
    have C1 : W.cell? ⟨w.heap.size, 1, none⟩ = some (.int .i64 c) := cellsAt A1H.out 1
    have C4 : W.cell? ⟨w.heap.size, 4, none⟩ = some (.int .i64 d) := cellsAt A1H.out 4
    have C5 : W.cell? ⟨w.heap.size, 5, none⟩ = some (.int .i64 n) := cellsAt A1H.out 5
    have C6 : W.cell? ⟨w.heap.size, 6, none⟩ = some (.int .i64 s) := cellsAt A1H.out 6
    have C7 : W.cell? ⟨w.heap.size, 7, none⟩ = some (.int .i64 m) := cellsAt A1H.out 7
    have S1 := sizeAt A1H.out
    have S2 := sizeAt A2H.out
    go_wp2_with fail
    refine (G23_5.out _).mono ?_
    rintro e w' ⟨rfl, rfl⟩
    have A1' := Lib.hid (drew_heap A1H.out)
    have A2' := Lib.hid (drew_heap A2H.out)
    have hB' := Lib.hid (below_d1 hBH.out)
    clear A1H A2H hBH C1 C4 C5 C6 C7 S1 S2
    generalize W.drew = W' at *
    obtain ⟨W, rfl⟩ : ∃ v : World, v = W' := ⟨_, rfl⟩
    have A1H := A1'
    have A2H := A2'
    have hBH := hB'
    clear A1' A2' hB'
    have C1 : W.cell? ⟨w.heap.size, 1, none⟩ = some (.int .i64 c) := cellsAt A1H.out 1
    have C4 : W.cell? ⟨w.heap.size, 4, none⟩ = some (.int .i64 d) := cellsAt A1H.out 4
    have C5 : W.cell? ⟨w.heap.size, 5, none⟩ = some (.int .i64 n) := cellsAt A1H.out 5
    have C6 : W.cell? ⟨w.heap.size, 6, none⟩ = some (.int .i64 s) := cellsAt A1H.out 6
    have C7 : W.cell? ⟨w.heap.size, 7, none⟩ = some (.int .i64 m) := cellsAt A1H.out 7
    have S1 := sizeAt A1H.out
    have S2 := sizeAt A2H.out
    go_wp2_with fail
    refine (G23_5.out _).mono ?_
    rintro e w' ⟨rfl, rfl⟩
    have A1' := Lib.hid (drew_heap A1H.out)
    have A2' := Lib.hid (drew_heap A2H.out)
    have hB' := Lib.hid (below_d1 hBH.out)
    clear A1H A2H hBH C1 C4 C5 C6 C7 S1 S2
    generalize W.drew = W' at *
    obtain ⟨W, rfl⟩ : ∃ v : World, v = W' := ⟨_, rfl⟩
    have A1H := A1'
    have A2H := A2'
    have hBH := hB'
    clear A1' A2' hB'
    have C1 : W.cell? ⟨w.heap.size, 1, none⟩ = some (.int .i64 c) := cellsAt A1H.out 1
    have C4 : W.cell? ⟨w.heap.size, 4, none⟩ = some (.int .i64 d) := cellsAt A1H.out 4
    have C5 : W.cell? ⟨w.heap.size, 5, none⟩ = some (.int .i64 n) := cellsAt A1H.out 5
    have C6 : W.cell? ⟨w.heap.size, 6, none⟩ = some (.int .i64 s) := cellsAt A1H.out 6
    have C7 : W.cell? ⟨w.heap.size, 7, none⟩ = some (.int .i64 m) := cellsAt A1H.out 7
    have S1 := sizeAt A1H.out
    have S2 := sizeAt A2H.out
    go_wp2_with fail
    refine (G20_2.out _).mono ?_
    rintro e w' ⟨rfl, rfl⟩
    have A1' := Lib.hid (drew_heap A1H.out)
    have A2' := Lib.hid (drew_heap A2H.out)
    have hB' := Lib.hid (below_d1 hBH.out)
    clear A1H A2H hBH C1 C4 C5 C6 C7 S1 S2
    generalize W.drew = W' at *
    obtain ⟨W, rfl⟩ : ∃ v : World, v = W' := ⟨_, rfl⟩
    have A1H := A1'
    have A2H := A2'
    have hBH := hB'
    clear A1' A2' hB'
    have C1 : W.cell? ⟨w.heap.size, 1, none⟩ = some (.int .i64 c) := cellsAt A1H.out 1
    have C4 : W.cell? ⟨w.heap.size, 4, none⟩ = some (.int .i64 d) := cellsAt A1H.out 4
    have C5 : W.cell? ⟨w.heap.size, 5, none⟩ = some (.int .i64 n) := cellsAt A1H.out 5
    have C6 : W.cell? ⟨w.heap.size, 6, none⟩ = some (.int .i64 s) := cellsAt A1H.out 6
    have C7 : W.cell? ⟨w.heap.size, 7, none⟩ = some (.int .i64 m) := cellsAt A1H.out 7
    have S1 := sizeAt A1H.out
    have S2 := sizeAt A2H.out
    go_wp2_with (first | (refine wpList_store_row rfl 25 (.tmp 4) (.tmp 78) rfl (w.heap.size + 1) _ rfl rfl 25 _ (A2H.out) info25 rfl (by simp [Value.oneCell']) ?_))
    exact bodyPost_ret (results_cell_row rfl _ _ (w.heap.size + 1) 25 _ _ _ rfl (setRow_heap _ _ _ _ _ _ (A2H.out)) Try.underlying25 rfl info25) rfl ⟨rfl, below_only (hBH.out) (Only.setRow (Only.refl (A2H.out))) (by omega) (hBH.out).size⟩
end Go.Proofs.Ytlpjadpjjcpfgaa.Re
