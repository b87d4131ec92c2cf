/- Package arm, walked: data processing. -/
import Derived.Test.YtlpjadpjjcpfgaaRc
namespace Go.Proofs.Ytlpjadpjjcpfgaa.Rd
set_option linter.unusedVariables false
set_option linter.unusedSimpArgs false
open Go.RowKit Go.Proofs.Ytlpjadpjjcpfgaa.Bt Go.Proofs.Ytlpjadpjjcpfgaa.Wk Go.Proofs.Ytlpjadpjjcpfgaa.Ra Go.Proofs.Ytlpjadpjjcpfgaa.Rp Go.Proofs.Ytlpjadpjjcpfgaa.Rg Go.Proofs.Ytlpjadpjjcpfgaa.Rb Go.Proofs.Ytlpjadpjjcpfgaa.Rc
set_option maxRecDepth 100000 in
set_option maxHeartbeats 40000000 in
theorem data_any (x c d n s m : Int) (imm : Bool) (h0 : 0 ≤ x) (h1 : x < 4294967296) (w : World) :
    Calls Try.prog 13 #[.int .u32 x, .agg #[.int .i64 0, .int .i64 c, .int .i64 0, .bool false, .int .i64 d, .int .i64 n, .int .i64 s, .int .i64 m, .int .u32 0, .bool false, .int .i64 0, .int .i64 0, .bool false, .bool false, .bool false, .bool false, .bool false, .bool false, .bool false, .bool false, .int .i64 0, .bool false, .bool false, .bool false], .bool imm] w fun e w' => e = .returned (.agg #[.int .i64 (dataP x c d n s m imm).kd, .int .i64 (dataP x c d n s m imm).cond, .int .i64 (dataP x c d n s m imm).code, .bool (dataP x c d n s m imm).flags, .int .i64 (dataP x c d n s m imm).rd, .int .i64 (dataP x c d n s m imm).rn, .int .i64 (dataP x c d n s m imm).rs, .int .i64 (dataP x c d n s m imm).rm, .int .u32 (dataP x c d n s m imm).imm, .bool (dataP x c d n s m imm).hasImm, .int .i64 (dataP x c d n s m imm).shift, .int .i64 (dataP x c d n s m imm).amount, .bool (dataP x c d n s m imm).byReg, .bool (dataP x c d n s m imm).load, .bool (dataP x c d n s m imm).byte, .bool (dataP x c d n s m imm).signed, .bool (dataP x c d n s m imm).pre, .bool (dataP x c d n s m imm).up, .bool (dataP x c d n s m imm).back, .bool (dataP x c d n s m imm).user, .int .i64 (dataP x c d n s m imm).list, .bool (dataP x c d n s m imm).link, .bool (dataP x c d n s m imm).long, .bool (dataP x c d n s m imm).align]) ∧ Below w.heap.size w w' := by
  have H20 : Hid (∀ w, Calls Try.prog 11 #[.int .u32 x, .int .i64 20] w fun e w' => e = .returned (.bool (tb x 20)) ∧ w = w') := Lib.hid fun w => bit_any x 20 h0 h1 (by decide) w
  have H4 : Hid (∀ w, Calls Try.prog 11 #[.int .u32 x, .int .i64 4] w fun e w' => e = .returned (.bool (tb x 4)) ∧ w = w') := Lib.hid fun w => bit_any x 4 h0 h1 (by decide) w
  have G21_4 : Hid (∀ w, Calls Try.prog 10 #[.int .u32 x, .int .i64 21, .int .i64 4] w fun e w' => e = .returned (.int .i64 (fl x 21 4)) ∧ w' = w.drew) := Lib.hid fun w => field_any x 21 4 h0 h1 (by decide) (by decide) w
  have G5_2 : Hid (∀ w, Calls Try.prog 10 #[.int .u32 x, .int .i64 5, .int .i64 2] w fun e w' => e = .returned (.int .i64 (fl x 5 2)) ∧ w' = w.drew) := Lib.hid fun w => field_any x 5 2 h0 h1 (by decide) (by decide) w
  have G7_5 : Hid (∀ w, Calls Try.prog 10 #[.int .u32 x, .int .i64 7, .int .i64 5] w fun e w' => e = .returned (.int .i64 (fl x 7 5)) ∧ w' = w.drew) := Lib.hid fun w => field_any x 7 5 h0 h1 (by decide) (by decide) w
  have g4 : Go.bits .and .u32 x 255 = x % 256 := bits_m h0 h1 8 (by decide) _ (by decide) _ (by decide)
  have SC := Lib.hid (fun w => status_any x c d n s m imm h0 h1 w)
  have z0 : 0 ≤ fl x 21 4 := Int.emod_nonneg _ (by decide)
  have z1 : fl x 21 4 < 16 := Int.emod_lt_of_pos _ (by decide)
  unfold dataP
  generalize statusP x c d n s m imm = hh at *
  generalize x % 256 = v4 at *
  generalize tb x 20 = b20 at *
  generalize tb x 4 = b4 at *
  generalize fl x 21 4 = f21_4 at *
  generalize fl x 5 2 = f5_2 at *
  generalize fl x 7 5 = f7_5 at *
  by_cases q : f21_4 / 4 = 2 ∧ b20 = false
  · obtain ⟨qf, rfl⟩ := q
    rw [if_pos ⟨qf, rfl⟩]
    have e1 : (f21_4 / 4 == 2) = true := by simpa using qf
    clear qf
    try simp only [none_]
    go_enter Try.func13, Try.ntmps13
    go_wp2_with fail
    have A1 : ((w.alloc (.cells #[.int .i64 0, .int .i64 c, .int .i64 0, .bool false, .int .i64 d, .int .i64 n, .int .i64 s, .int .i64 m, .int .u32 0, .bool false, .int .i64 0, .int .i64 0, .bool false, .bool false, .bool false, .bool false, .bool false, .bool false, .bool false, .bool false, .int .i64 0, .bool false, .bool false, .bool false] 25)).alloc (.cells #[.int .i64 0, .int .i64 0, .int .i64 0, .bool false, .int .i64 0, .int .i64 0, .int .i64 0, .int .i64 0, .int .u32 0, .bool false, .int .i64 0, .int .i64 0, .bool false, .bool false, .bool false, .bool false, .bool false, .bool false, .bool false, .bool false, .int .i64 0, .bool false, .bool false, .bool false] 25)).heap[w.heap.size]? = some (.cells #[.int .i64 0, .int .i64 c, .int .i64 0, .bool false, .int .i64 d, .int .i64 n, .int .i64 s, .int .i64 m, .int .u32 0, .bool false, .int .i64 0, .int .i64 0, .bool false, .bool false, .bool false, .bool false, .bool false, .bool false, .bool false, .bool false, .int .i64 0, .bool false, .bool false, .bool false] 25) := alloc_old _ (alloc_new _ _)
    have A2 : ((w.alloc (.cells #[.int .i64 0, .int .i64 c, .int .i64 0, .bool false, .int .i64 d, .int .i64 n, .int .i64 s, .int .i64 m, .int .u32 0, .bool false, .int .i64 0, .int .i64 0, .bool false, .bool false, .bool false, .bool false, .bool false, .bool false, .bool false, .bool false, .int .i64 0, .bool false, .bool false, .bool false] 25)).alloc (.cells #[.int .i64 0, .int .i64 0, .int .i64 0, .bool false, .int .i64 0, .int .i64 0, .int .i64 0, .int .i64 0, .int .u32 0, .bool false, .int .i64 0, .int .i64 0, .bool false, .bool false, .bool false, .bool false, .bool false, .bool false, .bool false, .bool false, .int .i64 0, .bool false, .bool false, .bool false] 25)).heap[w.heap.size + 1]? = some (.cells #[.int .i64 0, .int .i64 0, .int .i64 0, .bool false, .int .i64 0, .int .i64 0, .int .i64 0, .int .i64 0, .int .u32 0, .bool false, .int .i64 0, .int .i64 0, .bool false, .bool false, .bool false, .bool false, .bool false, .bool false, .bool false, .bool false, .int .i64 0, .bool false, .bool false, .bool false] 25) := by have := alloc_new (w.alloc (.cells #[.int .i64 0, .int .i64 c, .int .i64 0, .bool false, .int .i64 d, .int .i64 n, .int .i64 s, .int .i64 m, .int .u32 0, .bool false, .int .i64 0, .int .i64 0, .bool false, .bool false, .bool false, .bool false, .bool false, .bool false, .bool false, .bool false, .int .i64 0, .bool false, .bool false, .bool false] 25)) (.cells #[.int .i64 0, .int .i64 0, .int .i64 0, .bool false, .int .i64 0, .int .i64 0, .int .i64 0, .int .i64 0, .int .u32 0, .bool false, .int .i64 0, .int .i64 0, .bool false, .bool false, .bool false, .bool false, .bool false, .bool false, .bool false, .bool false, .int .i64 0, .bool false, .bool false, .bool false] 25); simpa using this
    have hB : Below w.heap.size w ((w.alloc (.cells #[.int .i64 0, .int .i64 c, .int .i64 0, .bool false, .int .i64 d, .int .i64 n, .int .i64 s, .int .i64 m, .int .u32 0, .bool false, .int .i64 0, .int .i64 0, .bool false, .bool false, .bool false, .bool false, .bool false, .bool false, .bool false, .bool false, .int .i64 0, .bool false, .bool false, .bool false] 25)).alloc (.cells #[.int .i64 0, .int .i64 0, .int .i64 0, .bool false, .int .i64 0, .int .i64 0, .int .i64 0, .int .i64 0, .int .u32 0, .bool false, .int .i64 0, .int .i64 0, .bool false, .bool false, .bool false, .bool false, .bool false, .bool false, .bool false, .bool false, .int .i64 0, .bool false, .bool false, .bool false] 25)) := ((Below.refl _ _).alloc (Nat.le_refl _) _).alloc (by simp) _
    generalize (w.alloc (.cells #[.int .i64 0, .int .i64 c, .int .i64 0, .bool false, .int .i64 d, .int .i64 n, .int .i64 s, .int .i64 m, .int .u32 0, .bool false, .int .i64 0, .int .i64 0, .bool false, .bool false, .bool false, .bool false, .bool false, .bool false, .bool false, .bool false, .int .i64 0, .bool false, .bool false, .bool false] 25)).alloc (.cells #[.int .i64 0, .int .i64 0, .int .i64 0, .bool false, .int .i64 0, .int .i64 0, .int .i64 0, .int .i64 0, .int .u32 0, .bool false, .int .i64 0, .int .i64 0, .bool false, .bool false, .bool false, .bool false, .bool false, .bool false, .bool false, .bool false, .int .i64 0, .bool false, .bool false, .bool false] 25) = W at *
    have A1H := Lib.hid A1
    have A2H := Lib.hid A2
    have hBH := Lib.hid hB
    clear A1 A2 hB
    have C1 : W.cell? ⟨w.heap.size, 1, none⟩ = some (.int .i64 c) := cellsAt A1H.out 1
    have C4 : W.cell? ⟨w.heap.size, 4, none⟩ = some (.int .i64 d) := cellsAt A1H.out 4
    have C5 : W.cell? ⟨w.heap.size, 5, none⟩ = some (.int .i64 n) := cellsAt A1H.out 5
    have C6 : W.cell? ⟨w.heap.size, 6, none⟩ = some (.int .i64 s) := cellsAt A1H.out 6
    have C7 : W.cell? ⟨w.heap.size, 7, none⟩ = some (.int .i64 m) := cellsAt A1H.out 7
    have S1 := sizeAt A1H.out
    have S2 := sizeAt A2H.out
    go_wp2_with fail
    refine (G21_4.out _).mono ?_
    rintro e w' ⟨rfl, rfl⟩
    have A1' := Lib.hid (drew_heap A1H.out)
    have A2' := Lib.hid (drew_heap A2H.out)
    have hB' := Lib.hid (below_d1 hBH.out)
    clear A1H A2H hBH C1 C4 C5 C6 C7 S1 S2
    generalize W.drew = W' at *
    obtain ⟨W, rfl⟩ : ∃ v : World, v = W' := ⟨_, rfl⟩
    have A1H := A1'
    have A2H := A2'
    have hBH := hB'
    clear A1' A2' hB'
    have C1 : W.cell? ⟨w.heap.size, 1, none⟩ = some (.int .i64 c) := cellsAt A1H.out 1
    have C4 : W.cell? ⟨w.heap.size, 4, none⟩ = some (.int .i64 d) := cellsAt A1H.out 4
    have C5 : W.cell? ⟨w.heap.size, 5, none⟩ = some (.int .i64 n) := cellsAt A1H.out 5
    have C6 : W.cell? ⟨w.heap.size, 6, none⟩ = some (.int .i64 s) := cellsAt A1H.out 6
    have C7 : W.cell? ⟨w.heap.size, 7, none⟩ = some (.int .i64 m) := cellsAt A1H.out 7
    have S1 := sizeAt A1H.out
    have S2 := sizeAt A2H.out
    go_wp2_with (first | (go_at_call 11; ((with_reducible refine (H20.out _).mono ?_); rintro e w' ⟨rfl, rfl⟩)) | (go_at_call 11; ((with_reducible refine (H4.out _).mono ?_); rintro e w' ⟨rfl, rfl⟩)) | (refine wpList_load_row rfl 25 (.tmp 4) rfl (w.heap.size) rfl 25 _ (0, 0) _ (A1H.out) Try.underlying25 rfl info25 ?_))
    refine (SC.out _).mono ?_
    rintro e w2 ⟨rfl, hb⟩
    go_wp2_with (refine wpList_store_row rfl 25 (.tmp 6) (.tmp 22) rfl (w.heap.size + 1) _ rfl rfl 25 _ (keep hb A2H.out) info25 rfl (by simp [Value.oneCell']) ?_)
    exact bodyPost_ret (results_cell_row rfl _ _ (w.heap.size + 1) 25 _ _ _ rfl (setRow_heap _ _ _ _ _ _ (keep hb A2H.out)) Try.underlying25 rfl info25) rfl ⟨rfl, below_only (below_then hBH.out hb hBH.out.size) (Only.setRow (Only.refl (keep hb A2H.out))) (by omega) (below_then hBH.out hb hBH.out.size).size⟩
  have tst : (f21_4 / 4 == 2) = false ∨ ((f21_4 / 4 == 2) = true ∧ b20 = true) := by
    by_cases h : f21_4 / 4 = 2
    · refine .inr ⟨by simpa using h, ?_⟩
      cases b20
      · exact absurd ⟨h, rfl⟩ q
      · rfl
    · exact .inl (by simpa using h)
  rw [if_neg q]
  clear q SC
  rcases tst with e1 | ⟨e1, rfl⟩
  all_goals
    cases imm
    · simp only [if_neg Bool.false_ne_true]
      cases b4
      · simp only [if_neg Bool.false_ne_true]
        go_enter Try.func13, Try.ntmps13
        go_wp2_with fail
        have A1 : ((w.alloc (.cells #[.int .i64 0, .int .i64 c, .int .i64 0, .bool false, .int .i64 d, .int .i64 n, .int .i64 s, .int .i64 m, .int .u32 0, .bool false, .int .i64 0, .int .i64 0, .bool false, .bool false, .bool false, .bool false, .bool false, .bool false, .bool false, .bool false, .int .i64 0, .bool false, .bool false, .bool false] 25)).alloc (.cells #[.int .i64 0, .int .i64 0, .int .i64 0, .bool false, .int .i64 0, .int .i64 0, .int .i64 0, .int .i64 0, .int .u32 0, .bool false, .int .i64 0, .int .i64 0, .bool false, .bool false, .bool false, .bool false, .bool false, .bool false, .bool false, .bool false, .int .i64 0, .bool false, .bool false, .bool false] 25)).heap[w.heap.size]? = some (.cells #[.int .i64 0, .int .i64 c, .int .i64 0, .bool false, .int .i64 d, .int .i64 n, .int .i64 s, .int .i64 m, .int .u32 0, .bool false, .int .i64 0, .int .i64 0, .bool false, .bool false, .bool false, .bool false, .bool false, .bool false, .bool false, .bool false, .int .i64 0, .bool false, .bool false, .bool false] 25) := alloc_old _ (alloc_new _ _)
        have A2 : ((w.alloc (.cells #[.int .i64 0, .int .i64 c, .int .i64 0, .bool false, .int .i64 d, .int .i64 n, .int .i64 s, .int .i64 m, .int .u32 0, .bool false, .int .i64 0, .int .i64 0, .bool false, .bool false, .bool false, .bool false, .bool false, .bool false, .bool false, .bool false, .int .i64 0, .bool false, .bool false, .bool false] 25)).alloc (.cells #[.int .i64 0, .int .i64 0, .int .i64 0, .bool false, .int .i64 0, .int .i64 0, .int .i64 0, .int .i64 0, .int .u32 0, .bool false, .int .i64 0, .int .i64 0, .bool false, .bool false, .bool false, .bool false, .bool false, .bool false, .bool false, .bool false, .int .i64 0, .bool false, .bool false, .bool false] 25)).heap[w.heap.size + 1]? = some (.cells #[.int .i64 0, .int .i64 0, .int .i64 0, .bool false, .int .i64 0, .int .i64 0, .int .i64 0, .int .i64 0, .int .u32 0, .bool false, .int .i64 0, .int .i64 0, .bool false, .bool false, .bool false, .bool false, .bool false, .bool false, .bool false, .bool false, .int .i64 0, .bool false, .bool false, .bool false] 25) := by have := alloc_new (w.alloc (.cells #[.int .i64 0, .int .i64 c, .int .i64 0, .bool false, .int .i64 d, .int .i64 n, .int .i64 s, .int .i64 m, .int .u32 0, .bool false, .int .i64 0, .int .i64 0, .bool false, .bool false, .bool false, .bool false, .bool false, .bool false, .bool false, .bool false, .int .i64 0, .bool false, .bool false, .bool false] 25)) (.cells #[.int .i64 0, .int .i64 0, .int .i64 0, .bool false, .int .i64 0, .int .i64 0, .int .i64 0, .int .i64 0, .int .u32 0, .bool false, .int .i64 0, .int .i64 0, .bool false, .bool false, .bool false, .bool false, .bool false, .bool false, .bool false, .bool false, .int .i64 0, .bool false, .bool false, .bool false] 25); simpa using this
        have hB : Below w.heap.size w ((w.alloc (.cells #[.int .i64 0, .int .i64 c, .int .i64 0, .bool false, .int .i64 d, .int .i64 n, .int .i64 s, .int .i64 m, .int .u32 0, .bool false, .int .i64 0, .int .i64 0, .bool false, .bool false, .bool false, .bool false, .bool false, .bool false, .bool false, .bool false, .int .i64 0, .bool false, .bool false, .bool false] 25)).alloc (.cells #[.int .i64 0, .int .i64 0, .int .i64 0, .bool false, .int .i64 0, .int .i64 0, .int .i64 0, .int .i64 0, .int .u32 0, .bool false, .int .i64 0, .int .i64 0, .bool false, .bool false, .bool false, .bool false, .bool false, .bool false, .bool false, .bool false, .int .i64 0, .bool false, .bool false, .bool false] 25)) := ((Below.refl _ _).alloc (Nat.le_refl _) _).alloc (by simp) _
        generalize (w.alloc (.cells #[.int .i64 0, .int .i64 c, .int .i64 0, .bool false, .int .i64 d, .int .i64 n, .int .i64 s, .int .i64 m, .int .u32 0, .bool false, .int .i64 0, .int .i64 0, .bool false, .bool false, .bool false, .bool false, .bool false, .bool false, .bool false, .bool false, .int .i64 0, .bool false, .bool false, .bool false] 25)).alloc (.cells #[.int .i64 0, .int .i64 0, .int .i64 0, .bool false, .int .i64 0, .int .i64 0, .int .i64 0, .int .i64 0, .int .u32 0, .bool false, .int .i64 0, .int .i64 0, .bool false, .bool false, .bool false, .bool false, .bool false, .bool false, .bool false, .bool false, .int .i64 0, .bool false, .bool false, .bool false] 25) = W at *
        have A1H := Lib.hid A1
        have A2H := Lib.hid A2
        have hBH := Lib.hid hB
        clear A1 A2 hB
        have C1 : W.cell? ⟨w.heap.size, 1, none⟩ = some (.int .i64 c) := cellsAt A1H.out 1
        have C4 : W.cell? ⟨w.heap.size, 4, none⟩ = some (.int .i64 d) := cellsAt A1H.out 4
        have C5 : W.cell? ⟨w.heap.size, 5, none⟩ = some (.int .i64 n) := cellsAt A1H.out 5
        have C6 : W.cell? ⟨w.heap.size, 6, none⟩ = some (.int .i64 s) := cellsAt A1H.out 6
        have C7 : W.cell? ⟨w.heap.size, 7, none⟩ = some (.int .i64 m) := cellsAt A1H.out 7
        have S1 := sizeAt A1H.out
        have S2 := sizeAt A2H.out
        go_wp2_with fail
        refine (G21_4.out _).mono ?_
        rintro e w' ⟨rfl, rfl⟩
        have A1' := Lib.hid (drew_heap A1H.out)
        have A2' := Lib.hid (drew_heap A2H.out)
        have hB' := Lib.hid (below_d1 hBH.out)
        clear A1H A2H hBH C1 C4 C5 C6 C7 S1 S2
        generalize W.drew = W' at *
        obtain ⟨W, rfl⟩ : ∃ v : World, v = W' := ⟨_, rfl⟩
        have A1H := A1'
        have A2H := A2'
        have hBH := hB'
        clear A1' A2' hB'
        have C1 : W.cell? ⟨w.heap.size, 1, none⟩ = some (.int .i64 c) := cellsAt A1H.out 1
        have C4 : W.cell? ⟨w.heap.size, 4, none⟩ = some (.int .i64 d) := cellsAt A1H.out 4
        have C5 : W.cell? ⟨w.heap.size, 5, none⟩ = some (.int .i64 n) := cellsAt A1H.out 5
        have C6 : W.cell? ⟨w.heap.size, 6, none⟩ = some (.int .i64 s) := cellsAt A1H.out 6
        have C7 : W.cell? ⟨w.heap.size, 7, none⟩ = some (.int .i64 m) := cellsAt A1H.out 7
        have S1 := sizeAt A1H.out
        have S2 := sizeAt A2H.out
        go_wp2_with (first | (go_at_call 11; ((with_reducible refine (H20.out _).mono ?_); rintro e w' ⟨rfl, rfl⟩)) | (go_at_call 11; ((with_reducible refine (H4.out _).mono ?_); rintro e w' ⟨rfl, rfl⟩)))
        refine region_alloc 10 (by kernel_rfl) (by kernel_rfl) _ _ 25 8 32 #[.int .i64 0, .int .i64 0, .int .i64 0, .bool false, .int .i64 0, .int .i64 0, .int .i64 0, .int .i64 0, .int .u32 0, .bool false, .int .i64 0, .int .i64 0, .bool false, .bool false, .bool false, .bool false, .bool false, .bool false, .bool false, .bool false, .int .i64 0, .bool false, .bool false, .bool false] rfl rfl rfl rfl rfl (fun a w => kA25 _ _ _ rfl) rfl rfl rfl (by decide) (by simp) info25 ?_
        simp only [List.take_succ_cons, List.take_zero]
        have HC1 := Lib.hid C1
        have HC4 := Lib.hid C4
        have HC5 := Lib.hid C5
        have HC6 := Lib.hid C6
        have HC7 := Lib.hid C7
        have HS1 := Lib.hid S1
        repeat (refine wpSure_next ?_ (fun w' hw' J hJ => ?_) (fun L hL => ?_); rotate_left; (have D1 := (hw'.2 _ 1 HS1.out).trans HC1.out; have D4 := (hw'.2 _ 4 HS1.out).trans HC4.out; have D5 := (hw'.2 _ 5 HS1.out).trans HC5.out; have D6 := (hw'.2 _ 6 HS1.out).trans HC6.out; have D7 := (hw'.2 _ 7 HS1.out).trans HC7.out; clear hw'; unfold stillK; go_simp; (first | exact hJ | ((with_reducible refine ⟨_, Wk.flip (H20.out _), ?_⟩); exact hJ) | ((with_reducible refine ⟨_, Wk.flip (H4.out _), ?_⟩); exact hJ))); (go_simp; refine hL _ ?_; clear hL L))
        refine wpSure_nil ?_
        refine ⟨by simp, _, rfl, rfl, by simp [Value.oneCell'], ?_⟩
        go_wp2_with (first | (go_at_call 11; ((with_reducible refine (H20.out _).mono ?_); rintro e w' ⟨rfl, rfl⟩)) | (go_at_call 11; ((with_reducible refine (H4.out _).mono ?_); rintro e w' ⟨rfl, rfl⟩)) | (go_at_call 10; ((with_reducible refine (G5_2.out _).mono ?_); rintro e w' ⟨rfl, rfl⟩)) | (go_at_call 10; ((with_reducible refine (G7_5.out _).mono ?_); rintro e w' ⟨rfl, rfl⟩)) | (refine wpList_load_row rfl 25 (.tmp 8) rfl (W.heap.size) rfl 25 _ (0, 0) _ (drew_heap (drew_heap (drew_heap (alloc_new W _)))) Try.underlying25 rfl info25 ?_) | (refine wpList_store_row rfl 25 (.tmp 6) (.tmp 57) rfl (w.heap.size + 1) _ rfl rfl 25 _ (drew_heap (drew_heap (drew_heap (alloc_old _ A2H.out)))) info25 rfl (by simp [Value.oneCell']) ?_))
        exact bodyPost_ret (results_cell_row rfl _ _ (w.heap.size + 1) 25 _ _ _ rfl (setRow_heap _ _ _ _ _ _ (drew_heap (drew_heap (drew_heap (alloc_old _ A2H.out))))) Try.underlying25 rfl info25) rfl ⟨rfl, below_only (below_d1 (below_d1 (below_d1 (hBH.out.alloc hBH.out.size _)))) (Only.setRow (Only.refl (drew_heap (drew_heap (drew_heap (alloc_old _ A2H.out)))))) (by omega) (below_d1 (below_d1 (below_d1 (hBH.out.alloc hBH.out.size _)))).size⟩
      · simp only [if_pos rfl]
        go_enter Try.func13, Try.ntmps13
        go_wp2_with fail
        have A1 : ((w.alloc (.cells #[.int .i64 0, .int .i64 c, .int .i64 0, .bool false, .int .i64 d, .int .i64 n, .int .i64 s, .int .i64 m, .int .u32 0, .bool false, .int .i64 0, .int .i64 0, .bool false, .bool false, .bool false, .bool false, .bool false, .bool false, .bool false, .bool false, .int .i64 0, .bool false, .bool false, .bool false] 25)).alloc (.cells #[.int .i64 0, .int .i64 0, .int .i64 0, .bool false, .int .i64 0, .int .i64 0, .int .i64 0, .int .i64 0, .int .u32 0, .bool false, .int .i64 0, .int .i64 0, .bool false, .bool false, .bool false, .bool false, .bool false, .bool false, .bool false, .bool false, .int .i64 0, .bool false, .bool false, .bool false] 25)).heap[w.heap.size]? = some (.cells #[.int .i64 0, .int .i64 c, .int .i64 0, .bool false, .int .i64 d, .int .i64 n, .int .i64 s, .int .i64 m, .int .u32 0, .bool false, .int .i64 0, .int .i64 0, .bool false, .bool false, .bool false, .bool false, .bool false, .bool false, .bool false, .bool false, .int .i64 0, .bool false, .bool false, .bool false] 25) := alloc_old _ (alloc_new _ _)
        have A2 : ((w.alloc (.cells #[.int .i64 0, .int .i64 c, .int .i64 0, .bool false, .int .i64 d, .int .i64 n, .int .i64 s, .int .i64 m, .int .u32 0, .bool false, .int .i64 0, .int .i64 0, .bool false, .bool false, .bool false, .bool false, .bool false, .bool false, .bool false, .bool false, .int .i64 0, .bool false, .bool false, .bool false] 25)).alloc (.cells #[.int .i64 0, .int .i64 0, .int .i64 0, .bool false, .int .i64 0, .int .i64 0, .int .i64 0, .int .i64 0, .int .u32 0, .bool false, .int .i64 0, .int .i64 0, .bool false, .bool false, .bool false, .bool false, .bool false, .bool false, .bool false, .bool false, .int .i64 0, .bool false, .bool false, .bool false] 25)).heap[w.heap.size + 1]? = some (.cells #[.int .i64 0, .int .i64 0, .int .i64 0, .bool false, .int .i64 0, .int .i64 0, .int .i64 0, .int .i64 0, .int .u32 0, .bool false, .int .i64 0, .int .i64 0, .bool false, .bool false, .bool false, .bool false, .bool false, .bool false, .bool false, .bool false, .int .i64 0, .bool false, .bool false, .bool false] 25) := by have := alloc_new (w.alloc (.cells #[.int .i64 0, .int .i64 c, .int .i64 0, .bool false, .int .i64 d, .int .i64 n, .int .i64 s, .int .i64 m, .int .u32 0, .bool false, .int .i64 0, .int .i64 0, .bool false, .bool false, .bool false, .bool false, .bool false, .bool false, .bool false, .bool false, .int .i64 0, .bool false, .bool false, .bool false] 25)) (.cells #[.int .i64 0, .int .i64 0, .int .i64 0, .bool false, .int .i64 0, .int .i64 0, .int .i64 0, .int .i64 0, .int .u32 0, .bool false, .int .i64 0, .int .i64 0, .bool false, .bool false, .bool false, .bool false, .bool false, .bool false, .bool false, .bool false, .int .i64 0, .bool false, .bool false, .bool false] 25); simpa using this
        have hB : Below w.heap.size w ((w.alloc (.cells #[.int .i64 0, .int .i64 c, .int .i64 0, .bool false, .int .i64 d, .int .i64 n, .int .i64 s, .int .i64 m, .int .u32 0, .bool false, .int .i64 0, .int .i64 0, .bool false, .bool false, .bool false, .bool false, .bool false, .bool false, .bool false, .bool false, .int .i64 0, .bool false, .bool false, .bool false] 25)).alloc (.cells #[.int .i64 0, .int .i64 0, .int .i64 0, .bool false, .int .i64 0, .int .i64 0, .int .i64 0, .int .i64 0, .int .u32 0, .bool false, .int .i64 0, .int .i64 0, .bool false, .bool false, .bool false, .bool false, .bool false, .bool false, .bool false, .bool false, .int .i64 0, .bool false, .bool false, .bool false] 25)) := ((Below.refl _ _).alloc (Nat.le_refl _) _).alloc (by simp) _
        generalize (w.alloc (.cells #[.int .i64 0, .int .i64 c, .int .i64 0, .bool false, .int .i64 d, .int .i64 n, .int .i64 s, .int .i64 m, .int .u32 0, .bool false, .int .i64 0, .int .i64 0, .bool false, .bool false, .bool false, .bool false, .bool false, .bool false, .bool false, .bool false, .int .i64 0, .bool false, .bool false, .bool false] 25)).alloc (.cells #[.int .i64 0, .int .i64 0, .int .i64 0, .bool false, .int .i64 0, .int .i64 0, .int .i64 0, .int .i64 0, .int .u32 0, .bool false, .int .i64 0, .int .i64 0, .bool false, .bool false, .bool false, .bool false, .bool false, .bool false, .bool false, .bool false, .int .i64 0, .bool false, .bool false, .bool false] 25) = W at *
        have A1H := Lib.hid A1
        have A2H := Lib.hid A2
        have hBH := Lib.hid hB
        clear A1 A2 hB
        have C1 : W.cell? ⟨w.heap.size, 1, none⟩ = some (.int .i64 c) := cellsAt A1H.out 1
        have C4 : W.cell? ⟨w.heap.size, 4, none⟩ = some (.int .i64 d) := cellsAt A1H.out 4
        have C5 : W.cell? ⟨w.heap.size, 5, none⟩ = some (.int .i64 n) := cellsAt A1H.out 5
        have C6 : W.cell? ⟨w.heap.size, 6, none⟩ = some (.int .i64 s) := cellsAt A1H.out 6
        have C7 : W.cell? ⟨w.heap.size, 7, none⟩ = some (.int .i64 m) := cellsAt A1H.out 7
        have S1 := sizeAt A1H.out
        have S2 := sizeAt A2H.out
        go_wp2_with fail
        refine (G21_4.out _).mono ?_
        rintro e w' ⟨rfl, rfl⟩
        have A1' := Lib.hid (drew_heap A1H.out)
        have A2' := Lib.hid (drew_heap A2H.out)
        have hB' := Lib.hid (below_d1 hBH.out)
        clear A1H A2H hBH C1 C4 C5 C6 C7 S1 S2
        generalize W.drew = W' at *
        obtain ⟨W, rfl⟩ : ∃ v : World, v = W' := ⟨_, rfl⟩
        have A1H := A1'
        have A2H := A2'
        have hBH := hB'
        clear A1' A2' hB'
        have C1 : W.cell? ⟨w.heap.size, 1, none⟩ = some (.int .i64 c) := cellsAt A1H.out 1
        have C4 : W.cell? ⟨w.heap.size, 4, none⟩ = some (.int .i64 d) := cellsAt A1H.out 4
        have C5 : W.cell? ⟨w.heap.size, 5, none⟩ = some (.int .i64 n) := cellsAt A1H.out 5
        have C6 : W.cell? ⟨w.heap.size, 6, none⟩ = some (.int .i64 s) := cellsAt A1H.out 6
        have C7 : W.cell? ⟨w.heap.size, 7, none⟩ = some (.int .i64 m) := cellsAt A1H.out 7
        have S1 := sizeAt A1H.out
        have S2 := sizeAt A2H.out
        go_wp2_with (first | (go_at_call 11; ((with_reducible refine (H20.out _).mono ?_); rintro e w' ⟨rfl, rfl⟩)) | (go_at_call 11; ((with_reducible refine (H4.out _).mono ?_); rintro e w' ⟨rfl, rfl⟩)))
        refine region_alloc 10 (by kernel_rfl) (by kernel_rfl) _ _ 25 8 32 #[.int .i64 0, .int .i64 0, .int .i64 0, .bool false, .int .i64 0, .int .i64 0, .int .i64 0, .int .i64 0, .int .u32 0, .bool false, .int .i64 0, .int .i64 0, .bool false, .bool false, .bool false, .bool false, .bool false, .bool false, .bool false, .bool false, .int .i64 0, .bool false, .bool false, .bool false] rfl rfl rfl rfl rfl (fun a w => kA25 _ _ _ rfl) rfl rfl rfl (by decide) (by simp) info25 ?_
        simp only [List.take_succ_cons, List.take_zero]
        have HC1 := Lib.hid C1
        have HC4 := Lib.hid C4
        have HC5 := Lib.hid C5
        have HC6 := Lib.hid C6
        have HC7 := Lib.hid C7
        have HS1 := Lib.hid S1
        repeat (refine wpSure_next ?_ (fun w' hw' J hJ => ?_) (fun L hL => ?_); rotate_left; (have D1 := (hw'.2 _ 1 HS1.out).trans HC1.out; have D4 := (hw'.2 _ 4 HS1.out).trans HC4.out; have D5 := (hw'.2 _ 5 HS1.out).trans HC5.out; have D6 := (hw'.2 _ 6 HS1.out).trans HC6.out; have D7 := (hw'.2 _ 7 HS1.out).trans HC7.out; clear hw'; unfold stillK; go_simp; (first | exact hJ | ((with_reducible refine ⟨_, Wk.flip (H20.out _), ?_⟩); exact hJ) | ((with_reducible refine ⟨_, Wk.flip (H4.out _), ?_⟩); exact hJ))); (go_simp; refine hL _ ?_; clear hL L))
        refine wpSure_nil ?_
        refine ⟨by simp, _, rfl, rfl, by simp [Value.oneCell'], ?_⟩
        go_wp2_with (first | (go_at_call 11; ((with_reducible refine (H20.out _).mono ?_); rintro e w' ⟨rfl, rfl⟩)) | (go_at_call 11; ((with_reducible refine (H4.out _).mono ?_); rintro e w' ⟨rfl, rfl⟩)) | (go_at_call 10; ((with_reducible refine (G5_2.out _).mono ?_); rintro e w' ⟨rfl, rfl⟩)) | (refine wpList_load_row rfl 25 (.tmp 8) rfl (W.heap.size) rfl 25 _ (0, 0) _ (drew_heap (drew_heap (alloc_new W _))) Try.underlying25 rfl info25 ?_) | (refine wpList_store_row rfl 25 (.tmp 6) (.tmp 57) rfl (w.heap.size + 1) _ rfl rfl 25 _ (drew_heap (drew_heap (alloc_old _ A2H.out))) info25 rfl (by simp [Value.oneCell']) ?_))
        exact bodyPost_ret (results_cell_row rfl _ _ (w.heap.size + 1) 25 _ _ _ rfl (setRow_heap _ _ _ _ _ _ (drew_heap (drew_heap (alloc_old _ A2H.out)))) Try.underlying25 rfl info25) rfl ⟨rfl, below_only (below_d1 (below_d1 (hBH.out.alloc hBH.out.size _))) (Only.setRow (Only.refl (drew_heap (drew_heap (alloc_old _ A2H.out))))) (by omega) (below_d1 (below_d1 (hBH.out.alloc hBH.out.size _))).size⟩
    · simp only [if_pos rfl]
      go_enter Try.func13, Try.ntmps13
      go_wp2_with fail
      have A1 : ((w.alloc (.cells #[.int .i64 0, .int .i64 c, .int .i64 0, .bool false, .int .i64 d, .int .i64 n, .int .i64 s, .int .i64 m, .int .u32 0, .bool false, .int .i64 0, .int .i64 0, .bool false, .bool false, .bool false, .bool false, .bool false, .bool false, .bool false, .bool false, .int .i64 0, .bool false, .bool false, .bool false] 25)).alloc (.cells #[.int .i64 0, .int .i64 0, .int .i64 0, .bool false, .int .i64 0, .int .i64 0, .int .i64 0, .int .i64 0, .int .u32 0, .bool false, .int .i64 0, .int .i64 0, .bool false, .bool false, .bool false, .bool false, .bool false, .bool false, .bool false, .bool false, .int .i64 0, .bool false, .bool false, .bool false] 25)).heap[w.heap.size]? = some (.cells #[.int .i64 0, .int .i64 c, .int .i64 0, .bool false, .int .i64 d, .int .i64 n, .int .i64 s, .int .i64 m, .int .u32 0, .bool false, .int .i64 0, .int .i64 0, .bool false, .bool false, .bool false, .bool false, .bool false, .bool false, .bool false, .bool false, .int .i64 0, .bool false, .bool false, .bool false] 25) := alloc_old _ (alloc_new _ _)
      have A2 : ((w.alloc (.cells #[.int .i64 0, .int .i64 c, .int .i64 0, .bool false, .int .i64 d, .int .i64 n, .int .i64 s, .int .i64 m, .int .u32 0, .bool false, .int .i64 0, .int .i64 0, .bool false, .bool false, .bool false, .bool false, .bool false, .bool false, .bool false, .bool false, .int .i64 0, .bool false, .bool false, .bool false] 25)).alloc (.cells #[.int .i64 0, .int .i64 0, .int .i64 0, .bool false, .int .i64 0, .int .i64 0, .int .i64 0, .int .i64 0, .int .u32 0, .bool false, .int .i64 0, .int .i64 0, .bool false, .bool false, .bool false, .bool false, .bool false, .bool false, .bool false, .bool false, .int .i64 0, .bool false, .bool false, .bool false] 25)).heap[w.heap.size + 1]? = some (.cells #[.int .i64 0, .int .i64 0, .int .i64 0, .bool false, .int .i64 0, .int .i64 0, .int .i64 0, .int .i64 0, .int .u32 0, .bool false, .int .i64 0, .int .i64 0, .bool false, .bool false, .bool false, .bool false, .bool false, .bool false, .bool false, .bool false, .int .i64 0, .bool false, .bool false, .bool false] 25) := by have := alloc_new (w.alloc (.cells #[.int .i64 0, .int .i64 c, .int .i64 0, .bool false, .int .i64 d, .int .i64 n, .int .i64 s, .int .i64 m, .int .u32 0, .bool false, .int .i64 0, .int .i64 0, .bool false, .bool false, .bool false, .bool false, .bool false, .bool false, .bool false, .bool false, .int .i64 0, .bool false, .bool false, .bool false] 25)) (.cells #[.int .i64 0, .int .i64 0, .int .i64 0, .bool false, .int .i64 0, .int .i64 0, .int .i64 0, .int .i64 0, .int .u32 0, .bool false, .int .i64 0, .int .i64 0, .bool false, .bool false, .bool false, .bool false, .bool false, .bool false, .bool false, .bool false, .int .i64 0, .bool false, .bool false, .bool false] 25); simpa using this
      have hB : Below w.heap.size w ((w.alloc (.cells #[.int .i64 0, .int .i64 c, .int .i64 0, .bool false, .int .i64 d, .int .i64 n, .int .i64 s, .int .i64 m, .int .u32 0, .bool false, .int .i64 0, .int .i64 0, .bool false, .bool false, .bool false, .bool false, .bool false, .bool false, .bool false, .bool false, .int .i64 0, .bool false, .bool false, .bool false] 25)).alloc (.cells #[.int .i64 0, .int .i64 0, .int .i64 0, .bool false, .int .i64 0, .int .i64 0, .int .i64 0, .int .i64 0, .int .u32 0, .bool false, .int .i64 0, .int .i64 0, .bool false, .bool false, .bool false, .bool false, .bool false, .bool false, .bool false, .bool false, .int .i64 0, .bool false, .bool false, .bool false] 25)) := ((Below.refl _ _).alloc (Nat.le_refl _) _).alloc (by simp) _
      generalize (w.alloc (.cells #[.int .i64 0, .int .i64 c, .int .i64 0, .bool false, .int .i64 d, .int .i64 n, .int .i64 s, .int .i64 m, .int .u32 0, .bool false, .int .i64 0, .int .i64 0, .bool false, .bool false, .bool false, .bool false, .bool false, .bool false, .bool false, .bool false, .int .i64 0, .bool false, .bool false, .bool false] 25)).alloc (.cells #[.int .i64 0, .int .i64 0, .int .i64 0, .bool false, .int .i64 0, .int .i64 0, .int .i64 0, .int .i64 0, .int .u32 0, .bool false, .int .i64 0, .int .i64 0, .bool false, .bool false, .bool false, .bool false, .bool false, .bool false, .bool false, .bool false, .int .i64 0, .bool false, .bool false, .bool false] 25) = W at *
      have A1H := Lib.hid A1
      have A2H := Lib.hid A2
      have hBH := Lib.hid hB
      clear A1 A2 hB
      have C1 : W.cell? ⟨w.heap.size, 1, none⟩ = some (.int .i64 c) := cellsAt A1H.out 1
      have C4 : W.cell? ⟨w.heap.size, 4, none⟩ = some (.int .i64 d) := cellsAt A1H.out 4
      have C5 : W.cell? ⟨w.heap.size, 5, none⟩ = some (.int .i64 n) := cellsAt A1H.out 5
      have C6 : W.cell? ⟨w.heap.size, 6, none⟩ = some (.int .i64 s) := cellsAt A1H.out 6
      have C7 : W.cell? ⟨w.heap.size, 7, none⟩ = some (.int .i64 m) := cellsAt A1H.out 7
      have S1 := sizeAt A1H.out
      have S2 := sizeAt A2H.out
      go_wp2_with fail
      refine (G21_4.out _).mono ?_
      rintro e w' ⟨rfl, rfl⟩
      have A1' := Lib.hid (drew_heap A1H.out)
      have A2' := Lib.hid (drew_heap A2H.out)
      have hB' := Lib.hid (below_d1 hBH.out)
      clear A1H A2H hBH C1 C4 C5 C6 C7 S1 S2
      generalize W.drew = W' at *
      obtain ⟨W, rfl⟩ : ∃ v : World, v = W' := ⟨_, rfl⟩
      have A1H := A1'
      have A2H := A2'
      have hBH := hB'
      clear A1' A2' hB'
      have C1 : W.cell? ⟨w.heap.size, 1, none⟩ = some (.int .i64 c) := cellsAt A1H.out 1
      have C4 : W.cell? ⟨w.heap.size, 4, none⟩ = some (.int .i64 d) := cellsAt A1H.out 4
      have C5 : W.cell? ⟨w.heap.size, 5, none⟩ = some (.int .i64 n) := cellsAt A1H.out 5
      have C6 : W.cell? ⟨w.heap.size, 6, none⟩ = some (.int .i64 s) := cellsAt A1H.out 6
      have C7 : W.cell? ⟨w.heap.size, 7, none⟩ = some (.int .i64 m) := cellsAt A1H.out 7
      have S1 := sizeAt A1H.out
      have S2 := sizeAt A2H.out
      go_wp2_with (first | (go_at_call 11; ((with_reducible refine (H20.out _).mono ?_); rintro e w' ⟨rfl, rfl⟩)) | (go_at_call 11; ((with_reducible refine (H4.out _).mono ?_); rintro e w' ⟨rfl, rfl⟩)))
      refine region_alloc 10 (by kernel_rfl) (by kernel_rfl) _ _ 25 8 32 #[.int .i64 0, .int .i64 0, .int .i64 0, .bool false, .int .i64 0, .int .i64 0, .int .i64 0, .int .i64 0, .int .u32 0, .bool false, .int .i64 0, .int .i64 0, .bool false, .bool false, .bool false, .bool false, .bool false, .bool false, .bool false, .bool false, .int .i64 0, .bool false, .bool false, .bool false] rfl rfl rfl rfl rfl (fun a w => kA25 _ _ _ rfl) rfl rfl rfl (by decide) (by simp) info25 ?_
      simp only [List.take_succ_cons, List.take_zero]
      have HC1 := Lib.hid C1
      have HC4 := Lib.hid C4
      have HC5 := Lib.hid C5
      have HC6 := Lib.hid C6
      have HC7 := Lib.hid C7
      have HS1 := Lib.hid S1
      repeat (refine wpSure_next ?_ (fun w' hw' J hJ => ?_) (fun L hL => ?_); rotate_left; (have D1 := (hw'.2 _ 1 HS1.out).trans HC1.out; have D4 := (hw'.2 _ 4 HS1.out).trans HC4.out; have D5 := (hw'.2 _ 5 HS1.out).trans HC5.out; have D6 := (hw'.2 _ 6 HS1.out).trans HC6.out; have D7 := (hw'.2 _ 7 HS1.out).trans HC7.out; clear hw'; unfold stillK; go_simp; (first | exact hJ | ((with_reducible refine ⟨_, Wk.flip (H20.out _), ?_⟩); exact hJ) | ((with_reducible refine ⟨_, Wk.flip (H4.out _), ?_⟩); exact hJ))); (go_simp; refine hL _ ?_; clear hL L))
      refine wpSure_nil ?_
      refine ⟨by simp, _, rfl, rfl, by simp [Value.oneCell'], ?_⟩
      go_wp2_with (first | (go_at_call 11; ((with_reducible refine (H20.out _).mono ?_); rintro e w' ⟨rfl, rfl⟩)) | (go_at_call 11; ((with_reducible refine (H4.out _).mono ?_); rintro e w' ⟨rfl, rfl⟩)) | (refine wpList_load_row rfl 25 (.tmp 8) rfl (W.heap.size) rfl 25 _ (0, 0) _ (drew_heap (alloc_new W _)) Try.underlying25 rfl info25 ?_) | (refine wpList_store_row rfl 25 (.tmp 6) (.tmp 41) rfl (w.heap.size + 1) _ rfl rfl 25 _ (drew_heap (alloc_old _ A2H.out)) info25 rfl (by simp [Value.oneCell']) ?_))
      exact bodyPost_ret (results_cell_row rfl _ _ (w.heap.size + 1) 25 _ _ _ rfl (setRow_heap _ _ _ _ _ _ (drew_heap (alloc_old _ A2H.out))) Try.underlying25 rfl info25) rfl ⟨rfl, below_only (below_d1 (hBH.out.alloc hBH.out.size _)) (Only.setRow (Only.refl (drew_heap (alloc_old _ A2H.out)))) (by omega) (below_d1 (hBH.out.alloc hBH.out.size _)).size⟩
end Go.Proofs.Ytlpjadpjjcpfgaa.Rd
