/- Package arm, walked: halfwords. -/
import Derived.Test.YtlpjadpjjcpfgaaRb
namespace Go.Proofs.Ytlpjadpjjcpfgaa.Rh
set_option linter.unusedVariables false
set_option linter.unusedSimpArgs false
open Go.RowKit Go.Proofs.Ytlpjadpjjcpfgaa.Bt Go.Proofs.Ytlpjadpjjcpfgaa.Wk Go.Proofs.Ytlpjadpjjcpfgaa.Ra Go.Proofs.Ytlpjadpjjcpfgaa.Rp Go.Proofs.Ytlpjadpjjcpfgaa.Rg Go.Proofs.Ytlpjadpjjcpfgaa.Rb
theorem and240 {x : Int} (h0 : 0 ≤ x) (h1 : x < 4294967296) : Go.bits .and .u32 (x / 16) 240 = x / 256 % 16 * 16 := by
  obtain ⟨a, rfl⟩ := Int.eq_ofNat_of_zero_le h0
  have e : ((a : Int) / 16) = ((a / 16 : Nat) : Int) := by omega
  rw [e, show (240 : Int) = ((240 : Nat) : Int) from rfl, and_nat .u32 ws_u32 (a / 16) 240 (by simp [IntKind.bits]; omega) (by decide)]
  have : a / 16 &&& 240 = a / 256 % 16 * 16 := by
    have h := land_split 4 (a / 16) 240
    have z : 240 % 2 ^ 4 = 0 := by decide
    have y : 240 / 2 ^ 4 = 2 ^ 4 - 1 := by decide
    rw [h, z, y, Nat.and_zero, Nat.and_two_pow_sub_one_eq_mod, Nat.div_div_eq_div_mul]
    omega
  rw [this]; omega
theorem or_add16 {a b : Int} (ha : 0 ≤ a) (hb : 0 ≤ b) (h : a % 16 = 0 ∧ a < 256) (hb2 : b < 16) : Go.bits .or .u32 a b = a + b := by
  obtain ⟨n, rfl⟩ := Int.eq_ofNat_of_zero_le ha
  obtain ⟨m, rfl⟩ := Int.eq_ofNat_of_zero_le hb
  rw [or_nat .u32 ws_u32 n m (by simp [IntKind.bits]; omega) (by simp [IntKind.bits]; omega), lor_add]
  · simp
  · have s := land_split 4 n m
    have e : m / 2 ^ 4 = 0 := by omega
    have f : n % 2 ^ 4 = 0 := by omega
    rw [s, e, f]; simp
set_option maxRecDepth 100000 in
set_option maxHeartbeats 40000000 in
theorem half_any (x c d n s m : Int) (h0 : 0 ≤ x) (h1 : x < 4294967296) (w : World) :
    Calls Try.prog 21 #[.int .u32 x, .agg #[.int .i64 0, .int .i64 c, .int .i64 0, .bool false, .int .i64 d, .int .i64 n, .int .i64 s, .int .i64 m, .int .u32 0, .bool false, .int .i64 0, .int .i64 0, .bool false, .bool false, .bool false, .bool false, .bool false, .bool false, .bool false, .bool false, .int .i64 0, .bool false, .bool false, .bool false]] w fun e w' => e = .returned (.agg #[.int .i64 (halfP x c d n m).kd, .int .i64 (halfP x c d n m).cond, .int .i64 (halfP x c d n m).code, .bool (halfP x c d n m).flags, .int .i64 (halfP x c d n m).rd, .int .i64 (halfP x c d n m).rn, .int .i64 (halfP x c d n m).rs, .int .i64 (halfP x c d n m).rm, .int .u32 (halfP x c d n m).imm, .bool (halfP x c d n m).hasImm, .int .i64 (halfP x c d n m).shift, .int .i64 (halfP x c d n m).amount, .bool (halfP x c d n m).byReg, .bool (halfP x c d n m).load, .bool (halfP x c d n m).byte, .bool (halfP x c d n m).signed, .bool (halfP x c d n m).pre, .bool (halfP x c d n m).up, .bool (halfP x c d n m).back, .bool (halfP x c d n m).user, .int .i64 (halfP x c d n m).list, .bool (halfP x c d n m).link, .bool (halfP x c d n m).long, .bool (halfP x c d n m).align]) ∧ Below w.heap.size w w' := by
  have H20 : Hid (∀ w, Calls Try.prog 11 #[.int .u32 x, .int .i64 20] w fun e w' => e = .returned (.bool (tb x 20)) ∧ w = w') := Lib.hid fun w => bit_any x 20 h0 h1 (by decide) w
  have H21 : Hid (∀ w, Calls Try.prog 11 #[.int .u32 x, .int .i64 21] w fun e w' => e = .returned (.bool (tb x 21)) ∧ w = w') := Lib.hid fun w => bit_any x 21 h0 h1 (by decide) w
  have H22 : Hid (∀ w, Calls Try.prog 11 #[.int .u32 x, .int .i64 22] w fun e w' => e = .returned (.bool (tb x 22)) ∧ w = w') := Lib.hid fun w => bit_any x 22 h0 h1 (by decide) w
  have H23 : Hid (∀ w, Calls Try.prog 11 #[.int .u32 x, .int .i64 23] w fun e w' => e = .returned (.bool (tb x 23)) ∧ w = w') := Lib.hid fun w => bit_any x 23 h0 h1 (by decide) w
  have H24 : Hid (∀ w, Calls Try.prog 11 #[.int .u32 x, .int .i64 24] w fun e w' => e = .returned (.bool (tb x 24)) ∧ w = w') := Lib.hid fun w => bit_any x 24 h0 h1 (by decide) w
  have G5_2 : Hid (∀ w, Calls Try.prog 10 #[.int .u32 x, .int .i64 5, .int .i64 2] w fun e w' => e = .returned (.int .i64 (fl x 5 2)) ∧ w' = w.drew) := Lib.hid fun w => field_any x 5 2 h0 h1 (by decide) (by decide) w
  have g1 : Go.bits .and .u32 (x / 16) 240 = x / 256 % 16 * 16 := and240 h0 h1
  have g2 : Go.bits .and .u32 x 15 = x % 16 := bits_m h0 h1 4 (by decide) _ (by decide) _ (by decide)
  have g3 : Go.bits .or .u32 (x / 256 % 16 * 16) (x % 16) = x / 256 % 16 * 16 + x % 16 := or_add16 (by omega) (by omega) (by omega) (by omega)
  unfold halfP
  generalize x / 256 % 16 * 16 + x % 16 = im at *
  generalize x / 256 % 16 * 16 = im1 at *
  generalize x % 16 = im2 at *
  generalize tb x 20 = b20 at *
  generalize tb x 21 = b21 at *
  generalize tb x 22 = b22 at *
  generalize tb x 23 = b23 at *
  generalize tb x 24 = b24 at *
  generalize fl x 5 2 = f5_2 at *
  by_cases hn : b20 = false ∧ f5_2 ≠ 1
  · rw [if_pos hn]
    simp only [none_]
    obtain ⟨rfl, hk⟩ := hn
    have dk : (f5_2 != 1) = true := by simpa using hk
    clear hk
    go_enter Try.func21, Try.ntmps21
    go_wp2_with fail
    have A1 : ((w.alloc (.cells #[.int .i64 0, .int .i64 c, .int .i64 0, .bool false, .int .i64 d, .int .i64 n, .int .i64 s, .int .i64 m, .int .u32 0, .bool false, .int .i64 0, .int .i64 0, .bool false, .bool false, .bool false, .bool false, .bool false, .bool false, .bool false, .bool false, .int .i64 0, .bool false, .bool false, .bool false] 25)).alloc (.cells #[.int .i64 0, .int .i64 0, .int .i64 0, .bool false, .int .i64 0, .int .i64 0, .int .i64 0, .int .i64 0, .int .u32 0, .bool false, .int .i64 0, .int .i64 0, .bool false, .bool false, .bool false, .bool false, .bool false, .bool false, .bool false, .bool false, .int .i64 0, .bool false, .bool false, .bool false] 25)).heap[w.heap.size]? = some (.cells #[.int .i64 0, .int .i64 c, .int .i64 0, .bool false, .int .i64 d, .int .i64 n, .int .i64 s, .int .i64 m, .int .u32 0, .bool false, .int .i64 0, .int .i64 0, .bool false, .bool false, .bool false, .bool false, .bool false, .bool false, .bool false, .bool false, .int .i64 0, .bool false, .bool false, .bool false] 25) := alloc_old _ (alloc_new _ _)
    have A2 : ((w.alloc (.cells #[.int .i64 0, .int .i64 c, .int .i64 0, .bool false, .int .i64 d, .int .i64 n, .int .i64 s, .int .i64 m, .int .u32 0, .bool false, .int .i64 0, .int .i64 0, .bool false, .bool false, .bool false, .bool false, .bool false, .bool false, .bool false, .bool false, .int .i64 0, .bool false, .bool false, .bool false] 25)).alloc (.cells #[.int .i64 0, .int .i64 0, .int .i64 0, .bool false, .int .i64 0, .int .i64 0, .int .i64 0, .int .i64 0, .int .u32 0, .bool false, .int .i64 0, .int .i64 0, .bool false, .bool false, .bool false, .bool false, .bool false, .bool false, .bool false, .bool false, .int .i64 0, .bool false, .bool false, .bool false] 25)).heap[w.heap.size + 1]? = some (.cells #[.int .i64 0, .int .i64 0, .int .i64 0, .bool false, .int .i64 0, .int .i64 0, .int .i64 0, .int .i64 0, .int .u32 0, .bool false, .int .i64 0, .int .i64 0, .bool false, .bool false, .bool false, .bool false, .bool false, .bool false, .bool false, .bool false, .int .i64 0, .bool false, .bool false, .bool false] 25) := by have := alloc_new (w.alloc (.cells #[.int .i64 0, .int .i64 c, .int .i64 0, .bool false, .int .i64 d, .int .i64 n, .int .i64 s, .int .i64 m, .int .u32 0, .bool false, .int .i64 0, .int .i64 0, .bool false, .bool false, .bool false, .bool false, .bool false, .bool false, .bool false, .bool false, .int .i64 0, .bool false, .bool false, .bool false] 25)) (.cells #[.int .i64 0, .int .i64 0, .int .i64 0, .bool false, .int .i64 0, .int .i64 0, .int .i64 0, .int .i64 0, .int .u32 0, .bool false, .int .i64 0, .int .i64 0, .bool false, .bool false, .bool false, .bool false, .bool false, .bool false, .bool false, .bool false, .int .i64 0, .bool false, .bool false, .bool false] 25); simpa using this
    have hB : Below w.heap.size w ((w.alloc (.cells #[.int .i64 0, .int .i64 c, .int .i64 0, .bool false, .int .i64 d, .int .i64 n, .int .i64 s, .int .i64 m, .int .u32 0, .bool false, .int .i64 0, .int .i64 0, .bool false, .bool false, .bool false, .bool false, .bool false, .bool false, .bool false, .bool false, .int .i64 0, .bool false, .bool false, .bool false] 25)).alloc (.cells #[.int .i64 0, .int .i64 0, .int .i64 0, .bool false, .int .i64 0, .int .i64 0, .int .i64 0, .int .i64 0, .int .u32 0, .bool false, .int .i64 0, .int .i64 0, .bool false, .bool false, .bool false, .bool false, .bool false, .bool false, .bool false, .bool false, .int .i64 0, .bool false, .bool false, .bool false] 25)) := ((Below.refl _ _).alloc (Nat.le_refl _) _).alloc (by simp) _
    generalize (w.alloc (.cells #[.int .i64 0, .int .i64 c, .int .i64 0, .bool false, .int .i64 d, .int .i64 n, .int .i64 s, .int .i64 m, .int .u32 0, .bool false, .int .i64 0, .int .i64 0, .bool false, .bool false, .bool false, .bool false, .bool false, .bool false, .bool false, .bool false, .int .i64 0, .bool false, .bool false, .bool false] 25)).alloc (.cells #[.int .i64 0, .int .i64 0, .int .i64 0, .bool false, .int .i64 0, .int .i64 0, .int .i64 0, .int .i64 0, .int .u32 0, .bool false, .int .i64 0, .int .i64 0, .bool false, .bool false, .bool false, .bool false, .bool false, .bool false, .bool false, .bool false, .int .i64 0, .bool false, .bool false, .bool false] 25) = W at *
    have A1H := Lib.hid A1
    have A2H := Lib.hid A2
    have hBH := Lib.hid hB
    clear A1 A2 hB
    have C1 : W.cell? ⟨w.heap.size, 1, none⟩ = some (.int .i64 c) := cellsAt A1H.out 1
    have C4 : W.cell? ⟨w.heap.size, 4, none⟩ = some (.int .i64 d) := cellsAt A1H.out 4
    have C5 : W.cell? ⟨w.heap.size, 5, none⟩ = some (.int .i64 n) := cellsAt A1H.out 5
    have C6 : W.cell? ⟨w.heap.size, 6, none⟩ = some (.int .i64 s) := cellsAt A1H.out 6
    have C7 : W.cell? ⟨w.heap.size, 7, none⟩ = some (.int .i64 m) := cellsAt A1H.out 7
    have S1 := sizeAt A1H.out
    have S2 := sizeAt A2H.out
    go_wp2_with fail
    refine (G5_2.out _).mono ?_
    rintro e w' ⟨rfl, rfl⟩
    have A1' := Lib.hid (drew_heap A1H.out)
    have A2' := Lib.hid (drew_heap A2H.out)
    have hB' := Lib.hid (below_d1 hBH.out)
    clear A1H A2H hBH C1 C4 C5 C6 C7 S1 S2
    generalize W.drew = W' at *
    obtain ⟨W, rfl⟩ : ∃ v : World, v = W' := ⟨_, rfl⟩
    have A1H := A1'
    have A2H := A2'
    have hBH := hB'
    clear A1' A2' hB'
    have C1 : W.cell? ⟨w.heap.size, 1, none⟩ = some (.int .i64 c) := cellsAt A1H.out 1
    have C4 : W.cell? ⟨w.heap.size, 4, none⟩ = some (.int .i64 d) := cellsAt A1H.out 4
    have C5 : W.cell? ⟨w.heap.size, 5, none⟩ = some (.int .i64 n) := cellsAt A1H.out 5
    have C6 : W.cell? ⟨w.heap.size, 6, none⟩ = some (.int .i64 s) := cellsAt A1H.out 6
    have C7 : W.cell? ⟨w.heap.size, 7, none⟩ = some (.int .i64 m) := cellsAt A1H.out 7
    have S1 := sizeAt A1H.out
    have S2 := sizeAt A2H.out
    go_wp2_with (first | (go_at_call 11; ((with_reducible refine (H20.out _).mono ?_); rintro e w' ⟨rfl, rfl⟩)) | (go_at_call 11; ((with_reducible refine (H21.out _).mono ?_); rintro e w' ⟨rfl, rfl⟩)) | (go_at_call 11; ((with_reducible refine (H22.out _).mono ?_); rintro e w' ⟨rfl, rfl⟩)) | (go_at_call 11; ((with_reducible refine (H23.out _).mono ?_); rintro e w' ⟨rfl, rfl⟩)) | (go_at_call 11; ((with_reducible refine (H24.out _).mono ?_); rintro e w' ⟨rfl, rfl⟩)) | (refine wpList_store_row rfl 25 (.tmp 4) (.tmp 20) rfl (w.heap.size + 1) _ rfl rfl 25 _ (A2H.out) info25 rfl (by simp [Value.oneCell']) ?_))
    exact bodyPost_ret (results_cell_row rfl _ _ (w.heap.size + 1) 25 _ _ _ rfl (setRow_heap _ _ _ _ _ _ (A2H.out)) Try.underlying25 rfl info25) rfl ⟨rfl, below_only (hBH.out) (Only.setRow (Only.refl (A2H.out))) (by omega) (hBH.out).size⟩
  rw [if_neg hn]
  have tst : (b20 = true) ∨ (b20 = false ∧ f5_2 = 1) := by cases b20; right; refine ⟨rfl, ?_⟩; exact Decidable.byContradiction fun e => hn ⟨rfl, e⟩; left; rfl
  clear hn
  rcases tst with rfl | ⟨rfl, rfl⟩
  all_goals
    cases b22
    all_goals
      simp only [if_neg Bool.false_ne_true, if_pos rfl]
      cases b21
      all_goals
        go_enter Try.func21, Try.ntmps21
        go_wp2_with fail
        have A1 : ((w.alloc (.cells #[.int .i64 0, .int .i64 c, .int .i64 0, .bool false, .int .i64 d, .int .i64 n, .int .i64 s, .int .i64 m, .int .u32 0, .bool false, .int .i64 0, .int .i64 0, .bool false, .bool false, .bool false, .bool false, .bool false, .bool false, .bool false, .bool false, .int .i64 0, .bool false, .bool false, .bool false] 25)).alloc (.cells #[.int .i64 0, .int .i64 0, .int .i64 0, .bool false, .int .i64 0, .int .i64 0, .int .i64 0, .int .i64 0, .int .u32 0, .bool false, .int .i64 0, .int .i64 0, .bool false, .bool false, .bool false, .bool false, .bool false, .bool false, .bool false, .bool false, .int .i64 0, .bool false, .bool false, .bool false] 25)).heap[w.heap.size]? = some (.cells #[.int .i64 0, .int .i64 c, .int .i64 0, .bool false, .int .i64 d, .int .i64 n, .int .i64 s, .int .i64 m, .int .u32 0, .bool false, .int .i64 0, .int .i64 0, .bool false, .bool false, .bool false, .bool false, .bool false, .bool false, .bool false, .bool false, .int .i64 0, .bool false, .bool false, .bool false] 25) := alloc_old _ (alloc_new _ _)
        have A2 : ((w.alloc (.cells #[.int .i64 0, .int .i64 c, .int .i64 0, .bool false, .int .i64 d, .int .i64 n, .int .i64 s, .int .i64 m, .int .u32 0, .bool false, .int .i64 0, .int .i64 0, .bool false, .bool false, .bool false, .bool false, .bool false, .bool false, .bool false, .bool false, .int .i64 0, .bool false, .bool false, .bool false] 25)).alloc (.cells #[.int .i64 0, .int .i64 0, .int .i64 0, .bool false, .int .i64 0, .int .i64 0, .int .i64 0, .int .i64 0, .int .u32 0, .bool false, .int .i64 0, .int .i64 0, .bool false, .bool false, .bool false, .bool false, .bool false, .bool false, .bool false, .bool false, .int .i64 0, .bool false, .bool false, .bool false] 25)).heap[w.heap.size + 1]? = some (.cells #[.int .i64 0, .int .i64 0, .int .i64 0, .bool false, .int .i64 0, .int .i64 0, .int .i64 0, .int .i64 0, .int .u32 0, .bool false, .int .i64 0, .int .i64 0, .bool false, .bool false, .bool false, .bool false, .bool false, .bool false, .bool false, .bool false, .int .i64 0, .bool false, .bool false, .bool false] 25) := by have := alloc_new (w.alloc (.cells #[.int .i64 0, .int .i64 c, .int .i64 0, .bool false, .int .i64 d, .int .i64 n, .int .i64 s, .int .i64 m, .int .u32 0, .bool false, .int .i64 0, .int .i64 0, .bool false, .bool false, .bool false, .bool false, .bool false, .bool false, .bool false, .bool false, .int .i64 0, .bool false, .bool false, .bool false] 25)) (.cells #[.int .i64 0, .int .i64 0, .int .i64 0, .bool false, .int .i64 0, .int .i64 0, .int .i64 0, .int .i64 0, .int .u32 0, .bool false, .int .i64 0, .int .i64 0, .bool false, .bool false, .bool false, .bool false, .bool false, .bool false, .bool false, .bool false, .int .i64 0, .bool false, .bool false, .bool false] 25); simpa using this
        have hB : Below w.heap.size w ((w.alloc (.cells #[.int .i64 0, .int .i64 c, .int .i64 0, .bool false, .int .i64 d, .int .i64 n, .int .i64 s, .int .i64 m, .int .u32 0, .bool false, .int .i64 0, .int .i64 0, .bool false, .bool false, .bool false, .bool false, .bool false, .bool false, .bool false, .bool false, .int .i64 0, .bool false, .bool false, .bool false] 25)).alloc (.cells #[.int .i64 0, .int .i64 0, .int .i64 0, .bool false, .int .i64 0, .int .i64 0, .int .i64 0, .int .i64 0, .int .u32 0, .bool false, .int .i64 0, .int .i64 0, .bool false, .bool false, .bool false, .bool false, .bool false, .bool false, .bool false, .bool false, .int .i64 0, .bool false, .bool false, .bool false] 25)) := ((Below.refl _ _).alloc (Nat.le_refl _) _).alloc (by simp) _
        generalize (w.alloc (.cells #[.int .i64 0, .int .i64 c, .int .i64 0, .bool false, .int .i64 d, .int .i64 n, .int .i64 s, .int .i64 m, .int .u32 0, .bool false, .int .i64 0, .int .i64 0, .bool false, .bool false, .bool false, .bool false, .bool false, .bool false, .bool false, .bool false, .int .i64 0, .bool false, .bool false, .bool false] 25)).alloc (.cells #[.int .i64 0, .int .i64 0, .int .i64 0, .bool false, .int .i64 0, .int .i64 0, .int .i64 0, .int .i64 0, .int .u32 0, .bool false, .int .i64 0, .int .i64 0, .bool false, .bool false, .bool false, .bool false, .bool false, .bool false, .bool false, .bool false, .int .i64 0, .bool false, .bool false, .bool false] 25) = W at *
        have A1H := Lib.hid A1
        have A2H := Lib.hid A2
        have hBH := Lib.hid hB
        clear A1 A2 hB
        have C1 : W.cell? ⟨w.heap.size, 1, none⟩ = some (.int .i64 c) := cellsAt A1H.out 1
        have C4 : W.cell? ⟨w.heap.size, 4, none⟩ = some (.int .i64 d) := cellsAt A1H.out 4
        have C5 : W.cell? ⟨w.heap.size, 5, none⟩ = some (.int .i64 n) := cellsAt A1H.out 5
        have C6 : W.cell? ⟨w.heap.size, 6, none⟩ = some (.int .i64 s) := cellsAt A1H.out 6
        have C7 : W.cell? ⟨w.heap.size, 7, none⟩ = some (.int .i64 m) := cellsAt A1H.out 7
        have S1 := sizeAt A1H.out
        have S2 := sizeAt A2H.out
        go_wp2_with fail
        refine (G5_2.out _).mono ?_
        rintro e w' ⟨rfl, rfl⟩
        have A1' := Lib.hid (drew_heap A1H.out)
        have A2' := Lib.hid (drew_heap A2H.out)
        have hB' := Lib.hid (below_d1 hBH.out)
        clear A1H A2H hBH C1 C4 C5 C6 C7 S1 S2
        generalize W.drew = W' at *
        obtain ⟨W, rfl⟩ : ∃ v : World, v = W' := ⟨_, rfl⟩
        have A1H := A1'
        have A2H := A2'
        have hBH := hB'
        clear A1' A2' hB'
        have C1 : W.cell? ⟨w.heap.size, 1, none⟩ = some (.int .i64 c) := cellsAt A1H.out 1
        have C4 : W.cell? ⟨w.heap.size, 4, none⟩ = some (.int .i64 d) := cellsAt A1H.out 4
        have C5 : W.cell? ⟨w.heap.size, 5, none⟩ = some (.int .i64 n) := cellsAt A1H.out 5
        have C6 : W.cell? ⟨w.heap.size, 6, none⟩ = some (.int .i64 s) := cellsAt A1H.out 6
        have C7 : W.cell? ⟨w.heap.size, 7, none⟩ = some (.int .i64 m) := cellsAt A1H.out 7
        have S1 := sizeAt A1H.out
        have S2 := sizeAt A2H.out
        go_wp2_with (first | (go_at_call 11; ((with_reducible refine (H20.out _).mono ?_); rintro e w' ⟨rfl, rfl⟩)) | (go_at_call 11; ((with_reducible refine (H21.out _).mono ?_); rintro e w' ⟨rfl, rfl⟩)) | (go_at_call 11; ((with_reducible refine (H22.out _).mono ?_); rintro e w' ⟨rfl, rfl⟩)) | (go_at_call 11; ((with_reducible refine (H23.out _).mono ?_); rintro e w' ⟨rfl, rfl⟩)) | (go_at_call 11; ((with_reducible refine (H24.out _).mono ?_); rintro e w' ⟨rfl, rfl⟩)))
        refine region_alloc 20 (by kernel_rfl) (by kernel_rfl) _ _ 25 7 40 #[.int .i64 0, .int .i64 0, .int .i64 0, .bool false, .int .i64 0, .int .i64 0, .int .i64 0, .int .i64 0, .int .u32 0, .bool false, .int .i64 0, .int .i64 0, .bool false, .bool false, .bool false, .bool false, .bool false, .bool false, .bool false, .bool false, .int .i64 0, .bool false, .bool false, .bool false] rfl rfl rfl rfl rfl (fun a w => kA25 _ _ _ rfl) rfl rfl rfl (by decide) (by simp) info25 ?_
        simp only [List.take_succ_cons, List.take_zero]
        have HC1 := Lib.hid C1
        have HC4 := Lib.hid C4
        have HC5 := Lib.hid C5
        have HC6 := Lib.hid C6
        have HC7 := Lib.hid C7
        have HS1 := Lib.hid S1
        repeat (refine wpSure_next ?_ (fun w' hw' J hJ => ?_) (fun L hL => ?_); rotate_left; (have D1 := (hw'.2 _ 1 HS1.out).trans HC1.out; have D4 := (hw'.2 _ 4 HS1.out).trans HC4.out; have D5 := (hw'.2 _ 5 HS1.out).trans HC5.out; have D6 := (hw'.2 _ 6 HS1.out).trans HC6.out; have D7 := (hw'.2 _ 7 HS1.out).trans HC7.out; clear hw'; unfold stillK; go_simp; (first | exact hJ | ((with_reducible refine ⟨_, Wk.flip (H20.out _), ?_⟩); exact hJ) | ((with_reducible refine ⟨_, Wk.flip (H21.out _), ?_⟩); exact hJ) | ((with_reducible refine ⟨_, Wk.flip (H22.out _), ?_⟩); exact hJ) | ((with_reducible refine ⟨_, Wk.flip (H23.out _), ?_⟩); exact hJ) | ((with_reducible refine ⟨_, Wk.flip (H24.out _), ?_⟩); exact hJ))); (go_simp; refine hL _ ?_; clear hL L))
        refine wpSure_nil ?_
        refine ⟨by simp, _, rfl, rfl, by simp [Value.oneCell'], ?_⟩
        go_wp2_with (first | (go_at_call 11; ((with_reducible refine (H20.out _).mono ?_); rintro e w' ⟨rfl, rfl⟩)) | (go_at_call 11; ((with_reducible refine (H21.out _).mono ?_); rintro e w' ⟨rfl, rfl⟩)) | (go_at_call 11; ((with_reducible refine (H22.out _).mono ?_); rintro e w' ⟨rfl, rfl⟩)) | (go_at_call 11; ((with_reducible refine (H23.out _).mono ?_); rintro e w' ⟨rfl, rfl⟩)) | (go_at_call 11; ((with_reducible refine (H24.out _).mono ?_); rintro e w' ⟨rfl, rfl⟩)) | (refine wpList_load_row rfl 25 (.tmp 7) rfl (W.heap.size) rfl 25 _ (0, 0) _ (drew_heap (alloc_new W _)) Try.underlying25 rfl info25 ?_) | (refine wpList_store_row rfl 25 (.tmp 4) (.tmp 54) rfl (w.heap.size + 1) _ rfl rfl 25 _ (drew_heap (alloc_old _ A2H.out)) info25 rfl (by simp [Value.oneCell']) ?_))
        exact bodyPost_ret (results_cell_row rfl _ _ (w.heap.size + 1) 25 _ _ _ rfl (setRow_heap _ _ _ _ _ _ (drew_heap (alloc_old _ A2H.out))) Try.underlying25 rfl info25) rfl ⟨rfl, below_only (below_d1 (hBH.out.alloc hBH.out.size _)) (Only.setRow (Only.refl (drew_heap (alloc_old _ A2H.out)))) (by omega) (below_d1 (hBH.out.alloc hBH.out.size _)).size⟩
end Go.Proofs.Ytlpjadpjjcpfgaa.Rh
