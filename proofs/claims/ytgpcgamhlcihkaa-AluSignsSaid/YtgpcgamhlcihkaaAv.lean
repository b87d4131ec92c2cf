/- The laws on products, walked. -/
import Derived.Test.YtgpcgamhlcihkaaAu
namespace Go.Proofs.Ytgpcgamhlcihkaa.Aw
set_option linter.unusedVariables false
set_option linter.unusedSimpArgs false
open Go.RowKit Go.Proofs.Ytgpcgamhlcihkaa.Bt Go.Proofs.Ytgpcgamhlcihkaa.Am
open Go.Proofs.Ytgpcgamhlcihkaa.Wk (alloc_new alloc_old keep sizeAt cellsAt freeAt below_then)

theorem sg_mod (a b : Int) : (sg a * sg b - a * b) % 4294967296 = 0 := by
  have h : ∀ x : Int, ∃ k : Int, sg x = x - 4294967296 * k := fun x => by
    unfold sg; split
    · exact ⟨0, by omega⟩
    · exact ⟨1, by omega⟩
  obtain ⟨k, hk⟩ := h a
  obtain ⟨l, hl⟩ := h b
  have : sg a * sg b - a * b = 4294967296 * (4294967296 * (k * l) - k * b - a * l) := by rw [hk, hl]; grind
  rw [this, Int.mul_emod_right]
set_option maxHeartbeats 2000000 in
set_option maxRecDepth 100000 in
theorem muls_law (code a b : Int) (n z fc v sh : Bool) (c : Int) (_ : (Lit.int .i64 code).wf = true) (ha : (Lit.int .u32 a).wf = true) (hb : (Lit.int .u32 b).wf = true) (_ : (Lit.int .u64 c).wf = true) (w : World) :
    Calls Try.prog 7 #[.agg #[.int .i64 code, .int .u32 a, .int .u32 b, .bool n, .bool z, .bool fc, .bool v, .bool sh], .int .u64 c] w fun e w' => e = .returned (.bool true) ∧ Below w.heap.size w w' := by
  obtain ⟨a0, a1⟩ := bounds_u32 ha
  obtain ⟨b0, b1⟩ := bounds_u32 hb
  have a2 : a < 4294967296 := by omega
  have b2 : b < 4294967296 := by omega
  clear ha hb
  obtain ⟨d, hd⟩ : ∃ d, c % 4294967296 = d := ⟨_, rfl⟩
  have d0 : 0 ≤ d ∧ d < 4294967296 := by omega
  obtain ⟨Y, hY⟩ : ∃ Y, (a * b + d) % 4294967296 = Y := ⟨_, rfl⟩
  obtain ⟨X, hX⟩ : ∃ X, (prodS a b sh + c) % 18446744073709551616 = X := ⟨_, rfl⟩
  obtain ⟨f1, f2, hf⟩ : ∃ f1 f2, fl4 Y fc v = ⟨f1, f2, fc, v⟩ := ⟨_, _, rfl⟩
  obtain ⟨g1, g2, hg⟩ : ∃ g1 g2, fl8 X fc v = ⟨g1, g2, fc, v⟩ := ⟨_, _, rfl⟩
  have R1 := Lib.hid (fun w => by have := mul_any a b d Y n z fc v w a0 a2 b0 b2 d0.1 d0.2 hY; rw [hf] at this; exact this)
  have R2 := Lib.hid (fun w => by have := rmul_any a b d Y n z fc v w a0 a2 b0 b2 d0.1 d0.2 hY; rw [hf] at this; exact this)
  have R3 := Lib.hid (fun w => by have := mull_any a b c X sh n z fc v w a0 a2 b0 b2 hX; rw [hg] at this; exact this)
  have R4 := Lib.hid (fun w => by have := rmull_any a b c X sh n z fc v w a0 a2 b0 b2 hX; rw [hg] at this; exact this)
  obtain ⟨kk, hk⟩ : ∃ kk, cycS b sh = kk := ⟨_, rfl⟩
  have HK1 := Lib.hid (fun w => (cyc_any b sh w b0 b2).mono (fun e w' h => (⟨by rw [← hk]; exact h.1, h.2.symm⟩ : e = .returned (.int .i64 kk) ∧ w' = w)))
  have HK2 := Lib.hid (fun w => (rcyc_any b sh w b0 b2).mono (fun e w' h => (⟨by rw [← hk]; exact h.1, h.2.symm⟩ : e = .returned (.int .i64 kk) ∧ w' = w)))
  clear hY hX hf hg hk d0
  go_enter Try.func7, Try.ntmps7
  go_wp2_with fail
  refine (awake_any _).mono ?_
  rintro e w1 ⟨rfl, hb1⟩
  have A0_1 := keep hb1 (alloc_new _ _)
  have cA0_1 := cellsAt A0_1
  have sA0_1 := sizeAt A0_1
  go_wp2_with fail
  refine (R1.out _).mono ?_
  rintro e w2 ⟨rfl, hb2⟩
  have A0_2 := keep hb2 A0_1
  have cA0_2 := cellsAt A0_2
  have sA0_2 := sizeAt A0_2
  go_wp2_with fail
  refine (R2.out _).mono ?_
  rintro e w3 ⟨rfl, hb3⟩
  have A0_3 := keep hb3 (alloc_old _ A0_2)
  have cA0_3 := cellsAt A0_3
  have sA0_3 := sizeAt A0_3
  have A1_3 := keep hb3 (alloc_new _ _)
  have cA1_3 := cellsAt A1_3
  have sA1_3 := sizeAt A1_3
  go_wp2_with fail
  refine (R3.out _).mono ?_
  rintro e w4 ⟨rfl, hb4⟩
  have A0_4 := keep hb4 (alloc_old _ A0_3)
  have cA0_4 := cellsAt A0_4
  have sA0_4 := sizeAt A0_4
  have A1_4 := keep hb4 (alloc_old _ A1_3)
  have cA1_4 := cellsAt A1_4
  have sA1_4 := sizeAt A1_4
  have A2_4 := keep hb4 (alloc_new _ _)
  have cA2_4 := cellsAt A2_4
  have sA2_4 := sizeAt A2_4
  go_wp2_with fail
  refine (R4.out _).mono ?_
  rintro e w5 ⟨rfl, hb5⟩
  have A0_5 := keep hb5 (alloc_old _ A0_4)
  have cA0_5 := cellsAt A0_5
  have sA0_5 := sizeAt A0_5
  have A1_5 := keep hb5 (alloc_old _ A1_4)
  have cA1_5 := cellsAt A1_5
  have sA1_5 := sizeAt A1_5
  have A2_5 := keep hb5 (alloc_old _ A2_4)
  have cA2_5 := cellsAt A2_5
  have sA2_5 := sizeAt A2_5
  have A3_5 := keep hb5 (alloc_new _ _)
  have cA3_5 := cellsAt A3_5
  have sA3_5 := sizeAt A3_5
  go_wp2_with fail
  go_quiet ((first | (go_at_call 20; exact Calls.quiet_of_same (HK1.out _)) | (go_at_call 21; exact Calls.quiet_of_same (HK2.out _))))
  go_wp2
  go_ret
  refine ⟨rfl, ?_⟩
  refine below_dn (Below.alloc (below_then (Below.alloc (below_then (Below.alloc (below_then (Below.alloc (below_then (below_then (Below.alloc (Below.refl _ _) (Nat.le_refl _) _) hb1 ?_) hb2 ?_) ?_ _) hb3 ?_) ?_ _) hb4 ?_) ?_ _) hb5 ?_) ?_ _) _
  all_goals
    have s1 := hb1.size
    have s2 := hb2.size
    have s3 := hb3.size
    have s4 := hb4.size
    have s5 := hb5.size
    simp at s1 s2 s3 s4 s5 ⊢
    try omega
set_option maxHeartbeats 2000000 in
set_option maxRecDepth 100000 in
theorem signs_law (a b c : Int) (ha : (Lit.int .u32 a).wf = true) (hb : (Lit.int .u32 b).wf = true) (_ : (Lit.int .u64 c).wf = true) (w : World) :
    Calls Try.prog 5 #[.int .u32 a, .int .u32 b, .int .u64 c] w fun e w' => e = .returned (.bool true) ∧ Below w.heap.size w w' := by
  obtain ⟨a0, a1⟩ := bounds_u32 ha
  obtain ⟨b0, b1⟩ := bounds_u32 hb
  have a2 : a < 4294967296 := by omega
  have b2 : b < 4294967296 := by omega
  clear ha hb
  obtain ⟨X, hX⟩ : ∃ X, (prodS a b true + 0) % 18446744073709551616 = X := ⟨_, rfl⟩
  obtain ⟨Y, hY⟩ : ∃ X, (prodS a b false + 0) % 18446744073709551616 = X := ⟨_, rfl⟩
  obtain ⟨Z, hZ⟩ : ∃ X, (a * b + 0) % 4294967296 = X := ⟨_, rfl⟩
  obtain ⟨V, hV⟩ : ∃ X, (prodS a b false + c) % 18446744073709551616 = X := ⟨_, rfl⟩
  have x0 : 0 ≤ X ∧ X < 18446744073709551616 := by omega
  have E5 : fl8 X false false = ⟨decide (wrap64 X < 0), X == 0, false, false⟩ := by
    have h1 : decide (9223372036854775808 ≤ X) = decide (wrap64 X < 0) := by simp only [decide_eq_decide]; unfold wrap64; omega
    unfold fl8; rw [h1, beq_eq_decide]
  have R1 := Lib.hid (fun w => by have := mull_any a b 0 X true false false false false w a0 a2 b0 b2 hX; rw [E5] at this; exact this)
  have R2 := Lib.hid (fun w => mull_any a b 0 Y false false false false false w a0 a2 b0 b2 hY)
  have R3 := Lib.hid (fun w => mul_any a b 0 Z false false false false w a0 a2 b0 b2 (by decide) (by decide) hZ)
  have R4 := Lib.hid (fun w => mull_any a b c V false false false false false w a0 a2 b0 b2 hV)
  have E1 : wrap64 (wrap64 (wrap32 a) * wrap64 (wrap32 b)) = wrap64 X := by
    rw [wrap32_sg a0 a2, wrap32_sg b0 b2, ← hX]; simp only [prodS, if_true]; generalize sg a * sg b = p; unfold wrap64; omega
  have E2 : IntKind.u64.wrap (a * b) = Y := by rw [wrap_u64, ← hY]; simp [prodS]
  have hm : (sg a * sg b - a * b) % 4294967296 = 0 := sg_mod a b
  have E3 : X % 4294967296 = Z := by rw [← hX, ← hZ]; simp only [prodS, if_true]; generalize sg a * sg b = p at *; generalize a * b = q at *; omega
  have E4 : Y % 4294967296 = Z := by rw [← hY, ← hZ]; simp only [prodS, Bool.false_eq_true, if_false]; generalize a * b = q at *; omega
  have E6 : IntKind.u64.wrap (Y + c) = V := by rw [wrap_u64, ← hY, ← hV]; simp only [prodS, Bool.false_eq_true, if_false]; generalize a * b = q at *; omega
  clear hX hY hZ hV hm E5 x0
  go_enter Try.func5, Try.ntmps5
  go_wp2_with fail
  refine (awake_any _).mono ?_
  rintro e w1 ⟨rfl, hb1⟩
  go_wp2_with fail
  refine (R1.out _).mono ?_
  rintro e w2 ⟨rfl, hb2⟩
  go_wp2_with fail
  refine (R2.out _).mono ?_
  rintro e w3 ⟨rfl, hb3⟩
  have A0_3 := keep hb3 (alloc_new _ _)
  have cA0_3 := cellsAt A0_3
  have sA0_3 := sizeAt A0_3
  go_wp2_with fail
  refine (R3.out _).mono ?_
  rintro e w4 ⟨rfl, hb4⟩
  have A0_4 := keep hb4 (alloc_old _ A0_3)
  have cA0_4 := cellsAt A0_4
  have sA0_4 := sizeAt A0_4
  have A1_4 := keep hb4 (alloc_new _ _)
  have cA1_4 := cellsAt A1_4
  have sA1_4 := sizeAt A1_4
  go_wp2_with fail
  refine (R4.out _).mono ?_
  rintro e w5 ⟨rfl, hb5⟩
  have A0_5 := keep hb5 (alloc_old _ A0_4)
  have cA0_5 := cellsAt A0_5
  have sA0_5 := sizeAt A0_5
  have A1_5 := keep hb5 (alloc_old _ A1_4)
  have cA1_5 := cellsAt A1_5
  have sA1_5 := sizeAt A1_5
  have A2_5 := keep hb5 (alloc_new _ _)
  have cA2_5 := cellsAt A2_5
  have sA2_5 := sizeAt A2_5
  go_wp2
  go_ret
  refine ⟨rfl, ?_⟩
  refine (Below.alloc (below_then (Below.alloc (below_then (Below.alloc (below_then (Below.alloc (below_then (below_then (Below.refl _ _) hb1 ?_) hb2 ?_) ?_ _) hb3 ?_) ?_ _) hb4 ?_) ?_ _) hb5 ?_) ?_ _)
  all_goals
    have s1 := hb1.size
    have s2 := hb2.size
    have s3 := hb3.size
    have s4 := hb4.size
    have s5 := hb5.size
    simp at s1 s2 s3 s4 s5 ⊢
    try omega
end Go.Proofs.Ytgpcgamhlcihkaa.Aw
