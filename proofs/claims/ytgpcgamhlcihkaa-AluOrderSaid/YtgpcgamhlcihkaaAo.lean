/- The law on the order, walked. -/
import Derived.Test.YtgpcgamhlcihkaaAh
namespace Go.Proofs.Ytgpcgamhlcihkaa.Aw
set_option linter.unusedVariables false
set_option linter.unusedSimpArgs false
open Go.RowKit Go.Proofs.Ytgpcgamhlcihkaa.Bt Go.Proofs.Ytgpcgamhlcihkaa.Am
open Go.Proofs.Ytgpcgamhlcihkaa.Wk (alloc_new alloc_old keep sizeAt cellsAt freeAt below_then)

theorem wrap32_lt {a b : Int} (a0 : 0 ≤ a) (a1 : a < 4294967296) (b0 : 0 ≤ b) (b1 : b < 4294967296) : (wrap32 b ≤ wrap32 a ↔ sg b ≤ sg a) ∧ (wrap32 b < wrap32 a ↔ sg b < sg a) := by
  unfold wrap32 sg; constructor <;> (repeat' split) <;> omega
set_option maxHeartbeats 4000000 in
set_option maxRecDepth 100000 in
theorem order_law (a b : Int) (n z c v : Bool) (ha : (Lit.int .u32 a).wf = true) (hb : (Lit.int .u32 b).wf = true) (w : World) :
    Calls Try.prog 8 #[.int .u32 a, .int .u32 b, .agg #[.bool n, .bool z, .bool c, .bool v]] w fun e w' => e = .returned (.bool true) ∧ Below w.heap.size w w' := by
  obtain ⟨a0, a1⟩ := bounds_u32 ha
  obtain ⟨b0, b1⟩ := bounds_u32 hb
  have a2 : a < 4294967296 := by omega
  have b2 : b < 4294967296 := by omega
  clear ha hb
  obtain ⟨X, gn, gz, gc, gv, h1⟩ : ∃ Y n' z' c' v', sumN (a - b) (sg a - sg b) false = (Y, ⟨n', z', c', v'⟩) := ⟨_, _, _, _, _, rfl⟩
  obtain ⟨m, hm⟩ : ∃ m, Go.bits .xor .u32 IntKind.u32.max b = m := ⟨_, rfl⟩
  have hm' := not_u32 b0 b2
  rw [hm] at hm'
  have m0 : 0 ≤ m ∧ m < 4294967296 := by omega
  have R1 := Lib.hid (fun w => do_at 10 a b n z c v false w a0 a2 b0 b2 10 X (by decide) gn gz gc gv (by rw [← h1]; simp [doS]))
  have R2 := Lib.hid (fun w => do_at 2 a b n z c v true w a0 a2 b0 b2 2 X (by decide) gn gz gc gv (by rw [← h1]; simp [doS]))
  have R3 := Lib.hid (fun w => do_at 5 a m false false true false false w a0 a2 m0.1 m0.2 5 X (by decide) gn gz gc gv (by
    have := sub_eq a0 a2 b0 b2 1
    rw [← hm'] at this
    rw [← h1, show a - b = a - b - 1 + 1 by omega, show sg a - sg b = sg a - sg b - 1 + 1 by omega, ← this]
    simp [doS]))
  have q1 : X = (a - b) % 4294967296 := by have := congrArg Prod.fst h1; simp [sumN] at this; omega
  have q2 : gn = decide (2147483648 ≤ X) := by have := congrArg (fun p => p.2.n) h1; simp [sumN, fl4] at this; rw [q1]; exact this.symm
  have q3 : gz = decide (X = 0) := by have := congrArg (fun p => p.2.z) h1; simp only [sumN, fl4] at this; rw [q1]; exact this.symm
  have q4 : gc = decide (b ≤ a) := by have := congrArg (fun p => p.2.c) h1; simp [sumN, fl4] at this; exact this.symm
  have q5 : gv = decide (sg a - sg b < -2147483648 ∨ 2147483648 ≤ sg a - sg b) := by have := congrArg (fun p => p.2.v) h1; simp only [sumN, fl4] at this; exact this.symm
  have s1 : sg a = a ∨ sg a = a - 4294967296 := by unfold sg; split <;> omega
  have hsa : -2147483648 ≤ sg a ∧ sg a < 2147483648 := by unfold sg; split <;> omega
  have hsb : -2147483648 ≤ sg b ∧ sg b < 2147483648 := by unfold sg; split <;> omega
  have s2 : sg b = b ∨ sg b = b - 4294967296 := by unfold sg; split <;> omega
  obtain ⟨l1, l2⟩ := wrap32_lt a0 a2 b0 b2
  have nv : (gn == gv) = decide (sg b ≤ sg a) := by
    rw [q2, q5]
    by_cases x1 : 2147483648 ≤ X <;> by_cases x2 : (sg a - sg b < -2147483648 ∨ 2147483648 ≤ sg a - sg b) <;> by_cases x3 : sg b ≤ sg a <;> simp [x1, x2, x3] <;> omega
  have K0 : holdsS 0 gn gz gc gv = (a == b) := by
    simp only [holdsS, base]; rw [q3, beq_eq_decide]; simp; omega
  have K2 : holdsS 2 gn gz gc gv = decide (b ≤ a) := by simp only [holdsS, base]; rw [q4]; simp
  have K8 : holdsS 8 gn gz gc gv = decide (b < a) := by
    simp only [holdsS, base]; rw [q4, q3]
    by_cases x1 : X = 0 <;> by_cases x2 : b ≤ a <;> by_cases x3 : b < a <;> simp [x1, x2, x3] <;> omega
  have K10 : holdsS 10 gn gz gc gv = decide (wrap32 b ≤ wrap32 a) := by
    have : holdsS 10 gn gz gc gv = (gn == gv) := by simp [holdsS, base]
    rw [this, nv]; simp only [decide_eq_decide]; exact l1.symm
  have K12 : holdsS 12 gn gz gc gv = decide (wrap32 b < wrap32 a) := by
    have : holdsS 12 gn gz gc gv = (!gz && (gn == gv)) := by simp [holdsS, base]
    rw [this, nv, q3]
    by_cases x1 : X = 0 <;> by_cases x2 : sg b ≤ sg a <;> by_cases x3 : wrap32 b < wrap32 a <;> simp [x1, x2, x3] <;> omega
  have H0 := Lib.hid (fun w => by have := holds_any 0 gn gz gc gv w; rw [show (0 : Int) % 16 = 0 by decide, K0] at this; exact this)
  have H2 := Lib.hid (fun w => by have := holds_any 2 gn gz gc gv w; rw [show (2 : Int) % 16 = 2 by decide, K2] at this; exact this)
  have H8 := Lib.hid (fun w => by have := holds_any 8 gn gz gc gv w; rw [show (8 : Int) % 16 = 8 by decide, K8] at this; exact this)
  have H10 := Lib.hid (fun w => by have := holds_any 10 gn gz gc gv w; rw [show (10 : Int) % 16 = 10 by decide, K10] at this; exact this)
  have H12 := Lib.hid (fun w => by have := holds_any 12 gn gz gc gv w; rw [show (12 : Int) % 16 = 12 by decide, K12] at this; exact this)
  have E1 : (a - b) % 4294967296 = X := q1.symm
  clear K0 K2 K8 K10 K12 q1 q2 q3 q4 q5 nv h1 s1 s2 hsa hsb l1 l2 m0 hm'
  go_enter Try.func8, Try.ntmps8
  go_wp2_with fail
  refine (awake_any _).mono ?_
  rintro e w1 ⟨rfl, hb1⟩
  have A0_1 := keep hb1 (alloc_new _ _)
  have cA0_1 := cellsAt A0_1
  have sA0_1 := sizeAt A0_1
  go_wp2_with fail
  refine (R1.out _).mono ?_
  rintro e w2 ⟨rfl, hb2⟩
  have A0_2 := keep hb2 A0_1
  have cA0_2 := cellsAt A0_2
  have sA0_2 := sizeAt A0_2
  go_wp2_with fail
  refine (R2.out _).mono ?_
  rintro e w3 ⟨rfl, hb3⟩
  have A0_3 := keep hb3 (alloc_old _ A0_2)
  have cA0_3 := cellsAt A0_3
  have sA0_3 := sizeAt A0_3
  have A1_3 := keep hb3 (alloc_new _ _)
  have cA1_3 := cellsAt A1_3
  have sA1_3 := sizeAt A1_3
  go_wp2_with fail
  refine (R3.out _).mono ?_
  rintro e w4 ⟨rfl, hb4⟩
  have A0_4 := keep hb4 (alloc_old _ A0_3)
  have cA0_4 := cellsAt A0_4
  have sA0_4 := sizeAt A0_4
  have A1_4 := keep hb4 (alloc_old _ A1_3)
  have cA1_4 := cellsAt A1_4
  have sA1_4 := sizeAt A1_4
  have A2_4 := keep hb4 (alloc_new _ _)
  have cA2_4 := cellsAt A2_4
  have sA2_4 := sizeAt A2_4
  go_wp2_with fail
  refine (H0.out _).mono ?_
  rintro e w5 ⟨rfl, hb5⟩
  have A0_5 := keep hb5 (alloc_old _ A0_4)
  have cA0_5 := cellsAt A0_5
  have sA0_5 := sizeAt A0_5
  have A1_5 := keep hb5 (alloc_old _ A1_4)
  have cA1_5 := cellsAt A1_5
  have sA1_5 := sizeAt A1_5
  have A2_5 := keep hb5 (alloc_old _ A2_4)
  have cA2_5 := cellsAt A2_5
  have sA2_5 := sizeAt A2_5
  have A3_5 := keep hb5 (alloc_new _ _)
  have cA3_5 := cellsAt A3_5
  have sA3_5 := sizeAt A3_5
  go_wp2_with fail
  refine (H2.out _).mono ?_
  rintro e w6 ⟨rfl, hb6⟩
  have A0_6 := keep hb6 A0_5
  have cA0_6 := cellsAt A0_6
  have sA0_6 := sizeAt A0_6
  have A1_6 := keep hb6 A1_5
  have cA1_6 := cellsAt A1_6
  have sA1_6 := sizeAt A1_6
  have A2_6 := keep hb6 A2_5
  have cA2_6 := cellsAt A2_6
  have sA2_6 := sizeAt A2_6
  have A3_6 := keep hb6 A3_5
  have cA3_6 := cellsAt A3_6
  have sA3_6 := sizeAt A3_6
  go_wp2_with fail
  refine (H8.out _).mono ?_
  rintro e w7 ⟨rfl, hb7⟩
  have A0_7 := keep hb7 A0_6
  have cA0_7 := cellsAt A0_7
  have sA0_7 := sizeAt A0_7
  have A1_7 := keep hb7 A1_6
  have cA1_7 := cellsAt A1_7
  have sA1_7 := sizeAt A1_7
  have A2_7 := keep hb7 A2_6
  have cA2_7 := cellsAt A2_7
  have sA2_7 := sizeAt A2_7
  have A3_7 := keep hb7 A3_6
  have cA3_7 := cellsAt A3_7
  have sA3_7 := sizeAt A3_7
  go_wp2_with fail
  refine (H10.out _).mono ?_
  rintro e w8 ⟨rfl, hb8⟩
  have A0_8 := keep hb8 A0_7
  have cA0_8 := cellsAt A0_8
  have sA0_8 := sizeAt A0_8
  have A1_8 := keep hb8 A1_7
  have cA1_8 := cellsAt A1_8
  have sA1_8 := sizeAt A1_8
  have A2_8 := keep hb8 A2_7
  have cA2_8 := cellsAt A2_8
  have sA2_8 := sizeAt A2_8
  have A3_8 := keep hb8 A3_7
  have cA3_8 := cellsAt A3_8
  have sA3_8 := sizeAt A3_8
  go_wp2_with fail
  refine (H12.out _).mono ?_
  rintro e w9 ⟨rfl, hb9⟩
  have A0_9 := keep hb9 A0_8
  have cA0_9 := cellsAt A0_9
  have sA0_9 := sizeAt A0_9
  have A1_9 := keep hb9 A1_8
  have cA1_9 := cellsAt A1_9
  have sA1_9 := sizeAt A1_9
  have A2_9 := keep hb9 A2_8
  have cA2_9 := cellsAt A2_9
  have sA2_9 := sizeAt A2_9
  have A3_9 := keep hb9 A3_8
  have cA3_9 := cellsAt A3_9
  have sA3_9 := sizeAt A3_9
  go_wp2
  go_ret
  refine ⟨rfl, ?_⟩
  refine (below_then (below_then (below_then (below_then (below_then (Below.alloc (below_then (Below.alloc (below_then (Below.alloc (below_then (below_then (Below.alloc (Below.refl _ _) (Nat.le_refl _) _) hb1 ?_) hb2 ?_) ?_ _) hb3 ?_) ?_ _) hb4 ?_) ?_ _) hb5 ?_) hb6 ?_) hb7 ?_) hb8 ?_) hb9 ?_)
  all_goals
    have s1 := hb1.size
    have s2 := hb2.size
    have s3 := hb3.size
    have s4 := hb4.size
    have s5 := hb5.size
    have s6 := hb6.size
    have s7 := hb7.size
    have s8 := hb8.size
    have s9 := hb9.size
    simp at s1 s2 s3 s4 s5 s6 s7 s8 s9 ⊢
    try omega
end Go.Proofs.Ytgpcgamhlcihkaa.Aw
