/- The laws of package alu, walked: the operations. -/
import Derived.Test.YtgpcgamhlcihkaaAr
import Derived.Test.YtgpcgamhlcihkaaWk
import Derived.Laws.StructEq
namespace Go.Proofs.Ytgpcgamhlcihkaa.Aw
set_option linter.unusedVariables false
set_option linter.unusedSimpArgs false
open Go.RowKit Go.Proofs.Ytgpcgamhlcihkaa.Bt Go.Proofs.Ytgpcgamhlcihkaa.Am
open Go.Proofs.Ytgpcgamhlcihkaa.Wk (alloc_new alloc_old keep sizeAt cellsAt freeAt below_then)

theorem do_at (code a b : Int) (n z c v sh : Bool) (w : World) (a0 : 0 ≤ a) (a1 : a < 4294967296) (b0 : 0 ≤ b) (b1 : b < 4294967296) (k Y : Int) (hk : code % 16 = k) (n' z' c' v' : Bool) (h : doS k a b c v sh = (Y, ⟨n', z', c', v'⟩)) :
    Calls Try.prog 10 #[.int .i64 code, .int .u32 a, .int .u32 b, .agg #[.bool n, .bool z, .bool c, .bool v], .bool sh] w fun e w' => e = .returned (.tuple #[.int .u32 Y, .agg #[.bool n', .bool z', .bool c', .bool v']]) ∧ Below w.heap.size w w' := by
  have := do_any code a b n z c v sh w a0 a1 b0 b1
  rw [hk, h] at this
  exact this
theorem rdo_at (code a b : Int) (n z c v sh : Bool) (w : World) (a0 : 0 ≤ a) (a1 : a < 4294967296) (b0 : 0 ≤ b) (b1 : b < 4294967296) (k Y : Int) (hk : code % 16 = k) (n' z' c' v' : Bool) (h : doS k a b c v sh = (Y, ⟨n', z', c', v'⟩)) :
    Calls Try.prog 11 #[.int .i64 code, .int .u32 a, .int .u32 b, .agg #[.bool n, .bool z, .bool c, .bool v], .bool sh] w fun e w' => e = .returned (.tuple #[.int .u32 Y, .agg #[.bool n', .bool z', .bool c', .bool v']]) ∧ Below w.heap.size w w' := by
  have := rdo_any code a b n z c v sh w a0 a1 b0 b1
  rw [hk, h] at this
  exact this
theorem and12 (a : Int) : Go.bits .and .i64 a 12 = a % 16 / 4 * 4 := by
  have e : (12 : Int) = ((12 : Nat) : Int) := rfl
  simp only [Go.bits, BitVec.toNat_and]
  rw [e, ofInt_toNat IntKind.i64.bits 12 (by simp only [IntKind.bits]; decide), land_split 2]
  have h1 : ((BitVec.ofInt IntKind.i64.bits a).toNat / 2 ^ 2) &&& (12 / 2 ^ 2) = (BitVec.ofInt IntKind.i64.bits a).toNat / 4 % 4 := by
    rw [show 12 / 2 ^ 2 = 2 ^ 2 - 1 from rfl, Nat.and_two_pow_sub_one_eq_mod]
  have h2 : ((BitVec.ofInt IntKind.i64.bits a).toNat % 2 ^ 2) &&& (12 % 2 ^ 2) = 0 := by simp
  rw [h1, h2]
  have h3 : (((BitVec.ofInt IntKind.i64.bits a).toNat : Nat) : Int) = a % 18446744073709551616 := by
    rw [BitVec.toNat_ofInt]
    have : (0 : Int) ≤ a % ((2 ^ IntKind.i64.bits : Nat) : Int) := Int.emod_nonneg _ (by simp [IntKind.bits])
    rw [Int.toNat_of_nonneg this]
    rfl
  rw [IntKind.wrap_i64]
  omega
set_option maxHeartbeats 1000000 in
theorem keeps_any (code : Int) (w : World) : Calls Try.prog 12 #[.int .i64 code] w fun e w' => e = .returned (.bool (decide (8 ≤ code % 16 ∧ code % 16 < 12))) ∧ w = w' := by
  have H := Lib.hid (and12 code)
  go_enter Try.func12, Try.ntmps12
  go_wp2
  go_ret
  refine ⟨ret_b ?_, rfl⟩
  rw [H.out, beq_eq_decide]
  simp only [decide_eq_decide]
  omega
set_option maxHeartbeats 1000000 in
theorem rkeeps_any (code : Int) (w : World) : Calls Try.prog 13 #[.int .i64 code] w fun e w' => e = .returned (.bool (decide (8 ≤ code % 16 ∧ code % 16 < 12))) ∧ w = w' := by
  have e1 := and15 code
  have b : 0 ≤ code % 16 ∧ code % 16 < 16 := by omega
  obtain ⟨b0, b1⟩ := b
  generalize code % 16 = k at *
  by_cases c : 8 ≤ k
  · go_enter Try.func13, Try.ntmps13
    go_wp2
    go_ret
    exact ⟨ret_b (by simp [c] <;> omega), rfl⟩
  · go_enter Try.func13, Try.ntmps13
    go_wp2
    go_ret
    exact ⟨ret_b (by simp <;> omega), rfl⟩
set_option maxHeartbeats 1000000 in
theorem awake_any (w : World) : Calls Try.prog 9 #[] w fun e w' => e = .returned (.bool true) ∧ Below w.heap.size w w' := by
  have R1 := Lib.hid (fun w => do_at 2 1 1 false false false false false w (by decide) (by decide) (by decide) (by decide) 2 0 (by decide) false true true false (by rfl))
  have R2 := Lib.hid (fun w => do_at 4 2147483647 1 false false false false false w (by decide) (by decide) (by decide) (by decide) 4 2147483648 (by decide) true false false true (by rfl))
  go_enter Try.func9, Try.ntmps9
  go_wp2_with fail
  refine (R1.out _).mono ?_
  rintro e w1 ⟨rfl, hb1⟩
  go_wp2_with fail
  refine (R2.out _).mono ?_
  rintro e w2 ⟨rfl, hb2⟩
  have B1 := keep hb2 (alloc_new _ _)
  have C1 := cellsAt B1
  have S1 := sizeAt B1
  go_wp2
  go_ret
  refine ⟨rfl, ?_⟩
  exact (below_then (hb1.alloc hb1.size _) hb2 (by have := hb1.size; simp; omega)).alloc (by have := hb1.size; omega) _
set_option maxHeartbeats 1000000 in
theorem does_law (code a b : Int) (n z c v sh : Bool) (_ : (Lit.int .i64 code).wf = true) (ha : (Lit.int .u32 a).wf = true) (hb : (Lit.int .u32 b).wf = true) (w : World) :
    Calls Try.prog 4 #[.agg #[.int .i64 code, .int .u32 a, .int .u32 b, .bool n, .bool z, .bool c, .bool v, .bool sh]] w fun e w' => e = .returned (.bool true) ∧ Below w.heap.size w w' := by
  obtain ⟨a0, a1⟩ := bounds_u32 ha
  obtain ⟨b0, b1⟩ := bounds_u32 hb
  clear ha hb
  obtain ⟨Y, n', z', c', v', h⟩ : ∃ Y n' z' c' v', doS (code % 16) a b c v sh = (Y, ⟨n', z', c', v'⟩) := ⟨_, _, _, _, _, rfl⟩
  have R1 := Lib.hid (fun w => do_at code a b n z c v sh w a0 (by omega) b0 (by omega) (code % 16) Y rfl n' z' c' v' h)
  have R2 := Lib.hid (fun w => rdo_at code a b n z c v sh w a0 (by omega) b0 (by omega) (code % 16) Y rfl n' z' c' v' h)
  clear h
  go_enter Try.func4, Try.ntmps4
  go_wp2_with fail
  refine (awake_any _).mono ?_
  rintro e w1 ⟨rfl, hb1⟩
  have A1 := keep hb1 (alloc_new _ _)
  have C1 := cellsAt A1
  have S1 := sizeAt A1
  go_wp2_with fail
  refine (R1.out _).mono ?_
  rintro e w2 ⟨rfl, hb2⟩
  have A2 := keep hb2 A1
  have C2 := cellsAt A2
  have S2 := sizeAt A2
  go_wp2_with fail
  refine (R2.out _).mono ?_
  rintro e w3 ⟨rfl, hb3⟩
  have A3 := keep hb3 (alloc_old _ A2)
  have C3 := cellsAt A3
  have S3 := sizeAt A3
  have B3 := keep hb3 (alloc_new _ _)
  have D3 := cellsAt B3
  have T3 := sizeAt B3
  have K1 := fun w => (keeps_any code w).mono (fun e w' h => (⟨h.1, h.2.symm⟩ : e = _ ∧ w' = w))
  have K2 := fun w => (rkeeps_any code w).mono (fun e w' h => (⟨h.1, h.2.symm⟩ : e = _ ∧ w' = w))
  have HK1 := Lib.hid K1
  have HK2 := Lib.hid K2
  clear K1 K2
  generalize decide (8 ≤ code % 16 ∧ code % 16 < 12) = kk at *
  go_wp2_with fail
  go_quiet ((first | (go_at_call 12; exact Calls.quiet_of_same (HK1.out _)) | (go_at_call 13; exact Calls.quiet_of_same (HK2.out _))))
  go_wp2
  go_ret
  refine ⟨rfl, ?_⟩
  refine below_dn (Below.alloc (below_then (Below.alloc (below_then (below_then (Below.alloc (Below.refl _ _) (Nat.le_refl _) _) hb1 ?_) hb2 ?_) ?_ _) hb3 ?_) ?_ _) _
  all_goals
    have s1 := hb1.size
    have s2 := hb2.size
    have s3 := hb3.size
    simp at s1 s2 s3 ⊢
    try omega
set_option maxHeartbeats 1000000 in
set_option maxRecDepth 100000 in
theorem chains_law (a b : Int) (ha : (Lit.int .u64 a).wf = true) (hb : (Lit.int .u64 b).wf = true) (w : World) :
    Calls Try.prog 3 #[.int .u64 a, .int .u64 b] w fun e w' => e = .returned (.bool true) ∧ Below w.heap.size w w' := by
  obtain ⟨a0, a1⟩ := bounds_u64 ha
  obtain ⟨b0, b1⟩ := bounds_u64 hb
  clear ha hb
  obtain ⟨al, hal⟩ : ∃ al, a % 4294967296 = al := ⟨_, rfl⟩
  obtain ⟨ah, hah⟩ : ∃ al, a / 4294967296 = al := ⟨_, rfl⟩
  obtain ⟨bl, hbl⟩ : ∃ al, b % 4294967296 = al := ⟨_, rfl⟩
  obtain ⟨bh, hbh⟩ : ∃ al, b / 4294967296 = al := ⟨_, rfl⟩
  have al0 : 0 ≤ al ∧ al < 4294967296 := by omega
  have ah0 : 0 ≤ ah ∧ ah < 4294967296 := by omega
  have bl0 : 0 ≤ bl ∧ bl < 4294967296 := by omega
  have bh0 : 0 ≤ bh ∧ bh < 4294967296 := by omega
  obtain ⟨L, fn, fz, fc, fv, h1⟩ : ∃ Y n' z' c' v', doS 4 al bl false false false = (Y, ⟨n', z', c', v'⟩) := ⟨_, _, _, _, _, rfl⟩
  obtain ⟨H, gn, gz, gc, gv, h2⟩ : ∃ Y n' z' c' v', doS 5 ah bh fc fv false = (Y, ⟨n', z', c', v'⟩) := ⟨_, _, _, _, _, rfl⟩
  obtain ⟨D, hn, hz, hc, hv, h3⟩ : ∃ Y n' z' c' v', doS 2 al bl false false false = (Y, ⟨n', z', c', v'⟩) := ⟨_, _, _, _, _, rfl⟩
  obtain ⟨U, iN, iz, ic, iv, h4⟩ : ∃ Y n' z' c' v', doS 6 ah bh hc hv false = (Y, ⟨n', z', c', v'⟩) := ⟨_, _, _, _, _, rfl⟩
  have R1 := Lib.hid (fun w => do_at 4 al bl false false false false false w al0.1 al0.2 bl0.1 bl0.2 4 L (by decide) fn fz fc fv h1)
  have R2 := Lib.hid (fun w => do_at 5 ah bh fn fz fc fv false w ah0.1 ah0.2 bh0.1 bh0.2 5 H (by decide) gn gz gc gv h2)
  have R3 := Lib.hid (fun w => do_at 2 al bl false false false false false w al0.1 al0.2 bl0.1 bl0.2 2 D (by decide) hn hz hc hv h3)
  have R4 := Lib.hid (fun w => do_at 6 ah bh hn hz hc hv false w ah0.1 ah0.2 bh0.1 bh0.2 6 U (by decide) iN iz ic iv h4)
  have q1 : L = (al + bl) % 4294967296 := by have := congrArg Prod.fst h1; simp [doS, sumN] at this; omega
  have q2 : fc = decide (4294967296 ≤ al + bl) := by have := congrArg (fun p => p.2.c) h1; simp [doS, sumN, fl4] at this; exact this.symm
  have q3 : H = (ah + bh + (if fc then 1 else 0)) % 4294967296 := by have := congrArg Prod.fst h2; simp [doS, sumN] at this; omega
  have q4 : gc = decide (4294967296 ≤ ah + bh + (if fc then 1 else 0)) := by have := congrArg (fun p => p.2.c) h2; simp [doS, sumN, fl4] at this; exact this.symm
  have q5 : D = (al - bl) % 4294967296 := by have := congrArg Prod.fst h3; simp [doS, sumN] at this; omega
  have q6 : hc = decide (0 ≤ al - bl) := by have := congrArg (fun p => p.2.c) h3; simp [doS, sumN, fl4] at this; rw [← this]; simp only [decide_eq_decide]; omega
  have q7 : U = (ah - bh - 1 + (if hc then 1 else 0)) % 4294967296 := by have := congrArg Prod.fst h4; simp [doS, sumN] at this; omega
  have q8 : ic = decide (0 ≤ ah - bh - 1 + (if hc then 1 else 0)) := by have := congrArg (fun p => p.2.c) h4; simp [doS, sumN, fl4] at this; exact this.symm
  clear h1 h2 h3 h4
  have bL : 0 ≤ L ∧ L < 4294967296 := by omega
  have bH : 0 ≤ H ∧ H < 4294967296 := by omega
  have bD : 0 ≤ D ∧ D < 4294967296 := by omega
  have bU : 0 ≤ U ∧ U < 4294967296 := by omega
  have join : ∀ x y : Int, 0 ≤ x → x < 4294967296 → 0 ≤ y → y < 4294967296 → Go.bits .or .u64 (x * 4294967296) y = x * 4294967296 + y := fun x y x0 x1 y0 y1 =>
    bits_join .u64 64 (by decide) (fun n a b => by rw [wrap_u64]; omega) 32 (x * 4294967296) y (by omega) (by omega) (by omega) y0 y1 (by omega)
  have E1 : Go.bits .or .u64 (H * 4294967296) L = IntKind.u64.wrap (a + b) := by
    rw [join H L bH.1 bH.2 bL.1 bL.2, wrap_u64]
    by_cases cc : 4294967296 ≤ al + bl
    · have : fc = true := by rw [q2]; simp [cc]
      rw [this] at q3; simp at q3; omega
    · have : fc = false := by rw [q2]; simp; omega
      rw [this] at q3; simp at q3; omega
  have E2 : gc = decide (IntKind.u64.wrap (a + b) < a) := by
    rw [q4, wrap_u64]
    simp only [decide_eq_decide]
    by_cases cc : 4294967296 ≤ al + bl
    · have : fc = true := by rw [q2]; simp [cc]
      rw [this]; simp; omega
    · have : fc = false := by rw [q2]; simp; omega
      rw [this]; simp; omega
  have E3 : Go.bits .or .u64 (U * 4294967296) D = IntKind.u64.wrap (a - b) := by
    rw [join U D bU.1 bU.2 bD.1 bD.2, wrap_u64]
    by_cases cc : 0 ≤ al - bl
    · have : hc = true := by rw [q6]; simp; omega
      rw [this] at q7; simp at q7; omega
    · have : hc = false := by rw [q6]; simp; omega
      rw [this] at q7; simp at q7; omega
  have E4 : ic = decide (b ≤ a) := by
    rw [q8]
    simp only [decide_eq_decide]
    by_cases cc : 0 ≤ al - bl
    · have : hc = true := by rw [q6]; simp; omega
      rw [this]; simp; omega
    · have : hc = false := by rw [q6]; simp; omega
      rw [this]; simp; omega
  obtain ⟨bL0, bL1⟩ := bL
  obtain ⟨bH0, bH1⟩ := bH
  obtain ⟨bD0, bD1⟩ := bD
  obtain ⟨bU0, bU1⟩ := bU
  clear q1 q2 q3 q4 q5 q6 q7 q8 join al0 ah0 bl0 bh0
  subst E2 E4
  go_enter Try.func3, Try.ntmps3
  go_wp2_with fail
  refine (awake_any _).mono ?_
  rintro e w1 ⟨rfl, hb1⟩
  go_wp2_with fail
  refine (R1.out _).mono ?_
  rintro e w2 ⟨rfl, hb2⟩
  go_wp2_with fail
  refine (R2.out _).mono ?_
  rintro e w3 ⟨rfl, hb3⟩
  have A3 := keep hb3 (alloc_new _ _)
  have C3 := cellsAt A3
  have S3 := sizeAt A3
  go_wp2_with fail
  refine (R3.out _).mono ?_
  rintro e w4 ⟨rfl, hb4⟩
  have A4 := keep hb4 (alloc_old _ A3)
  have C4 := cellsAt A4
  have S4 := sizeAt A4
  have B4 := keep hb4 (alloc_new _ _)
  have D4 := cellsAt B4
  have T4 := sizeAt B4
  go_wp2_with fail
  refine (R4.out _).mono ?_
  rintro e w5 ⟨rfl, hb5⟩
  have A5 := keep hb5 (alloc_old _ A4)
  have C5 := cellsAt A5
  have S5 := sizeAt A5
  have B5 := keep hb5 (alloc_old _ B4)
  have D5 := cellsAt B5
  have T5 := sizeAt B5
  have E5 := keep hb5 (alloc_new _ _)
  have F5 := cellsAt E5
  have G5 := sizeAt E5
  go_wp2
  go_ret
  refine ⟨rfl, ?_⟩
  refine Below.alloc (below_then (Below.alloc (below_then (Below.alloc (below_then (Below.alloc (below_then hb1 hb2 ?_) ?_ _) hb3 ?_) ?_ _) hb4 ?_) ?_ _) hb5 ?_) ?_ _
  all_goals
    have s1 := hb1.size
    have s2 := hb2.size
    have s3 := hb3.size
    have s4 := hb4.size
    have s5 := hb5.size
    simp at s1 s2 s3 s4 s5 ⊢
    try omega
end Go.Proofs.Ytgpcgamhlcihkaa.Aw
