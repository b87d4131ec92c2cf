/- ArmConds, walked. -/
import Derived.Test.YtlpjadpjjcpfgaaRl
import Derived.Deep.DeepCutAuto
namespace Go.Proofs.Ytlpjadpjjcpfgaa.Ro
set_option linter.unusedVariables false
set_option linter.unusedSimpArgs false
open Go.RowKit Go.Proofs.Ytlpjadpjjcpfgaa.Bt Go.Proofs.Ytlpjadpjjcpfgaa.Wk Go.Proofs.Ytlpjadpjjcpfgaa.Ra Go.Proofs.Ytlpjadpjjcpfgaa.Rp Go.Proofs.Ytlpjadpjjcpfgaa.Rg Go.Proofs.Ytlpjadpjjcpfgaa.Rb Go.Proofs.Ytlpjadpjjcpfgaa.Rf Go.Proofs.Ytlpjadpjjcpfgaa.Rl

theorem or_sum (k : Nat) (a b : Int) (p : Int) (hp : ((2 ^ k : Nat) : Int) = p) (a0 : 0 ≤ a) (a1 : a < p) (b0 : 0 ≤ b) (b1 : b % p = 0) (h : a + b < 4294967296) : Go.bits .or .u32 a b = a + b := by
  obtain ⟨n, rfl⟩ := Int.eq_ofNat_of_zero_le a0
  obtain ⟨m, rfl⟩ := Int.eq_ofNat_of_zero_le b0
  rw [or_nat .u32 ws_u32 n m (by simp [IntKind.bits]; omega) (by simp [IntKind.bits]; omega), lor_add]
  · simp
  · subst hp
    have e : m % 2 ^ k = 0 := by exact_mod_cast b1
    have l : n < 2 ^ k := by exact_mod_cast a1
    have s := land_split k n m
    rw [e, Nat.div_eq_of_lt l, Nat.and_zero, Nat.zero_and, Nat.mul_zero] at s
    exact s
set_option maxRecDepth 100000 in
set_option maxHeartbeats 8000000 in
theorem conds_law (x cd : Int) (hx : (Lit.int .u32 x).wf = true) (hc : (Lit.int .i64 cd).wf = true) (w : World) :
    Calls Try.prog 4 #[.int .u32 x, .int .i64 cd] w fun e w' => e = .returned (.bool true) ∧ Below w.heap.size w w' := by
  obtain ⟨x0, x1⟩ := bounds_u32 hx
  have x1 : x < 4294967296 := by omega
  clear hx hc
  have g1 : Go.bits .and .i64 cd 15 = cd % 16 := by have := and_mask_i64 cd 4 (by decide); simpa using this
  have c0 : 0 ≤ cd % 16 := by omega
  have c1 : cd % 16 < 16 := by omega
  generalize cd % 16 = c at *
  have g2 : Go.bits .and .u32 x 268435455 = x % 268435456 := bits_m x0 x1 28 (by decide) _ (by decide) _ (by decide)
  have D1 := fun w => decode_any x x0 x1 w
  have y0 : 0 ≤ x % 268435456 + c * 268435456 := by omega
  have y1 : x % 268435456 + c * 268435456 < 4294967296 := by omega
  have D2 := fun w => decode_any (x % 268435456 + c * 268435456) y0 y1 w
  rw [dec_cond x c x0 x1 c0 c1] at D2
  have g3 : Go.bits .or .u32 (x % 268435456) (c * 268435456) = x % 268435456 + c * 268435456 := or_sum 28 _ _ 268435456 (by decide) (by omega) (by omega) (by omega) (by omega) (by omega)
  have EQ := fun w => same24 (setC (decP x) c) w
  generalize decP x = h at *
  simp only [setC] at D2 EQ
  have z0 : 0 ≤ x % 268435456 := by omega
  have z1 : x % 268435456 < 268435456 := by omega
  have z2 : c * 268435456 < 4294967296 := by omega
  generalize x % 268435456 = r at *
  have D1H := Lib.hid D1
  have D2H := Lib.hid D2
  clear D1 D2
  go_enter Try.func4, Try.ntmps4
  go_wp2_with fail
  refine (awake_any _).mono ?_
  rintro e w0 ⟨rfl, hb0⟩
  go_wp2_with fail
  refine (D1H.out _).mono ?_
  rintro e w1 ⟨rfl, hb1⟩
  have hb := below_then hb0 hb1 hb0.size
  clear hb0 hb1
  go_wp2_with fail
  refine (D2H.out _).mono ?_
  rintro e w2 ⟨rfl, hb2⟩
  have hb' := below_then hb hb2 hb.size
  clear hb hb2
  have hbH := Lib.hid hb'
  clear hb'
  have H1 : ((w2.alloc (.cells #[.int .i64 0, .int .i64 0, .int .i64 0, .bool false, .int .i64 0, .int .i64 0, .int .i64 0, .int .i64 0, .int .u32 0, .bool false, .int .i64 0, .int .i64 0, .bool false, .bool false, .bool false, .bool false, .bool false, .bool false, .bool false, .bool false, .int .i64 0, .bool false, .bool false, .bool false] 25)).alloc (.cells #[.int .i64 0, .int .i64 0, .int .i64 0, .bool false, .int .i64 0, .int .i64 0, .int .i64 0, .int .i64 0, .int .u32 0, .bool false, .int .i64 0, .int .i64 0, .bool false, .bool false, .bool false, .bool false, .bool false, .bool false, .bool false, .bool false, .int .i64 0, .bool false, .bool false, .bool false] 25)).heap[w2.heap.size]? = some (.cells #[.int .i64 0, .int .i64 0, .int .i64 0, .bool false, .int .i64 0, .int .i64 0, .int .i64 0, .int .i64 0, .int .u32 0, .bool false, .int .i64 0, .int .i64 0, .bool false, .bool false, .bool false, .bool false, .bool false, .bool false, .bool false, .bool false, .int .i64 0, .bool false, .bool false, .bool false] 25) := alloc_old _ (alloc_new _ _)
  have H2 : ∀ X, (((w2.alloc (.cells #[.int .i64 0, .int .i64 0, .int .i64 0, .bool false, .int .i64 0, .int .i64 0, .int .i64 0, .int .i64 0, .int .u32 0, .bool false, .int .i64 0, .int .i64 0, .bool false, .bool false, .bool false, .bool false, .bool false, .bool false, .bool false, .bool false, .int .i64 0, .bool false, .bool false, .bool false] 25)).alloc (.cells #[.int .i64 0, .int .i64 0, .int .i64 0, .bool false, .int .i64 0, .int .i64 0, .int .i64 0, .int .i64 0, .int .u32 0, .bool false, .int .i64 0, .int .i64 0, .bool false, .bool false, .bool false, .bool false, .bool false, .bool false, .bool false, .bool false, .int .i64 0, .bool false, .bool false, .bool false] 25)).setRow w2.heap.size X).heap[w2.heap.size + 1]? = some (.cells #[.int .i64 0, .int .i64 0, .int .i64 0, .bool false, .int .i64 0, .int .i64 0, .int .i64 0, .int .i64 0, .int .u32 0, .bool false, .int .i64 0, .int .i64 0, .bool false, .bool false, .bool false, .bool false, .bool false, .bool false, .bool false, .bool false, .int .i64 0, .bool false, .bool false, .bool false] 25) := fun X => by
    rw [setRow_other _ _ _ _ (by omega)]; exact heap_alloc2_new w2 _ _
  have H1H := Lib.hid H1
  have H2H := Lib.hid H2
  clear H1 H2
  go_upto_region 5 with (first
    | (refine wpList_store_row rfl 25 (.tmp 5) (.tmp 12) rfl w2.heap.size _ rfl rfl 25 _ H1H.out info25 rfl (by simp [Value.oneCell']) ?_)
    | (refine wpList_store_row rfl 25 (.tmp 6) (.tmp 19) rfl (w2.heap.size + 1) _ rfl rfl 25 _ (H2H.out _) info25 rfl (by simp [Value.oneCell']) ?_))
  have T1 : ((((w2.alloc (.cells #[.int .i64 0, .int .i64 0, .int .i64 0, .bool false, .int .i64 0, .int .i64 0, .int .i64 0, .int .i64 0, .int .u32 0, .bool false, .int .i64 0, .int .i64 0, .bool false, .bool false, .bool false, .bool false, .bool false, .bool false, .bool false, .bool false, .int .i64 0, .bool false, .bool false, .bool false] 25)).alloc (.cells #[.int .i64 0, .int .i64 0, .int .i64 0, .bool false, .int .i64 0, .int .i64 0, .int .i64 0, .int .i64 0, .int .u32 0, .bool false, .int .i64 0, .int .i64 0, .bool false, .bool false, .bool false, .bool false, .bool false, .bool false, .bool false, .bool false, .int .i64 0, .bool false, .bool false, .bool false] 25)).setRow w2.heap.size (#[.int .i64 h.kd, .int .i64 h.cond, .int .i64 h.code, .bool h.flags, .int .i64 h.rd, .int .i64 h.rn, .int .i64 h.rs, .int .i64 h.rm, .int .u32 h.imm, .bool h.hasImm, .int .i64 h.shift, .int .i64 h.amount, .bool h.byReg, .bool h.load, .bool h.byte, .bool h.signed, .bool h.pre, .bool h.up, .bool h.back, .bool h.user, .int .i64 h.list, .bool h.link, .bool h.long, .bool h.align])).setRow (w2.heap.size + 1) (#[.int .i64 h.kd, .int .i64 c, .int .i64 h.code, .bool h.flags, .int .i64 h.rd, .int .i64 h.rn, .int .i64 h.rs, .int .i64 h.rm, .int .u32 h.imm, .bool h.hasImm, .int .i64 h.shift, .int .i64 h.amount, .bool h.byReg, .bool h.load, .bool h.byte, .bool h.signed, .bool h.pre, .bool h.up, .bool h.back, .bool h.user, .int .i64 h.list, .bool h.link, .bool h.long, .bool h.align])).heap[w2.heap.size]? = some (.cells #[.int .i64 h.kd, .int .i64 h.cond, .int .i64 h.code, .bool h.flags, .int .i64 h.rd, .int .i64 h.rn, .int .i64 h.rs, .int .i64 h.rm, .int .u32 h.imm, .bool h.hasImm, .int .i64 h.shift, .int .i64 h.amount, .bool h.byReg, .bool h.load, .bool h.byte, .bool h.signed, .bool h.pre, .bool h.up, .bool h.back, .bool h.user, .int .i64 h.list, .bool h.link, .bool h.long, .bool h.align] 25) := by
    rw [setRow_other _ _ _ _ (by omega)]; exact setRow_heap _ _ _ _ _ _ H1H.out
  have T2 : ((((w2.alloc (.cells #[.int .i64 0, .int .i64 0, .int .i64 0, .bool false, .int .i64 0, .int .i64 0, .int .i64 0, .int .i64 0, .int .u32 0, .bool false, .int .i64 0, .int .i64 0, .bool false, .bool false, .bool false, .bool false, .bool false, .bool false, .bool false, .bool false, .int .i64 0, .bool false, .bool false, .bool false] 25)).alloc (.cells #[.int .i64 0, .int .i64 0, .int .i64 0, .bool false, .int .i64 0, .int .i64 0, .int .i64 0, .int .i64 0, .int .u32 0, .bool false, .int .i64 0, .int .i64 0, .bool false, .bool false, .bool false, .bool false, .bool false, .bool false, .bool false, .bool false, .int .i64 0, .bool false, .bool false, .bool false] 25)).setRow w2.heap.size (#[.int .i64 h.kd, .int .i64 h.cond, .int .i64 h.code, .bool h.flags, .int .i64 h.rd, .int .i64 h.rn, .int .i64 h.rs, .int .i64 h.rm, .int .u32 h.imm, .bool h.hasImm, .int .i64 h.shift, .int .i64 h.amount, .bool h.byReg, .bool h.load, .bool h.byte, .bool h.signed, .bool h.pre, .bool h.up, .bool h.back, .bool h.user, .int .i64 h.list, .bool h.link, .bool h.long, .bool h.align])).setRow (w2.heap.size + 1) (#[.int .i64 h.kd, .int .i64 c, .int .i64 h.code, .bool h.flags, .int .i64 h.rd, .int .i64 h.rn, .int .i64 h.rs, .int .i64 h.rm, .int .u32 h.imm, .bool h.hasImm, .int .i64 h.shift, .int .i64 h.amount, .bool h.byReg, .bool h.load, .bool h.byte, .bool h.signed, .bool h.pre, .bool h.up, .bool h.back, .bool h.user, .int .i64 h.list, .bool h.link, .bool h.long, .bool h.align])).heap[w2.heap.size + 1]? = some (.cells #[.int .i64 h.kd, .int .i64 c, .int .i64 h.code, .bool h.flags, .int .i64 h.rd, .int .i64 h.rn, .int .i64 h.rs, .int .i64 h.rm, .int .u32 h.imm, .bool h.hasImm, .int .i64 h.shift, .int .i64 h.amount, .bool h.byReg, .bool h.load, .bool h.byte, .bool h.signed, .bool h.pre, .bool h.up, .bool h.back, .bool h.user, .int .i64 h.list, .bool h.link, .bool h.long, .bool h.align] 25) := setRow_heap _ _ _ _ _ _ (H2H.out _)
  have hB : Below w.heap.size w ((((w2.alloc (.cells #[.int .i64 0, .int .i64 0, .int .i64 0, .bool false, .int .i64 0, .int .i64 0, .int .i64 0, .int .i64 0, .int .u32 0, .bool false, .int .i64 0, .int .i64 0, .bool false, .bool false, .bool false, .bool false, .bool false, .bool false, .bool false, .bool false, .int .i64 0, .bool false, .bool false, .bool false] 25)).alloc (.cells #[.int .i64 0, .int .i64 0, .int .i64 0, .bool false, .int .i64 0, .int .i64 0, .int .i64 0, .int .i64 0, .int .u32 0, .bool false, .int .i64 0, .int .i64 0, .bool false, .bool false, .bool false, .bool false, .bool false, .bool false, .bool false, .bool false, .int .i64 0, .bool false, .bool false, .bool false] 25)).setRow w2.heap.size (#[.int .i64 h.kd, .int .i64 h.cond, .int .i64 h.code, .bool h.flags, .int .i64 h.rd, .int .i64 h.rn, .int .i64 h.rs, .int .i64 h.rm, .int .u32 h.imm, .bool h.hasImm, .int .i64 h.shift, .int .i64 h.amount, .bool h.byReg, .bool h.load, .bool h.byte, .bool h.signed, .bool h.pre, .bool h.up, .bool h.back, .bool h.user, .int .i64 h.list, .bool h.link, .bool h.long, .bool h.align])).setRow (w2.heap.size + 1) (#[.int .i64 h.kd, .int .i64 c, .int .i64 h.code, .bool h.flags, .int .i64 h.rd, .int .i64 h.rn, .int .i64 h.rs, .int .i64 h.rm, .int .u32 h.imm, .bool h.hasImm, .int .i64 h.shift, .int .i64 h.amount, .bool h.byReg, .bool h.load, .bool h.byte, .bool h.signed, .bool h.pre, .bool h.up, .bool h.back, .bool h.user, .int .i64 h.list, .bool h.link, .bool h.long, .bool h.align])) := by
    have b0 := (hbH.out.alloc hbH.out.size (.cells #[.int .i64 0, .int .i64 0, .int .i64 0, .bool false, .int .i64 0, .int .i64 0, .int .i64 0, .int .i64 0, .int .u32 0, .bool false, .int .i64 0, .int .i64 0, .bool false, .bool false, .bool false, .bool false, .bool false, .bool false, .bool false, .bool false, .int .i64 0, .bool false, .bool false, .bool false] 25)).alloc (by have := hbH.out.size; simp; omega) (.cells #[.int .i64 0, .int .i64 0, .int .i64 0, .bool false, .int .i64 0, .int .i64 0, .int .i64 0, .int .i64 0, .int .u32 0, .bool false, .int .i64 0, .int .i64 0, .bool false, .bool false, .bool false, .bool false, .bool false, .bool false, .bool false, .bool false, .int .i64 0, .bool false, .bool false, .bool false] 25)
    have b1 := below_only b0 (Only.setRow (new := #[.int .i64 h.kd, .int .i64 h.cond, .int .i64 h.code, .bool h.flags, .int .i64 h.rd, .int .i64 h.rn, .int .i64 h.rs, .int .i64 h.rm, .int .u32 h.imm, .bool h.hasImm, .int .i64 h.shift, .int .i64 h.amount, .bool h.byReg, .bool h.load, .bool h.byte, .bool h.signed, .bool h.pre, .bool h.up, .bool h.back, .bool h.user, .int .i64 h.list, .bool h.link, .bool h.long, .bool h.align]) (Only.refl H1H.out)) hbH.out.size b0.size
    exact below_only b1 (Only.setRow (new := #[.int .i64 h.kd, .int .i64 c, .int .i64 h.code, .bool h.flags, .int .i64 h.rd, .int .i64 h.rn, .int .i64 h.rs, .int .i64 h.rm, .int .u32 h.imm, .bool h.hasImm, .int .i64 h.shift, .int .i64 h.amount, .bool h.byReg, .bool h.load, .bool h.byte, .bool h.signed, .bool h.pre, .bool h.up, .bool h.back, .bool h.user, .int .i64 h.list, .bool h.link, .bool h.long, .bool h.align]) (Only.refl (H2H.out _))) (by have := hbH.out.size; omega) b1.size
  have hz := hbH.out.size
  generalize (((w2.alloc (.cells #[.int .i64 0, .int .i64 0, .int .i64 0, .bool false, .int .i64 0, .int .i64 0, .int .i64 0, .int .i64 0, .int .u32 0, .bool false, .int .i64 0, .int .i64 0, .bool false, .bool false, .bool false, .bool false, .bool false, .bool false, .bool false, .bool false, .int .i64 0, .bool false, .bool false, .bool false] 25)).alloc (.cells #[.int .i64 0, .int .i64 0, .int .i64 0, .bool false, .int .i64 0, .int .i64 0, .int .i64 0, .int .i64 0, .int .u32 0, .bool false, .int .i64 0, .int .i64 0, .bool false, .bool false, .bool false, .bool false, .bool false, .bool false, .bool false, .bool false, .int .i64 0, .bool false, .bool false, .bool false] 25)).setRow w2.heap.size (#[.int .i64 h.kd, .int .i64 h.cond, .int .i64 h.code, .bool h.flags, .int .i64 h.rd, .int .i64 h.rn, .int .i64 h.rs, .int .i64 h.rm, .int .u32 h.imm, .bool h.hasImm, .int .i64 h.shift, .int .i64 h.amount, .bool h.byReg, .bool h.load, .bool h.byte, .bool h.signed, .bool h.pre, .bool h.up, .bool h.back, .bool h.user, .int .i64 h.list, .bool h.link, .bool h.long, .bool h.align])).setRow (w2.heap.size + 1) (#[.int .i64 h.kd, .int .i64 c, .int .i64 h.code, .bool h.flags, .int .i64 h.rd, .int .i64 h.rn, .int .i64 h.rs, .int .i64 h.rm, .int .u32 h.imm, .bool h.hasImm, .int .i64 h.shift, .int .i64 h.amount, .bool h.byReg, .bool h.load, .bool h.byte, .bool h.signed, .bool h.pre, .bool h.up, .bool h.back, .bool h.user, .int .i64 h.list, .bool h.link, .bool h.long, .bool h.align]) = W3 at *
  generalize w2.heap.size = B1 at *
  have C1 : W3.cell? ⟨B1, 1, none⟩ = some (.int .i64 h.cond) := cellsAt T1 1
  have F1 := freeAt T1
  have U1 : (W3.setCell ⟨B1, 1, none⟩ (.int .i64 c)).heap[B1]? = some (.cells #[.int .i64 h.kd, .int .i64 c, .int .i64 h.code, .bool h.flags, .int .i64 h.rd, .int .i64 h.rn, .int .i64 h.rs, .int .i64 h.rm, .int .u32 h.imm, .bool h.hasImm, .int .i64 h.shift, .int .i64 h.amount, .bool h.byReg, .bool h.load, .bool h.byte, .bool h.signed, .bool h.pre, .bool h.up, .bool h.back, .bool h.user, .int .i64 h.list, .bool h.link, .bool h.long, .bool h.align] 25) := set_at (j := 1) (.int .i64 c) T1
  have U2 : (W3.setCell ⟨B1, 1, none⟩ (.int .i64 c)).heap[B1 + 1]? = some (.cells #[.int .i64 h.kd, .int .i64 c, .int .i64 h.code, .bool h.flags, .int .i64 h.rd, .int .i64 h.rn, .int .i64 h.rs, .int .i64 h.rm, .int .u32 h.imm, .bool h.hasImm, .int .i64 h.shift, .int .i64 h.amount, .bool h.byReg, .bool h.load, .bool h.byte, .bool h.signed, .bool h.pre, .bool h.up, .bool h.back, .bool h.user, .int .i64 h.list, .bool h.link, .bool h.long, .bool h.align] 25) := set_ne _ (by omega) T2
  have U1H := Lib.hid U1
  have U2H := Lib.hid U2
  have hBH := Lib.hid (hB.setCell (p := ⟨B1, 1, none⟩) hz (.int .i64 c))
  clear T1 T2 hB H1H H2H hbH U1 U2
  go_wp2_with (first
    | (refine wpList_load_row rfl 25 (.tmp 5) rfl B1 rfl 25 _ (0, 0) _ U1H.out Try.underlying25 rfl info25 ?_)
    | (refine wpList_load_row rfl 25 (.tmp 6) rfl (B1 + 1) rfl 25 _ (0, 0) _ U2H.out Try.underlying25 rfl info25 ?_))
  go_ret
  exact ⟨rfl, hBH.out⟩
end Go.Proofs.Ytlpjadpjjcpfgaa.Ro
