/- ArmConds, ArmFields, ArmBranches: the plain part, and awake. -/
import Derived.Test.YtlpjadpjjcpfgaaRf
import Derived.ChangeKeysEq
import Derived.Laws.StructEq
namespace Go.Proofs.Ytlpjadpjjcpfgaa.Rl
set_option linter.unusedVariables false
set_option linter.unusedSimpArgs false
open Go.RowKit Go.Proofs.Ytlpjadpjjcpfgaa.Bt Go.Proofs.Ytlpjadpjjcpfgaa.Wk Go.Proofs.Ytlpjadpjjcpfgaa.Ra Go.Proofs.Ytlpjadpjjcpfgaa.Rp Go.Proofs.Ytlpjadpjjcpfgaa.Rb Go.Proofs.Ytlpjadpjjcpfgaa.Rf

set_option maxRecDepth 100000 in
set_option maxHeartbeats 2000000 in
theorem same24 (h : Ins) (w : World) : (Op.equalIn 10000 25 (.agg #[.int .i64 h.kd, .int .i64 h.cond, .int .i64 h.code, .bool h.flags, .int .i64 h.rd, .int .i64 h.rn, .int .i64 h.rs, .int .i64 h.rm, .int .u32 h.imm, .bool h.hasImm, .int .i64 h.shift, .int .i64 h.amount, .bool h.byReg, .bool h.load, .bool h.byte, .bool h.signed, .bool h.pre, .bool h.up, .bool h.back, .bool h.user, .int .i64 h.list, .bool h.link, .bool h.long, .bool h.align]) (.agg #[.int .i64 h.kd, .int .i64 h.cond, .int .i64 h.code, .bool h.flags, .int .i64 h.rd, .int .i64 h.rn, .int .i64 h.rs, .int .i64 h.rm, .int .u32 h.imm, .bool h.hasImm, .int .i64 h.shift, .int .i64 h.amount, .bool h.byReg, .bool h.load, .bool h.byte, .bool h.signed, .bool h.pre, .bool h.up, .bool h.back, .bool h.user, .int .i64 h.list, .bool h.link, .bool h.long, .bool h.align])).run Try.prog w = .ok true w := by
  rw [run_equalIn_agg (P := Try.prog) w 9999 25 _ _ (by kernel_rfl) (by kernel_rfl)]
  go_simp
theorem dec1 : decP 3818914561 = ⟨1, 14, 13, false, 0, 0, 0, 0, 1, true, 0, 3, false, false, false, false, false, false, false, false, 0, false, false, false⟩ := by kernel_rfl
theorem dec2 : decP 3891265776 = ⟨0, 14, 0, false, 0, 0, 0, 0, 0, false, 0, 0, false, false, false, false, false, false, false, false, 0, false, false, false⟩ := by kernel_rfl
set_option maxHeartbeats 4000000 in
theorem awake_any (w : World) : Calls Try.prog 7 #[] w fun e w' => e = .returned (.bool true) ∧ Below w.heap.size w w' := by
  have D1 := fun w => decode_any 3818914561 (by decide) (by decide) w
  have D2 := fun w => decode_any 3891265776 (by decide) (by decide) w
  rw [dec1] at D1
  rw [dec2] at D2
  have D1H := Lib.hid D1
  have D2H := Lib.hid D2
  have E1 := fun w => same24 ⟨1, 14, 13, false, 0, 0, 0, 0, 1, true, 0, 3, false, false, false, false, false, false, false, false, 0, false, false, false⟩ w
  have E2 := fun w => same24 ⟨0, 14, 0, false, 0, 0, 0, 0, 0, false, 0, 0, false, false, false, false, false, false, false, false, 0, false, false, false⟩ w
  simp only [] at E1 E2
  clear D1 D2
  go_enter Try.func7, Try.ntmps7
  go_wp2_with fail
  refine (D1H.out _).mono ?_
  rintro e w1 ⟨rfl, hb1⟩
  go_wp2_with fail
  refine (D2H.out _).mono ?_
  rintro e w2 ⟨rfl, hb2⟩
  go_wp2
  go_ret
  exact ⟨rfl, below_then hb1 hb2 hb1.size⟩
/-! ### ArmConds, plain -/
theorem fl_low (w c : Int) (i n : Nat) (h : i + n ≤ 28) : fl (w % 268435456 + c * 268435456) i n = fl w i n := by
  unfold fl
  have p : (268435456 : Int) = 2 ^ i * (2 ^ n * 2 ^ (28 - i - n)) := by
    rw [← Int.pow_add, ← Int.pow_add]
    rw [show i + (n + (28 - i - n)) = 28 by omega]; rfl
  have pi : (0 : Int) < 2 ^ i := Int.pow_pos (by decide)
  have pn : (0 : Int) < 2 ^ n := Int.pow_pos (by decide)
  generalize (2 : Int) ^ (28 - i - n) = k at *
  generalize (2 : Int) ^ i = a at *
  generalize (2 : Int) ^ n = b at *
  have e : w = w % 268435456 + 268435456 * (w / 268435456) := (Int.emod_add_mul_ediv w 268435456).symm
  have g : ∀ q r : Int, (r + a * (b * k) * q) / a % b = r / a % b := fun q r => by
    rw [show r + a * (b * k) * q = r + a * (b * (k * q)) by rw [Int.mul_assoc, Int.mul_assoc]]
    rw [Int.add_mul_ediv_left _ _ (by omega), Int.add_mul_emod_self_left]
  rw [p] at e ⊢
  generalize w % (a * (b * k)) = r at *
  generalize w / (a * (b * k)) = q at *
  rw [e, g, Int.mul_comm c, g]
theorem tb_fl (w : Int) (i : Nat) : tb w i = (fl w i 1 == 1) := rfl
def setC (h : Ins) (c : Int) : Ins := { h with cond := c }
theorem setC_ite {p : Prop} [Decidable p] (x y : Ins) (c : Int) : setC (if p then x else y) c = if p then setC x c else setC y c := by split <;> rfl
theorem mask_low (w c : Int) (h0 : 0 ≤ w) (c0 : 0 ≤ c) (c1 : c < 16) : Go.bits .and .u32 (w % 268435456 + c * 268435456) 264179711 = Go.bits .and .u32 w 264179711 ∨ 4294967296 ≤ w := by
  by_cases h1 : w < 4294967296
  · left
    obtain ⟨a, rfl⟩ := Int.eq_ofNat_of_zero_le h0
    obtain ⟨k, rfl⟩ := Int.eq_ofNat_of_zero_le c0
    have e : ((a : Int) % 268435456 + (k : Int) * 268435456) = ((a % 268435456 + k * 268435456 : Nat) : Int) := by omega
    rw [e, show (264179711 : Int) = ((264179711 : Nat) : Int) from rfl, and_nat .u32 ws_u32 _ _ (by simp [IntKind.bits]; omega) (by decide), and_nat .u32 ws_u32 a _ (by simp [IntKind.bits]; omega) (by decide)]
    have s1 := land_split 28 (a % 268435456 + k * 268435456) 264179711
    have s2 := land_split 28 a 264179711
    have z : 264179711 / 2 ^ 28 = 0 := by decide
    rw [z, Nat.and_zero, Nat.mul_zero, Nat.zero_add] at s1 s2
    have m : (a % 268435456 + k * 268435456) % 2 ^ 28 = a % 2 ^ 28 := by omega
    rw [m] at s1
    rw [s1, s2]
  · right; omega
theorem dec_cond (w c : Int) (h0 : 0 ≤ w) (h1 : w < 4294967296) (c0 : 0 ≤ c) (c1 : c < 16) : decP (w % 268435456 + c * 268435456) = setC (decP w) c := by
  have hm : Go.bits .and .u32 (w % 268435456 + c * 268435456) 264179711 = Go.bits .and .u32 w 264179711 := by
    rcases mask_low w c h0 c0 c1 with h | h
    · exact h
    · omega
  have f : ∀ i n, i + n ≤ 28 → fl (w % 268435456 + c * 268435456) i n = fl w i n := fun i n h => fl_low w c i n h
  have b : ∀ i, i < 28 → tb (w % 268435456 + c * 268435456) i = tb w i := fun i h => by rw [tb_fl, tb_fl, f i 1 (by omega)]
  have fc : fl (w % 268435456 + c * 268435456) 28 4 = c := by
    unfold fl
    rw [show (2 : Int) ^ 28 = 268435456 from rfl, show (2 : Int) ^ 4 = 16 from rfl]
    omega
  have p1 : (w % 268435456 + c * 268435456) % 65536 = w % 65536 := by omega
  have p2 : (w % 268435456 + c * 268435456) % 4096 = w % 4096 := by omega
  have p3 : (w % 268435456 + c * 268435456) % 256 = w % 256 := by omega
  have p4 : (w % 268435456 + c * 268435456) % 16 = w % 16 := by omega
  have p5 : (w % 268435456 + c * 268435456) / 256 % 16 = w / 256 % 16 := by omega
  have p6 : (w % 268435456 + c * 268435456) / 16 % 16777216 = w / 16 % 16777216 := by omega
  have p7 : (w % 268435456 + c * 268435456) / 16 % 256 = w / 16 % 256 := by omega
  have p8 : (w % 268435456 + c * 268435456) % 16777216 = w % 16777216 := by omega
  have p9 : (w % 268435456 + c * 268435456) / 65536 % 256 = w / 65536 % 256 := by omega
  unfold decP
  dsimp only
  rw [fc, f 25 3 (by decide), f 16 4 (by decide), f 12 4 (by decide), f 8 4 (by decide), f 0 4 (by decide), b 7 (by decide), b 4 (by decide), b 24 (by decide), p8, p9]
  unfold extraP dataP wordP blockP halfP statusP none_
  rw [f 5 2 (by decide), f 22 6 (by decide), f 23 5 (by decide), f 20 2 (by decide), f 21 4 (by decide), f 7 5 (by decide), b 20 (by decide), b 21 (by decide), b 22 (by decide), b 23 (by decide), b 24 (by decide), b 25 (by decide), b 4 (by decide), p1, p2, p3, p4, p5, p6, p7, hm]
  simp only [setC_ite]
  simp only [setC]
/-! ### ArmFields, plain -/
structure Bd (h : Ins) : Prop where
  a0 : 0 ≤ h.cond
  a1 : h.cond ≤ 15
  b0 : 0 ≤ h.code
  b1 : h.code ≤ 15
  c0 : 0 ≤ h.rd
  c1 : h.rd ≤ 15
  d0 : 0 ≤ h.rn
  d1 : h.rn ≤ 15
  e0 : 0 ≤ h.rs
  e1 : h.rs ≤ 15
  f0 : 0 ≤ h.rm
  f1 : h.rm ≤ 15
  g0 : 0 ≤ h.kd
  g1 : h.kd ≤ 12
  i0 : 0 ≤ h.shift
  i1 : h.shift ≤ 3
  j0 : 0 ≤ h.amount
  j1 : h.amount ≤ 31
  k0 : 0 ≤ h.list
  k1 : h.list ≤ 65535
  al : h.align = false
/-- What fields a kind has. -/
def Shp (c : Int) (h : Ins) : Prop :=
  (h.hasImm = true ∧ h.rm = 0 ∧ h.rs = 0 ∧ h.byReg = false ∧ h.shift = 0 ∧ h.kd ≠ 0) ∨
  (h.hasImm = false ∧ h.byReg = true ∧ h.kd = 1 ∧ h.imm = 0) ∨
  (h.hasImm = false ∧ h.byReg = false ∧ h.imm = 0 ∧ h.kd ≠ 0) ∨
  (h.hasImm = false ∧ h.byReg = false ∧ (h.kd = 9 ∨ h.kd = 10)) ∨
  h = none_ c
theorem fl_in (w : Int) (i n : Nat) : 0 ≤ fl w i n ∧ fl w i n < 2 ^ n :=
  ⟨Int.emod_nonneg _ (Int.ne_of_gt (Int.pow_pos (by decide))), Int.emod_lt_of_pos _ (Int.pow_pos (by decide))⟩
def Both (c : Int) (h : Ins) : Prop := Bd h ∧ Shp c h
theorem both_none {c : Int} (c0 : 0 ≤ c) (c1 : c ≤ 15) : Both c (none_ c) := by
  refine ⟨?_, .inr (.inr (.inr (.inr rfl)))⟩
  constructor <;> first | rfl | (unfold none_; dsimp only; omega)
theorem both_ite {p : Prop} [Decidable p] {c : Int} {x y : Ins} (hx : p → Both c x) (hy : ¬ p → Both c y) : Both c (if p then x else y) := by
  split
  · exact hx ‹_›
  · exact hy ‹_›
theorem dec_both (w : Int) : Both (fl w 28 4) (decP w) := by
  have f28 := fl_in w 28 4
  have f16 := fl_in w 16 4
  have f12 := fl_in w 12 4
  have f8 := fl_in w 8 4
  have f0 := fl_in w 0 4
  have f52 := fl_in w 5 2
  have f21 := fl_in w 21 4
  have f75 := fl_in w 7 5
  have q1 : 0 ≤ w % 65536 ∧ w % 65536 < 65536 := by omega
  rw [show (2 : Int) ^ 4 = 16 from rfl] at f28 f16 f12 f8 f0 f21
  rw [show (2 : Int) ^ 2 = 4 from rfl] at f52
  rw [show (2 : Int) ^ 5 = 32 from rfl] at f75
  unfold decP
  dsimp only
  unfold extraP dataP wordP blockP halfP statusP
  generalize fl w 28 4 = c at *
  generalize fl w 16 4 = n at *
  generalize fl w 12 4 = d at *
  generalize fl w 8 4 = s at *
  generalize fl w 0 4 = m at *
  generalize fl w 5 2 = u at *
  generalize fl w 21 4 = o at *
  generalize fl w 7 5 = a at *
  generalize w % 65536 = l at *
  have N : Both c (none_ c) := both_none (by omega) (by omega)
  repeat' (first | exact N | refine both_ite (fun _ => ?_) (fun _ => ?_))
  all_goals
    refine ⟨?_, ?_⟩
    · constructor <;> first | rfl | (dsimp only; omega)
    · first
        | (left; exact ⟨rfl, rfl, rfl, rfl, rfl, by simp⟩)
        | (right; left; exact ⟨rfl, rfl, rfl, rfl⟩)
        | (right; right; left; exact ⟨rfl, rfl, rfl, by simp⟩)
        | (right; right; right; left; exact ⟨rfl, rfl, .inl rfl⟩)
        | (right; right; right; left; exact ⟨rfl, rfl, .inr rfl⟩)
theorem none_only (w : Int) (h : (decP w).kd = 0) : decP w = none_ (fl w 28 4) := by
  rcases (dec_both w).2 with g | g | g | g | g
  · exact absurd h g.2.2.2.2.2
  · rw [h] at g; exact absurd g.2.2.1 (by decide)
  · exact absurd h g.2.2.2
  · rw [h] at g; exact absurd g.2.2 (by decide)
  · exact g
end Go.Proofs.Ytlpjadpjjcpfgaa.Rl
