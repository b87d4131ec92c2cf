/- ArmBranches, walked. -/
import Derived.Test.YtlpjadpjjcpfgaaRl
import Derived.Deep.DeepCutAuto
namespace Go.Proofs.Ytlpjadpjjcpfgaa.Rq
set_option linter.unusedVariables false
set_option linter.unusedSimpArgs false
open Go.RowKit Go.Proofs.Ytlpjadpjjcpfgaa.Bt Go.Proofs.Ytlpjadpjjcpfgaa.Wk Go.Proofs.Ytlpjadpjjcpfgaa.Ra Go.Proofs.Ytlpjadpjjcpfgaa.Rp Go.Proofs.Ytlpjadpjjcpfgaa.Rg Go.Proofs.Ytlpjadpjjcpfgaa.Rb Go.Proofs.Ytlpjadpjjcpfgaa.Rf Go.Proofs.Ytlpjadpjjcpfgaa.Rl

theorem or_sum (k : Nat) (a b : Int) (p : Int) (hp : ((2 ^ k : Nat) : Int) = p) (a0 : 0 ≤ a) (a1 : a < p) (b0 : 0 ≤ b) (b1 : b % p = 0) (h : a + b < 4294967296) : Go.bits .or .u32 a b = a + b := by
  obtain ⟨n, rfl⟩ := Int.eq_ofNat_of_zero_le a0
  obtain ⟨m, rfl⟩ := Int.eq_ofNat_of_zero_le b0
  rw [or_nat .u32 ws_u32 n m (by simp [IntKind.bits]; omega) (by simp [IntKind.bits]; omega), lor_add]
  · simp
  · subst hp
    have e : m % 2 ^ k = 0 := by exact_mod_cast b1
    have l : n < 2 ^ k := by exact_mod_cast a1
    have s := land_split k n m
    rw [e, Nat.div_eq_of_lt l, Nat.and_zero, Nat.zero_and, Nat.mul_zero] at s
    exact s
/-- A branch's word, taken apart. -/
theorem dec_branch (c v : Int) (lk : Bool) (c0 : 0 ≤ c) (c1 : c < 16) (v0 : 0 ≤ v) (v1 : v < 16777216) (x : Int) (hx : x = c * 268435456 + 167772160 + (if lk then 16777216 else 0) + v) :
    decP x = ⟨9, c, 0, false, 0, 0, 0, 0, (if v < 8388608 then v else v - 16777216) * 4 % 4294967296, false, 0, 0, false, false, false, false, false, false, false, false, 0, lk, false, false⟩ := by
  have f28 : fl x 28 4 = c := by
    unfold fl
    rw [show (2 : Int) ^ 28 = 268435456 from rfl, show (2 : Int) ^ 4 = 16 from rfl, hx]
    cases lk <;> simp <;> omega
  have f25 : fl x 25 3 = 5 := by
    unfold fl
    rw [show (2 : Int) ^ 25 = 33554432 from rfl, show (2 : Int) ^ 3 = 8 from rfl, hx]
    cases lk <;> simp <;> omega
  have b24 : tb x 24 = lk := by
    unfold tb
    rw [show (2 : Int) ^ 24 = 16777216 from rfl, hx]
    cases lk
    · have : (c * 268435456 + 167772160 + (if false = true then 16777216 else 0) + v) / 16777216 % 2 = 0 := by simp; omega
      rw [this]; rfl
    · have : (c * 268435456 + 167772160 + (if true = true then 16777216 else 0) + v) / 16777216 % 2 = 1 := by simp; omega
      rw [this]; rfl
  have m : x % 16777216 = v := by
    rw [hx]
    cases lk <;> simp <;> omega
  unfold decP
  dsimp only
  rw [f25, f28, b24, m]
  rfl
theorem or_sum2 (k : Nat) (a b : Int) (p : Int) (hp : ((2 ^ k : Nat) : Int) = p) (a0 : 0 ≤ a) (a1 : a < p) (b0 : 0 ≤ b) (b1 : b % p = 0) (h : b + a < 4294967296) : Go.bits .or .u32 b a = b + a := by
  have t := or_sum k a b p hp a0 a1 b0 b1 (by omega)
  obtain ⟨n, rfl⟩ := Int.eq_ofNat_of_zero_le a0
  obtain ⟨m, rfl⟩ := Int.eq_ofNat_of_zero_le b0
  rw [or_nat .u32 ws_u32 m n (by simp [IntKind.bits]; omega) (by simp [IntKind.bits]; omega), Nat.or_comm, ← or_nat .u32 ws_u32 n m (by simp [IntKind.bits]; omega) (by simp [IntKind.bits]; omega), t]
  omega
theorem or_bit24 (a : Int) (a0 : 0 ≤ a) (h : a / 16777216 % 2 = 0) (l : a < 4278190080) : Go.bits .or .u32 a 16777216 = a + 16777216 := by
  obtain ⟨n, rfl⟩ := Int.eq_ofNat_of_zero_le a0
  rw [show (16777216 : Int) = ((16777216 : Nat) : Int) from rfl, or_nat .u32 ws_u32 n 16777216 (by simp [IntKind.bits]; omega) (by decide), lor_add]
  · simp
  · have s := land_split 24 n 16777216
    have e1 : 16777216 % 2 ^ 24 = 0 := by decide
    have e2 : 16777216 / 2 ^ 24 = 2 ^ 1 - 1 := by decide
    rw [e1, e2, Nat.and_zero, Nat.and_two_pow_sub_one_eq_mod] at s
    have : n / 2 ^ 24 % 2 ^ 1 = 0 := by omega
    rw [s, this]
set_option maxRecDepth 100000 in
set_option maxHeartbeats 8000000 in
theorem branches_law (y : Int) (lk : Bool) (cd : Int) (hy : (Lit.int .i32 y).wf = true) (hc : (Lit.int .i64 cd).wf = true) (w : World) :
    Calls Try.prog 6 #[.int .i32 y, .bool lk, .int .i64 cd] w fun e w' => e = .returned (.bool true) ∧ Below w.heap.size w w' := by
  clear hc hy
  have g1 : Go.bits .and .i64 cd 15 = cd % 16 := by have := and_mask_i64 cd 4 (by decide); simpa using this
  have c0 : 0 ≤ cd % 16 := by omega
  have c1 : cd % 16 < 16 := by omega
  generalize cd % 16 = c at *
  obtain ⟨s, hs⟩ : ∃ s, wrap32 (y * 256) / 256 = s := ⟨_, rfl⟩
  obtain ⟨v, hv⟩ : ∃ v, y % 16777216 = v := ⟨_, rfl⟩
  have v0 : 0 ≤ v := by omega
  have v1 : v < 16777216 := by omega
  have sv : s = if v < 8388608 then v else v - 16777216 := by
    rw [← hs, ← hv]
    unfold wrap32
    split <;> omega
  have s0 : -8388608 ≤ s := by rw [sv]; split <;> omega
  have s1 : s < 8388608 := by rw [sv]; split <;> omega
  have g2 : Go.bits .and .u32 (s % 4294967296) 16777215 = v := by
    have t : Go.bits .and .u32 (s % 4294967296) 16777215 = s % 4294967296 % 16777216 := bits_m (by omega) (by omega) 24 (by decide) 16777215 (by decide) 16777216 (by decide)
    rw [t, sv]
    split <;> omega
  have o1 : Go.bits .or .u32 (c * 268435456) 167772160 = c * 268435456 + 167772160 := or_sum2 28 _ _ 268435456 (by decide) (by decide) (by decide) (by omega) (by omega) (by omega)
  have o2 : Go.bits .or .u32 (c * 268435456 + 167772160) v = c * 268435456 + 167772160 + v := or_sum2 24 _ _ 16777216 (by decide) v0 v1 (by omega) (by omega) (by omega)
  have o3 : Go.bits .or .u32 (c * 268435456 + 167772160 + v) 16777216 = c * 268435456 + 167772160 + v + 16777216 := or_bit24 _ (by omega) (by omega) (by omega)
  obtain ⟨h, hh⟩ : ∃ h : Ins, h = ⟨9, c, 0, false, 0, 0, 0, 0, s * 4 % 4294967296, false, 0, 0, false, false, false, false, false, false, false, false, 0, lk, false, false⟩ := ⟨_, rfl⟩
  have D := fun w => decode_any (c * 268435456 + 167772160 + (if lk then 16777216 else 0) + v) (by cases lk <;> simp <;> omega) (by cases lk <;> simp <;> omega) w
  rw [dec_branch c v lk c0 c1 v0 v1 _ rfl, ← sv, ← hh] at D
  have EQ : ∀ w, (Op.equalIn 10000 25 (.agg #[.int .i64 h.kd, .int .i64 h.cond, .int .i64 h.code, .bool h.flags, .int .i64 h.rd, .int .i64 h.rn, .int .i64 h.rs, .int .i64 h.rm, .int .u32 h.imm, .bool h.hasImm, .int .i64 h.shift, .int .i64 h.amount, .bool h.byReg, .bool h.load, .bool h.byte, .bool h.signed, .bool h.pre, .bool h.up, .bool h.back, .bool h.user, .int .i64 h.list, .bool h.link, .bool h.long, .bool h.align]) (.agg #[.int .i64 9, .int .i64 c, .int .i64 0, .bool false, .int .i64 0, .int .i64 0, .int .i64 0, .int .i64 0, .int .u32 (s * 4 % 4294967296), .bool false, .int .i64 0, .int .i64 0, .bool false, .bool false, .bool false, .bool false, .bool false, .bool false, .bool false, .bool false, .int .i64 0, .bool lk, .bool false, .bool false])).run Try.prog w = .ok true w := fun w => by
    have := same24 ⟨9, c, 0, false, 0, 0, 0, 0, s * 4 % 4294967296, false, 0, 0, false, false, false, false, false, false, false, false, 0, lk, false, false⟩ w
    rw [hh]
    exact this
  have w4 : wrap32 (s * 4) = s * 4 := by unfold wrap32; omega
  have z2 : c * 268435456 < 4294967296 := by omega
  have DH := Lib.hid D
  have svH := Lib.hid sv
  have hhH := Lib.hid hh
  have EQH := Lib.hid EQ
  clear D sv hv hh EQ
  cases lk
  · have D := DH.out
    clear DH
    rw [if_neg Bool.false_ne_true, show c * 268435456 + 167772160 + 0 + v = c * 268435456 + 167772160 + v by omega] at D
    have DH := Lib.hid D
    clear D
    generalize c * 268435456 + 167772160 + v = x at *
    go_enter Try.func6, Try.ntmps6
    go_wp2_with fail
    refine (awake_any _).mono ?_
    rintro e w0 ⟨rfl, hb0⟩
    go_wp2_with fail
    refine (DH.out _).mono ?_
    rintro e w1 ⟨rfl, hb1⟩
    have hb := below_then hb0 hb1 hb0.size
    clear hb0 hb1
    go_upto_region 8 with (refine wpList_store_row rfl 25 (.tmp 8) (.tmp 27) rfl w1.heap.size _ rfl rfl 25 _ (alloc_new _ _) info25 rfl (by simp [Value.oneCell']) ?_; rw [Rg.alloc_setRow])
    clear g2 o1 o2 o3 z2 hs DH svH v0 v1 hhH
    have EQ := EQH.out
    go_upto_region 9 with (refine wpList_load_row rfl 25 (.tmp 8) rfl w1.heap.size rfl 25 _ (0, 0) _ (alloc_new w1 _) Try.underlying25 rfl info25 ?_)
    go_ret
    refine ⟨?_, ?_⟩
    · rfl
    · refine hb.alloc ?_ _
      exact hb.size
  · have D := DH.out
    clear DH
    rw [if_pos rfl, show c * 268435456 + 167772160 + 16777216 + v = c * 268435456 + 167772160 + v + 16777216 by omega] at D
    have DH := Lib.hid D
    clear D
    generalize c * 268435456 + 167772160 + v + 16777216 = x at *
    go_enter Try.func6, Try.ntmps6
    go_wp2_with fail
    refine (awake_any _).mono ?_
    rintro e w0 ⟨rfl, hb0⟩
    go_wp2_with fail
    refine (DH.out _).mono ?_
    rintro e w1 ⟨rfl, hb1⟩
    have hb := below_then hb0 hb1 hb0.size
    clear hb0 hb1
    go_upto_region 8 with (refine wpList_store_row rfl 25 (.tmp 8) (.tmp 27) rfl w1.heap.size _ rfl rfl 25 _ (alloc_new _ _) info25 rfl (by simp [Value.oneCell']) ?_; rw [Rg.alloc_setRow])
    clear g2 o1 o2 o3 z2 hs DH svH v0 v1 hhH
    have EQ := EQH.out
    go_upto_region 9 with (refine wpList_load_row rfl 25 (.tmp 8) rfl w1.heap.size rfl 25 _ (0, 0) _ (alloc_new w1 _) Try.underlying25 rfl info25 ?_)
    go_ret
    refine ⟨?_, ?_⟩
    · rfl
    · refine hb.alloc ?_ _
      exact hb.size
end Go.Proofs.Ytlpjadpjjcpfgaa.Rq
