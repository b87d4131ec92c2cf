/- Facts on bits of whole numbers, as the printed functions use them: no program, no memory. -/
import Derived.Laws.BitsLemmas
import Derived.Laws.BitsAllLaws
import Derived.RowKit
import Derived.OpenShut
namespace Go.Proofs.Ythbpcenobaloaaa.Bt
set_option linter.unusedVariables false
set_option linter.unusedSimpArgs false
open Go.RowKit

/-! ### natural numbers -/
theorem land_split (k n m : Nat) : n &&& m = 2 ^ k * ((n / 2 ^ k) &&& (m / 2 ^ k)) + ((n % 2 ^ k) &&& (m % 2 ^ k)) := by
  have hlt : ((n % 2 ^ k) &&& (m % 2 ^ k)) < 2 ^ k := Nat.and_lt_two_pow _ (Nat.mod_lt _ (Nat.two_pow_pos k))
  rw [Nat.two_pow_add_eq_or_of_lt hlt]
  apply Nat.eq_of_testBit_eq
  intro i
  simp only [Nat.testBit_and, Nat.testBit_or, Nat.testBit_mod_two_pow, Nat.testBit_two_pow_mul, Nat.testBit_div_two_pow]
  by_cases h : i < k
  · have : ¬ k ≤ i := by omega
    simp [h, this]
  · have h' : k ≤ i := by omega
    simp [h, h']

theorem lor_split (k n m : Nat) : n ||| m = 2 ^ k * ((n / 2 ^ k) ||| (m / 2 ^ k)) + ((n % 2 ^ k) ||| (m % 2 ^ k)) := by
  have hlt : ((n % 2 ^ k) ||| (m % 2 ^ k)) < 2 ^ k := Nat.or_lt_two_pow (Nat.mod_lt _ (Nat.two_pow_pos k)) (Nat.mod_lt _ (Nat.two_pow_pos k))
  rw [Nat.two_pow_add_eq_or_of_lt hlt]
  apply Nat.eq_of_testBit_eq
  intro i
  simp only [Nat.testBit_or, Nat.testBit_mod_two_pow, Nat.testBit_two_pow_mul, Nat.testBit_div_two_pow]
  by_cases h : i < k
  · have : ¬ k ≤ i := by omega
    simp [h, this]
  · have h' : k ≤ i := by omega
    simp [h, h']

theorem xor_split (k n m : Nat) : n ^^^ m = 2 ^ k * ((n / 2 ^ k) ^^^ (m / 2 ^ k)) + ((n % 2 ^ k) ^^^ (m % 2 ^ k)) := by
  have hlt : ((n % 2 ^ k) ^^^ (m % 2 ^ k)) < 2 ^ k := Nat.xor_lt_two_pow (Nat.mod_lt _ (Nat.two_pow_pos k)) (Nat.mod_lt _ (Nat.two_pow_pos k))
  rw [Nat.two_pow_add_eq_or_of_lt hlt]
  apply Nat.eq_of_testBit_eq
  intro i
  simp only [Nat.testBit_xor, Nat.testBit_or, Nat.testBit_mod_two_pow, Nat.testBit_two_pow_mul, Nat.testBit_div_two_pow]
  by_cases h : i < k
  · have : ¬ k ≤ i := by omega
    simp [h, this]
  · have h' : k ≤ i := by omega
    simp [h, h']

/-- What has no bit in common is added. -/
theorem lor_add : ∀ (a b : Nat), a &&& b = 0 → a ||| b = a + b := by
  intro a
  induction a using Nat.strongRecOn with
  | _ a ih =>
    intro b h
    by_cases ha : a = 0
    · subst ha; simp
    · have h1 := land_split 1 a b
      have h2 := lor_split 1 a b
      have hz : (a / 2 ^ 1) &&& (b / 2 ^ 1) = 0 := by omega
      have hz' : (a % 2 ^ 1) &&& (b % 2 ^ 1) = 0 := by omega
      have i1 := ih (a / 2 ^ 1) (by simp; omega) _ hz
      rw [h2, i1]
      have e2 : (a % 2 ^ 1) ||| (b % 2 ^ 1) = a % 2 + b % 2 := by
        simp only [Nat.pow_one] at *
        rcases Nat.mod_two_eq_zero_or_one a with e | e <;> rcases Nat.mod_two_eq_zero_or_one b with f | f <;> simp_all
      rw [e2]
      simp only [Nat.pow_one]
      omega

/-! ### the model's numbers -/
theorem wrap_u8 (n : Int) : IntKind.u8.wrap n = n % 256 := IntKind.wrap_u8 n
theorem wrap_u16 (n : Int) : IntKind.u16.wrap n = n % 65536 := IntKind.wrap_u16 n
theorem wrap_u32 (n : Int) : IntKind.u32.wrap n = n % 4294967296 := IntKind.wrap_u32 n
theorem wrap_u64 (n : Int) : IntKind.u64.wrap n = n % 18446744073709551616 := IntKind.wrap_u64 n
theorem wrap64_id {n : Int} (h0 : -9223372036854775808 ≤ n) (h1 : n < 9223372036854775808) : wrap64 n = n := by unfold wrap64; omega

theorem ofInt_toNat (w : Nat) (a : Nat) (h : a < 2 ^ w) : (BitVec.ofInt w (a : Int)).toNat = a := by
  rw [BitVec.ofInt_natCast, BitVec.toNat_ofNat, Nat.mod_eq_of_lt h]

/-- Of an unsigned kind: the operations are those of natural numbers. -/
theorem and_nat (k : IntKind) (hk : ∀ n : Nat, n < 2 ^ k.bits → k.wrap n = n) (a b : Nat) (ha : a < 2 ^ k.bits) (hb : b < 2 ^ k.bits) : Go.bits .and k a b = ((a &&& b : Nat) : Int) := by
  simp only [Go.bits, BitVec.toNat_and, ofInt_toNat _ _ ha, ofInt_toNat _ _ hb]
  exact hk _ (Nat.and_lt_two_pow _ hb)
theorem or_nat (k : IntKind) (hk : ∀ n : Nat, n < 2 ^ k.bits → k.wrap n = n) (a b : Nat) (ha : a < 2 ^ k.bits) (hb : b < 2 ^ k.bits) : Go.bits .or k a b = ((a ||| b : Nat) : Int) := by
  simp only [Go.bits, BitVec.toNat_or, ofInt_toNat _ _ ha, ofInt_toNat _ _ hb]
  exact hk _ (Nat.or_lt_two_pow ha hb)
theorem xor_nat (k : IntKind) (hk : ∀ n : Nat, n < 2 ^ k.bits → k.wrap n = n) (a b : Nat) (ha : a < 2 ^ k.bits) (hb : b < 2 ^ k.bits) : Go.bits .xor k a b = ((a ^^^ b : Nat) : Int) := by
  simp only [Go.bits, BitVec.toNat_xor, ofInt_toNat _ _ ha, ofInt_toNat _ _ hb]
  exact hk _ (Nat.xor_lt_two_pow ha hb)
theorem ws_u8 (n : Nat) (h : n < 2 ^ IntKind.u8.bits) : IntKind.u8.wrap n = n := by rw [wrap_u8]; simp only [IntKind.bits] at h; omega
theorem ws_u16 (n : Nat) (h : n < 2 ^ IntKind.u16.bits) : IntKind.u16.wrap n = n := by rw [wrap_u16]; simp only [IntKind.bits] at h; omega
theorem ws_u32 (n : Nat) (h : n < 2 ^ IntKind.u32.bits) : IntKind.u32.wrap n = n := by rw [wrap_u32]; simp only [IntKind.bits] at h; omega
theorem ws_u64 (n : Nat) (h : n < 2 ^ IntKind.u64.bits) : IntKind.u64.wrap n = n := by rw [wrap_u64]; simp only [IntKind.bits] at h; omega
/-- The lowest i bits of a whole number with a sign. -/
theorem and_mask_i64 (a : Int) (i : Nat) (hi : i < 63) : Go.bits .and .i64 a (2 ^ i - 1) = a % 2 ^ i := by
  have hp : (0 : Int) < 2 ^ i := Int.pow_pos (by decide)
  have hc : ((2 : Int) ^ i - 1) = ((2 ^ i - 1 : Nat) : Int) := by
    rw [Int.natCast_sub (Nat.two_pow_pos i)]; simp
  have hlt : 2 ^ i - 1 < 2 ^ 64 := Nat.lt_of_lt_of_le (Nat.sub_lt (Nat.two_pow_pos i) (by decide)) (Nat.pow_le_pow_right (by decide) (by omega))
  have hb : IntKind.i64.bits = 64 := rfl
  simp only [Go.bits, BitVec.toNat_and]
  rw [hc, hb, ofInt_toNat _ _ hlt, Nat.and_two_pow_sub_one_eq_mod]
  have e : (((BitVec.ofInt 64 a).toNat % 2 ^ i : Nat) : Int) = a % 2 ^ i := by
    have hd : ((2 ^ i : Nat) : Int) ∣ ((2 ^ 64 : Nat) : Int) := by
      rw [Int.natCast_dvd_natCast]
      exact Nat.pow_dvd_pow 2 (by omega)
    have hq : ((2 ^ i : Nat) : Int) = 2 ^ i := Int.natCast_pow 2 i
    rw [BitVec.toNat_ofInt, Int.natCast_emod, Int.toNat_of_nonneg (Int.emod_nonneg _ (by decide)), Int.emod_emod_of_dvd _ hd, hq]
  rw [e]
  have h0 : 0 ≤ a % 2 ^ i := Int.emod_nonneg _ (by omega)
  have h1 : a % 2 ^ i < 2 ^ i := Int.emod_lt_of_pos _ hp
  have h2 : (2 : Int) ^ i ≤ 2 ^ 62 := by exact_mod_cast Nat.pow_le_pow_right (n := 2) (by decide) (show i ≤ 62 by omega)
  rw [IntKind.wrap_i64]
  omega
theorem and_mask_u32 {a : Int} (h0 : 0 ≤ a) (h1 : a < 4294967296) (i : Nat) (hi : i ≤ 32) : Go.bits .and .u32 a (2 ^ i - 1) = a % 2 ^ i :=
  bits_mask .u32 32 (by decide) (fun n a b => by rw [wrap_u32]; omega) i hi a h0 h1
theorem and_mask_u64 {a : Int} (h0 : 0 ≤ a) (h1 : a < 18446744073709551616) (i : Nat) (hi : i ≤ 64) : Go.bits .and .u64 a (2 ^ i - 1) = a % 2 ^ i :=
  bits_mask .u64 64 (by decide) (fun n a b => by rw [wrap_u64]; omega) i hi a h0 h1
theorem and_mask_u16 {a : Int} (h0 : 0 ≤ a) (h1 : a < 65536) (i : Nat) (hi : i ≤ 16) : Go.bits .and .u16 a (2 ^ i - 1) = a % 2 ^ i :=
  bits_mask .u16 16 (by decide) (fun n a b => by rw [wrap_u16]; omega) i hi a h0 h1
theorem beq_eq_decide (a b : Int) : (a == b) = decide (a = b) := by
  by_cases h : a = b <;> simp [h]
theorem andNot_nat (k : IntKind) (hk : ∀ n : Nat, n < 2 ^ k.bits → k.wrap n = n) (a b : Nat) (ha : a < 2 ^ k.bits) (hb : b < 2 ^ k.bits) : Go.bits .andNot k a b = ((a ^^^ (a &&& b) : Nat) : Int) := by
  have e : (BitVec.ofInt k.bits (a : Int) &&& ~~~(BitVec.ofInt k.bits (b : Int))) = BitVec.ofNat k.bits (a ^^^ (a &&& b)) := by
    rw [BitVec.ofInt_natCast, BitVec.ofInt_natCast]
    apply BitVec.eq_of_getLsbD_eq
    intro i hi
    simp only [BitVec.getLsbD_and, BitVec.getLsbD_not, BitVec.getLsbD_ofNat, Nat.testBit_xor, Nat.testBit_and, hi, decide_true, Bool.true_and]
    cases a.testBit i <;> cases b.testBit i <;> rfl
  have h : a ^^^ (a &&& b) < 2 ^ k.bits := Nat.xor_lt_two_pow ha (Nat.and_lt_two_pow _ hb)
  simp only [Go.bits]
  rw [e, BitVec.toNat_ofNat, Nat.mod_eq_of_lt h]
  exact hk _ h
end Go.Proofs.Ythbpcenobaloaaa.Bt
