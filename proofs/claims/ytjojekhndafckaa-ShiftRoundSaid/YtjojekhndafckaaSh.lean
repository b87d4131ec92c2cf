/- Shifts of words of 32 bits as plain numbers: no program here. -/
import Derived.Test.YtjojekhndafckaaBt
namespace Go.Proofs.Ytjojekhndafckaa.Sh
set_option linter.unusedVariables false
set_option linter.unusedSimpArgs false
open Go.RowKit Go.Proofs.Ytjojekhndafckaa.Bt

/-- A word with its sign. -/
def sg (x : Int) : Int := if x < 2147483648 then x else x - 4294967296
theorem wrap32_sg {x : Int} (h0 : 0 ≤ x) (h1 : x < 4294967296) : wrap64 (wrap32 x) = sg x := by unfold wrap64 wrap32 sg; split <;> omega
/-- To the left by r of 32 places, round. -/
def rot (x : Int) (r : Nat) : Int := x * 2 ^ r % 4294967296 + x / 2 ^ (32 - r)

theorem rot_eq {x : Int} (h0 : 0 ≤ x) (h1 : x < 4294967296) (s : Nat) (hs : s < 32) : Go.bits .or .u32 (x * 2 ^ s % 4294967296) (x / 2 ^ (32 - s)) = rot x s := by
  obtain ⟨n, rfl⟩ := Int.eq_ofNat_of_zero_le h0
  have e1 : (n : Int) * 2 ^ s % 4294967296 = ((n * 2 ^ s % 4294967296 : Nat) : Int) := by
    rw [Int.natCast_emod, Int.natCast_mul, Int.natCast_pow]; rfl
  have e2 : (n : Int) / 2 ^ (32 - s) = ((n / 2 ^ (32 - s) : Nat) : Int) := by
    rw [Int.natCast_ediv, Int.natCast_pow]; rfl
  have hn : n < 4294967296 := by omega
  have lt2 : n / 2 ^ (32 - s) < 2 ^ s := by
    rw [Nat.div_lt_iff_lt_mul (Nat.two_pow_pos _), ← Nat.pow_add, show s + (32 - s) = 32 by omega]; exact hn
  have hp : 2 ^ s ≤ 2 ^ 32 := Nat.pow_le_pow_right (by decide) (by omega)
  unfold rot
  rw [e1, e2, or_nat .u32 ws_u32 _ _ (by simp only [IntKind.bits]; omega) (by simp only [IntKind.bits]; omega)]
  have hz : (n * 2 ^ s % 4294967296) &&& (n / 2 ^ (32 - s)) = 0 := by
    rw [land_split s]
    have a1 : n / 2 ^ (32 - s) / 2 ^ s = 0 := Nat.div_eq_of_lt lt2
    have a2 : n * 2 ^ s % 4294967296 % 2 ^ s = 0 := by
      have : 4294967296 = 2 ^ s * 2 ^ (32 - s) := by rw [← Nat.pow_add, show s + (32 - s) = 32 by omega]
      rw [this, Nat.mod_mul_right_mod]; simp
    rw [a1, a2]; simp
  rw [lor_add _ _ hz, Int.natCast_add]
theorem rot_lo {x : Int} (h0 : 0 ≤ x) (r : Nat) : 0 ≤ rot x r := by
  have h1 : 0 ≤ x / 2 ^ (32 - r) := Int.ediv_nonneg h0 (Int.le_of_lt (Int.pow_pos (by decide)))
  have h2 : 0 ≤ x * 2 ^ r % 4294967296 := Int.emod_nonneg _ (by decide)
  unfold rot
  exact Int.add_nonneg h2 h1
theorem rot_hi {x : Int} (h0 : 0 ≤ x) (h1 : x < 4294967296) (r : Nat) (hr : r < 32) : rot x r < 4294967296 := by
  rw [← rot_eq h0 h1 r hr]
  have := bounds_u32 (wf_bits .or .u32 (x * 2 ^ r % 4294967296) (x / 2 ^ (32 - r)))
  omega

theorem and3 (a : Int) : Go.bits .and .i64 a 3 = a % 4 := and_mask_i64 a 2 (by decide)
theorem and31 (a : Int) : Go.bits .and .i64 a 31 = a % 32 := and_mask_i64 a 5 (by decide)
theorem and15 (a : Int) : Go.bits .and .i64 a 15 = a % 16 := and_mask_i64 a 4 (by decide)
theorem and1s (a : Int) : Go.bits .and .i64 a 1 = a % 2 := and_mask_i64 a 1 (by decide)
theorem and255 {a : Int} (h0 : 0 ≤ a) (h1 : a < 4294967296) : Go.bits .and .u32 a 255 = a % 256 := and_mask_u32 h0 h1 8 (by decide)
theorem and31u {a : Int} (h0 : 0 ≤ a) (h1 : a < 4294967296) : Go.bits .and .u32 a 31 = a % 32 := and_mask_u32 h0 h1 5 (by decide)
theorem and1u {a : Int} (h0 : 0 ≤ a) (h1 : a < 4294967296) : Go.bits .and .u32 a 1 = a % 2 := and_mask_u32 h0 h1 1 (by decide)
theorem and31w {a : Int} (h0 : 0 ≤ a) (h1 : a < 18446744073709551616) : Go.bits .and .u64 a 31 = a % 32 := and_mask_u64 h0 h1 5 (by decide)

/-- The word that a shift of kind q by n places leaves. -/
def wd (q : Int) (x : Int) (n : Nat) : Int :=
  if q = 0 then x * 2 ^ min n 32 % 4294967296 else if q = 1 then x / 2 ^ min n 32 else if q = 2 then sg x / 2 ^ min n 32 % 4294967296 else rot x ((32 - n % 32) % 32)
/-- And its carry (n is not 0). -/
def cy (q : Int) (x : Int) (n : Nat) : Bool :=
  if q = 0 then decide (n ≤ 32 ∧ x / 2 ^ (32 - min n 32) % 2 = 1) else if q = 1 then decide (n ≤ 32 ∧ x / 2 ^ (min n 32 - 1) % 2 = 1) else if q = 2 then decide (sg x / 2 ^ (min n 32 - 1) % 2 = 1)
  else decide (rot x ((32 - n % 32) % 32) / 2147483648 = 1)
/-- A shift by a register's byte: word and carry. -/
def reg (q x : Int) (n : Nat) (c : Bool) : Int × Bool := if n = 0 then (x, c) else (wd q x n, cy q x n)
/-- One place. -/
def one (q x : Int) : Int × Bool := (wd q x 1, cy q x 1)
theorem pow2_pos (n : Nat) : (0 : Int) < 2 ^ n := Int.pow_pos (by decide)
theorem div_bound {x : Int} (h0 : 0 ≤ x) (h1 : x < 4294967296) (n : Nat) : 0 ≤ x / 2 ^ n ∧ x / 2 ^ n < 4294967296 :=
  ⟨Int.ediv_nonneg h0 (Int.le_of_lt (pow2_pos n)), Int.lt_of_le_of_lt (Int.ediv_le_self _ h0) h1⟩
theorem wd_bound {x : Int} (h0 : 0 ≤ x) (h1 : x < 4294967296) (q : Int) (n : Nat) : 0 ≤ wd q x n ∧ wd q x n < 4294967296 := by
  unfold wd
  split
  · omega
  · split
    · exact div_bound h0 h1 _
    · split
      · omega
      · exact ⟨rot_lo h0 _, rot_hi h0 h1 _ (by omega)⟩
theorem reg_bound {x : Int} (h0 : 0 ≤ x) (h1 : x < 4294967296) (q : Int) (n : Nat) (c : Bool) : 0 ≤ (reg q x n c).1 ∧ (reg q x n c).1 < 4294967296 := by
  unfold reg; split
  · exact ⟨h0, h1⟩
  · exact wd_bound h0 h1 q n
/-- By an amount of the instruction. -/
def imm (q x : Int) (m : Nat) (c : Bool) : Int × Bool :=
  if m = 0 then (if q = 0 then (x, c) else if q = 3 then ((if c then 2147483648 else 0) + x / 2, decide (x % 2 = 1)) else reg q x 32 c) else reg q x m c
theorem or_top {x : Int} (h0 : 0 ≤ x) (h1 : x < 4294967296) : Go.bits .or .u32 2147483648 (x / 2) = 2147483648 + x / 2 :=
  bits_join .u32 32 (by decide) (fun n a b => by rw [wrap_u32]; omega) 31 2147483648 (x / 2) (by decide) (by decide) (by decide) (by omega) (by omega) (by omega)
theorem or_zero {x : Int} (h0 : 0 ≤ x) (h1 : x < 4294967296) : Go.bits .or .u32 0 (x / 2) = 0 + x / 2 :=
  bits_join .u32 32 (by decide) (fun n a b => by rw [wrap_u32]; omega) 31 0 (x / 2) (by decide) (by decide) (by decide) (by omega) (by omega) (by omega)

/-! ### place by place -/
theorem thirty_two (r : Nat) (h : r < 32) : r = 0 ∨ r = 1 ∨ r = 2 ∨ r = 3 ∨ r = 4 ∨ r = 5 ∨ r = 6 ∨ r = 7 ∨ r = 8 ∨ r = 9 ∨ r = 10 ∨ r = 11 ∨ r = 12 ∨ r = 13 ∨ r = 14 ∨ r = 15 ∨ r = 16 ∨ r = 17 ∨ r = 18 ∨ r = 19 ∨ r = 20 ∨ r = 21 ∨ r = 22 ∨ r = 23 ∨ r = 24 ∨ r = 25 ∨ r = 26 ∨ r = 27 ∨ r = 28 ∨ r = 29 ∨ r = 30 ∨ r = 31 := by omega
theorem rot_split (x : Int) (s : Nat) (hs : s ≤ 32) : rot x s = x % 2 ^ (32 - s) * 2 ^ s + x / 2 ^ (32 - s) := by
  unfold rot
  have e : (4294967296 : Int) = 2 ^ (32 - s) * 2 ^ s := by rw [← Int.pow_add, show 32 - s + s = 32 by omega]; rfl
  rw [e, Int.mul_comm x, Int.mul_comm (2 ^ (32 - s)) (2 ^ s), Int.mul_emod_mul_of_pos _ _ (pow2_pos s), Int.mul_comm]
theorem rot_step {x : Int} (h0 : 0 ≤ x) (h1 : x < 4294967296) (r : Nat) (h : r < 32) : rot (rot x ((32 - r) % 32)) 31 = rot x ((32 - (r + 1) % 32) % 32) := by
  rw [rot_split _ 31 (by decide), rot_split x _ (show (32 - r) % 32 ≤ 32 by omega), rot_split x _ (show (32 - (r + 1) % 32) % 32 ≤ 32 by omega)]
  rcases thirty_two r h with rfl | rfl | rfl | rfl | rfl | rfl | rfl | rfl | rfl | rfl | rfl | rfl | rfl | rfl | rfl | rfl | rfl | rfl | rfl | rfl | rfl | rfl | rfl | rfl | rfl | rfl | rfl | rfl | rfl | rfl | rfl | rfl <;> simp only [Nat.reduceSub, Nat.reduceMod, Nat.reduceAdd, Int.reducePow] <;> omega
theorem left_carry {x : Int} (h0 : 0 ≤ x) (h1 : x < 4294967296) (r : Nat) (h : r < 32) : x * 2 ^ r % 4294967296 / 2147483648 % 2 = x / 2 ^ (31 - r) % 2 := by
  rcases thirty_two r h with rfl | rfl | rfl | rfl | rfl | rfl | rfl | rfl | rfl | rfl | rfl | rfl | rfl | rfl | rfl | rfl | rfl | rfl | rfl | rfl | rfl | rfl | rfl | rfl | rfl | rfl | rfl | rfl | rfl | rfl | rfl | rfl <;> simp only [Nat.reduceSub, Int.reducePow] <;> omega
theorem sg_div {x : Int} (h0 : 0 ≤ x) (h1 : x < 4294967296) (n : Nat) : sg (sg x / 2 ^ n % 4294967296) = sg x / 2 ^ n := by
  have p := pow2_pos n
  have hs : -2147483648 ≤ sg x ∧ sg x < 2147483648 := by unfold sg; split <;> omega
  have q : (1 : Int) ≤ 2 ^ n := p
  have a : -2147483648 ≤ sg x / 2 ^ n := by
    rw [Int.le_ediv_iff_mul_le p]
    have : (-2147483648 : Int) * 2 ^ n ≤ -2147483648 * 1 := Int.mul_le_mul_of_nonpos_left (by decide) q
    omega
  have b : sg x / 2 ^ n < 2147483648 := by
    rw [Int.ediv_lt_iff_lt_mul p]
    have : (2147483648 : Int) * 1 ≤ 2147483648 * 2 ^ n := Int.mul_le_mul_of_nonneg_left q (by decide)
    omega
  generalize sg x / 2 ^ n = y at *
  unfold sg; split <;> omega
theorem one_plain {x : Int} (h0 : 0 ≤ x) (h1 : x < 4294967296) :
    one 0 x = (x * 2 % 4294967296, decide (2147483648 ≤ x)) ∧ one 1 x = (x / 2, decide (x % 2 = 1)) ∧ (x < 2147483648 → one 2 x = (x / 2, decide (x % 2 = 1))) ∧ (2147483648 ≤ x → one 2 x = (x / 2 + 2147483648, decide (x % 2 = 1))) ∧
      one 3 x = (x / 2 + x % 2 * 2147483648, decide (x % 2 = 1)) := by
  refine ⟨?_, ?_, ?_, ?_, ?_⟩
  · simp [one, wd, cy, show min 1 32 = 1 by rfl]; omega
  · simp [one, wd, cy, show min 1 32 = 1 by rfl]
  · intro c; simp [one, wd, cy, sg, c, show min 1 32 = 1 by rfl]; omega
  · intro c; simp [one, wd, cy, sg, show ¬ x < 2147483648 by omega, show min 1 32 = 1 by rfl]; omega
  · simp only [one, wd, cy, if_neg (show ¬ (3 : Int) = 0 by decide), if_neg (show ¬ (3 : Int) = 1 by decide), if_neg (show ¬ (3 : Int) = 2 by decide), rot_split x _ (show (32 - 1 % 32) % 32 ≤ 32 by decide)]
    simp only [Nat.reduceMod, Nat.reduceSub, Int.reducePow]
    refine Prod.ext ?_ ?_
    · simp only; omega
    · simp only [decide_eq_decide]; omega
theorem div_succ (x : Int) (n : Nat) : x / 2 ^ n / 2 = x / 2 ^ (n + 1) := by
  rw [Int.pow_succ, Int.ediv_ediv_of_nonneg (Int.le_of_lt (pow2_pos n))]
theorem wd_one {x : Int} (h0 : 0 ≤ x) (h1 : x < 4294967296) (q : Int) (hq : q = 0 ∨ q = 1 ∨ q = 2 ∨ q = 3) (j : Nat) : wd q (wd q x j) 1 = wd q x (j + 1) ∧ cy q (wd q x j) 1 = cy q x (j + 1) := by
  rcases hq with rfl | rfl | rfl | rfl
  · simp only [wd, cy, if_pos]
    by_cases h : j < 32
    · rw [show min j 32 = j by omega, show min (j + 1) 32 = j + 1 by omega, show min 1 32 = 1 by rfl]
      refine ⟨by rw [Int.pow_succ 2 j, ← Int.mul_assoc, Int.pow_succ 2 0, Int.pow_zero]; generalize x * 2 ^ j = y; omega, ?_⟩
      rw [show 32 - 1 = 31 from rfl, show (2 : Int) ^ 31 = 2147483648 from rfl, left_carry h0 h1 j h, show 32 - (j + 1) = 31 - j by omega]
      simp; omega
    · rw [show min j 32 = 32 by omega, show min (j + 1) 32 = 32 by omega, show min 1 32 = 1 by rfl]
      refine ⟨by omega, ?_⟩
      simp [show ¬ j + 1 ≤ 32 by omega]
  · simp only [wd, cy, if_neg (show ¬ (1 : Int) = 0 by decide), if_pos]
    by_cases h : j < 32
    · rw [show min j 32 = j by omega, show min (j + 1) 32 = j + 1 by omega, show min 1 32 = 1 by rfl]
      refine ⟨div_succ x j, ?_⟩
      simp; omega
    · rw [show min j 32 = 32 by omega, show min (j + 1) 32 = 32 by omega, show min 1 32 = 1 by rfl]
      refine ⟨by omega, ?_⟩
      simp [show ¬ j + 1 ≤ 32 by omega]; omega
  · simp only [wd, cy, if_neg (show ¬ (2 : Int) = 0 by decide), if_neg (show ¬ (2 : Int) = 1 by decide), if_pos]
    rw [sg_div h0 h1]
    by_cases h : j < 32
    · rw [show min j 32 = j by omega, show min (j + 1) 32 = j + 1 by omega, show min 1 32 = 1 by rfl]
      refine ⟨by rw [← div_succ (sg x) j, show (2 : Int) ^ 1 = 2 from rfl], ?_⟩
      simp
    · rw [show min j 32 = 32 by omega, show min (j + 1) 32 = 32 by omega, show min 1 32 = 1 by rfl]
      have hs : -2147483648 ≤ sg x ∧ sg x < 2147483648 := by unfold sg; split <;> omega
      refine ⟨by omega, ?_⟩
      have : sg x / 2 ^ 32 / 2 ^ (1 - 1) % 2 = sg x / 2 ^ (32 - 1) % 2 := by simp only [Nat.reduceSub, Int.reducePow]; omega
      rw [this]
  · simp only [wd, cy, if_neg (show ¬ (3 : Int) = 0 by decide), if_neg (show ¬ (3 : Int) = 1 by decide), if_neg (show ¬ (3 : Int) = 2 by decide)]
    have e : rot (rot x ((32 - j % 32) % 32)) ((32 - 1 % 32) % 32) = rot x ((32 - (j + 1) % 32) % 32) := by
      have := rot_step h0 h1 (j % 32) (by omega)
      rw [show (32 - 1 % 32) % 32 = 31 from rfl, this, show (j % 32 + 1) % 32 = (j + 1) % 32 by omega]
    exact ⟨e, by rw [e]⟩
/-- One place more is one place again. -/
theorem reg_succ {x : Int} (h0 : 0 ≤ x) (h1 : x < 4294967296) (q : Int) (hq : q = 0 ∨ q = 1 ∨ q = 2 ∨ q = 3) (j : Nat) (c : Bool) : reg q x (j + 1) c = one q (reg q x j c).1 := by
  unfold one
  by_cases h : j = 0
  · subst h; rfl
  · have : (reg q x j c).1 = wd q x j := by unfold reg; rw [if_neg h]
    obtain ⟨a, b⟩ := wd_one h0 h1 q hq j
    rw [this, a, b]
    unfold reg; rw [if_neg (by omega)]

theorem rot_zero {x : Int} (h0 : 0 ≤ x) (h1 : x < 4294967296) : rot x 0 = x := by unfold rot; simp only [Int.pow_zero, Nat.sub_zero, Int.reducePow]; omega
theorem rot_back {x : Int} (h0 : 0 ≤ x) (h1 : x < 4294967296) (r : Nat) (h : r < 32) : rot (rot x ((32 - r) % 32)) r = x := by
  rw [rot_split _ r (by omega), rot_split x _ (show (32 - r) % 32 ≤ 32 by omega)]
  rcases thirty_two r h with rfl | rfl | rfl | rfl | rfl | rfl | rfl | rfl | rfl | rfl | rfl | rfl | rfl | rfl | rfl | rfl | rfl | rfl | rfl | rfl | rfl | rfl | rfl | rfl | rfl | rfl | rfl | rfl | rfl | rfl | rfl | rfl <;> simp only [Nat.reduceSub, Nat.reduceMod, Int.reducePow] <;> omega
theorem round_back {x : Int} (h0 : 0 ≤ x) (h1 : x < 4294967296) (m : Nat) (hm : m < 32) : reg 3 (reg 3 x m false).1 ((32 - m) % 32) false = (x, (reg 3 (reg 3 x m false).1 ((32 - m) % 32) false).2) := by
  refine Prod.ext ?_ rfl
  by_cases z : m = 0
  · subst z; rfl
  · have e : (reg 3 x m false).1 = rot x ((32 - m) % 32) := by simp [reg, wd, z, show m % 32 = m by omega]
    rw [e]
    simp only [reg, show ¬ (32 - m) % 32 = 0 by omega, if_false, wd, show ¬ (3 : Int) = 0 by decide, show ¬ (3 : Int) = 1 by decide, show ¬ (3 : Int) = 2 by decide]
    rw [show (32 - (32 - m) % 32 % 32) % 32 = m by omega]
    exact rot_back h0 h1 m hm
theorem round_more {x : Int} (h0 : 0 ≤ x) (h1 : x < 4294967296) (m : Nat) (hm : m < 32) : (reg 3 x (m + 32) false).1 = (reg 3 x m false).1 := by
  by_cases z : m = 0
  · subst z; simp only [reg, wd]; exact rot_zero h0 h1
  · simp only [reg, z, show ¬ m + 32 = 0 by omega, if_false, wd, show ¬ (3 : Int) = 0 by decide, show ¬ (3 : Int) = 1 by decide, show ¬ (3 : Int) = 2 by decide]
    rw [show (m + 32) % 32 = m % 32 by omega]
theorem left_right {x : Int} (h0 : 0 ≤ x) (h1 : x < 4294967296) (m : Nat) (hm : m < 32) : (reg 1 (reg 0 x m false).1 m false).1 = x % 2 ^ (32 - m) := by
  by_cases z : m = 0
  · subst z; simp only [reg, if_true]; simp only [Nat.sub_zero, Int.reducePow]; omega
  · simp only [reg, z, if_false, wd, if_true, show ¬ (1 : Int) = 0 by decide, show min m 32 = m by omega]
    have e : (4294967296 : Int) = 2 ^ m * 2 ^ (32 - m) := by rw [← Int.pow_add, show m + (32 - m) = 32 by omega]; rfl
    rw [e, Int.mul_comm x, Int.mul_emod_mul_of_pos _ _ (pow2_pos m), Int.mul_ediv_cancel_left _ (Int.ne_of_gt (pow2_pos m))]
end Go.Proofs.Ytjojekhndafckaa.Sh
