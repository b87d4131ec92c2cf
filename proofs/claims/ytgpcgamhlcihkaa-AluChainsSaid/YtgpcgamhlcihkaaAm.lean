/- Sums, flags and products of words of 32 bits as plain numbers: no program here. -/
import Derived.Test.YtgpcgamhlcihkaaBt
namespace Go.Proofs.Ytgpcgamhlcihkaa.Am
set_option linter.unusedVariables false
set_option linter.unusedSimpArgs false
open Go.RowKit Go.Proofs.Ytgpcgamhlcihkaa.Bt

/-- A word with its sign. -/
def sg (x : Int) : Int := if x < 2147483648 then x else x - 4294967296
theorem wrap32_sg {x : Int} (h0 : 0 ≤ x) (h1 : x < 4294967296) : wrap64 (wrap32 x) = sg x := by unfold wrap64 wrap32 sg; split <;> omega

/-- Four flags. -/
structure Fl where
  n : Bool
  z : Bool
  c : Bool
  v : Bool
def fl4 (y : Int) (c v : Bool) : Fl := ⟨decide (2147483648 ≤ y), decide (y = 0), c, v⟩
/-- A sum: of words and of the same with signs, as a word, and its flags. -/
def sumN (n s : Int) (plus : Bool) : Int × Fl :=
  (n % 4294967296, fl4 (n % 4294967296) (if plus then decide (4294967296 ≤ n) else decide (0 ≤ n)) (decide (s < -2147483648 ∨ 2147483648 ≤ s)))

theorem bit31 (n : Nat) (h : n < 4294967296) : n / 2 ^ 31 = 0 ∨ n / 2 ^ 31 = 1 := by omega
theorem and_top (n m : Nat) : (n &&& m) / 2 ^ 31 = (n / 2 ^ 31) &&& (m / 2 ^ 31) := by
  have h := land_split 31 n m
  have hlt : ((n % 2 ^ 31) &&& (m % 2 ^ 31)) < 2 ^ 31 := Nat.and_lt_two_pow _ (Nat.mod_lt _ (by decide))
  rw [h, Nat.mul_add_div (by decide), Nat.div_eq_of_lt hlt]; rfl
theorem xor_top (n m : Nat) : (n ^^^ m) / 2 ^ 31 = (n / 2 ^ 31) ^^^ (m / 2 ^ 31) := by
  have h := xor_split 31 n m
  have hlt : ((n % 2 ^ 31) ^^^ (m % 2 ^ 31)) < 2 ^ 31 := Nat.xor_lt_two_pow (Nat.mod_lt _ (by decide)) (Nat.mod_lt _ (by decide))
  rw [h, Nat.mul_add_div (by decide), Nat.div_eq_of_lt hlt]; rfl
/-- The sign runs over just where both words' signs part from the sum's. -/
theorem over_eq {a b c : Int} (a0 : 0 ≤ a) (a1 : a < 4294967296) (b0 : 0 ≤ b) (b1 : b < 4294967296) (hc : c = 0 ∨ c = 1) (y : Int) (hy : y = (a + b + c) % 4294967296) :
    (Go.bits .and .u32 (Go.bits .xor .u32 a y) (Go.bits .xor .u32 b y) / 2147483648 == 1) = decide (sg a + sg b + c < -2147483648 ∨ 2147483648 ≤ sg a + sg b + c) := by
  have y0 : 0 ≤ y := by omega
  have y1 : y < 4294967296 := by omega
  obtain ⟨A, rfl⟩ := Int.eq_ofNat_of_zero_le a0
  obtain ⟨B, rfl⟩ := Int.eq_ofNat_of_zero_le b0
  obtain ⟨Y, rfl⟩ := Int.eq_ofNat_of_zero_le y0
  rw [xor_nat .u32 ws_u32 A Y (by simp only [IntKind.bits]; omega) (by simp only [IntKind.bits]; omega), xor_nat .u32 ws_u32 B Y (by simp only [IntKind.bits]; omega) (by simp only [IntKind.bits]; omega)]
  have l1 : A ^^^ Y < 2 ^ 32 := Nat.xor_lt_two_pow (by omega) (by omega)
  have l2 : B ^^^ Y < 2 ^ 32 := Nat.xor_lt_two_pow (by omega) (by omega)
  rw [and_nat .u32 ws_u32 _ _ (by simp only [IntKind.bits]; omega) (by simp only [IntKind.bits]; omega)]
  have e : (((A ^^^ Y) &&& (B ^^^ Y) : Nat) : Int) / 2147483648 = (((A / 2 ^ 31 ^^^ Y / 2 ^ 31) &&& (B / 2 ^ 31 ^^^ Y / 2 ^ 31) : Nat) : Int) := by
    rw [← xor_top, ← xor_top, ← and_top, Int.natCast_ediv]; rfl
  rw [e]
  unfold sg
  rcases bit31 A (by omega) with p | p <;> rcases bit31 B (by omega) with q | q <;> rcases bit31 Y (by omega) with r | r <;> rw [p, q, r] <;>
    (simp only [show (0 ^^^ 0 : Nat) = 0 by decide, show (0 ^^^ 1 : Nat) = 1 by decide, show (1 ^^^ 0 : Nat) = 1 by decide, show (1 ^^^ 1 : Nat) = 0 by decide, show (0 &&& 0 : Nat) = 0 by decide, show (0 &&& 1 : Nat) = 0 by decide, show (1 &&& 0 : Nat) = 0 by decide, show (1 &&& 1 : Nat) = 1 by decide]
     rw [beq_eq_decide]
     simp only [decide_eq_decide]
     constructor <;> (intro h; (repeat' split at *) <;> omega))
/-- Not a word. -/
theorem not_u32 {a : Int} (a0 : 0 ≤ a) (a1 : a < 4294967296) : Go.bits .xor .u32 IntKind.u32.max a = 4294967295 - a := by
  have hm : IntKind.u32.max = 4294967295 := by decide
  rw [hm]
  obtain ⟨A, rfl⟩ := Int.eq_ofNat_of_zero_le a0
  rw [show (4294967295 : Int) = ((4294967295 : Nat) : Int) from rfl, xor_nat .u32 ws_u32 4294967295 A (by simp only [IntKind.bits]; decide) (by simp only [IntKind.bits]; omega)]
  have : 4294967295 ^^^ A = 4294967295 - A := by
    have h : (BitVec.allOnes 32 ^^^ BitVec.ofNat 32 A) = ~~~ (BitVec.ofNat 32 A) := BitVec.allOnes_xor
    have h' := congrArg BitVec.toNat h
    rw [BitVec.toNat_xor, BitVec.toNat_not, BitVec.toNat_allOnes, BitVec.toNat_ofNat, Nat.mod_eq_of_lt (show A < 2 ^ 32 by omega)] at h'
    simpa using h'
  rw [this]
  omega
/-- a &^ b is a and not b. -/
theorem andNot_u32 {a b : Int} (a0 : 0 ≤ a) (a1 : a < 4294967296) (b0 : 0 ≤ b) (b1 : b < 4294967296) : Go.bits .andNot .u32 a b = Go.bits .and .u32 a (4294967295 - b) := by
  have e : (4294967295 - b) = ((4294967295 - b.toNat : Nat) : Int) := by omega
  obtain ⟨B, rfl⟩ := Int.eq_ofNat_of_zero_le b0
  rw [e]
  simp only [Go.bits]
  have : ~~~ (BitVec.ofInt IntKind.u32.bits (B : Int)) = BitVec.ofInt IntKind.u32.bits (((4294967295 - (B : Int).toNat : Nat)) : Int) := by
    apply BitVec.eq_of_toNat_eq
    rw [BitVec.toNat_not, ofInt_toNat _ _ (by simp only [IntKind.bits]; omega), ofInt_toNat _ _ (by simp only [IntKind.bits]; omega)]
    simp only [IntKind.bits, Int.toNat_natCast]
  rw [this]
theorem and15 (a : Int) : Go.bits .and .i64 a 15 = a % 16 := and_mask_i64 a 4 (by decide)
def logN (y : Int) (c v : Bool) : Int × Fl := (y, fl4 y c v)
/-- The sixteen operations in whole numbers. -/
def doS (c a b : Int) (fc fv sh : Bool) : Int × Fl :=
  if c = 0 ∨ c = 8 then logN (Go.bits .and .u32 a b) sh fv
  else if c = 1 ∨ c = 9 then logN (Go.bits .xor .u32 a b) sh fv
  else if c = 2 ∨ c = 10 then sumN (a - b) (sg a - sg b) false
  else if c = 3 then sumN (b - a) (sg b - sg a) false
  else if c = 4 ∨ c = 11 then sumN (a + b) (sg a + sg b) true
  else if c = 5 then sumN (a + b + (if fc then 1 else 0)) (sg a + sg b + (if fc then 1 else 0)) true
  else if c = 6 then sumN (a - b - 1 + (if fc then 1 else 0)) (sg a - sg b - 1 + (if fc then 1 else 0)) false
  else if c = 7 then sumN (b - a - 1 + (if fc then 1 else 0)) (sg b - sg a - 1 + (if fc then 1 else 0)) false
  else if c = 12 then logN (Go.bits .or .u32 a b) sh fv
  else if c = 13 then logN b sh fv
  else if c = 14 then logN (Go.bits .and .u32 a (4294967295 - b)) sh fv
  else logN (4294967295 - b) sh fv
/-- To take off is to add what is not. -/
theorem sub_eq {a b : Int} (a0 : 0 ≤ a) (a1 : a < 4294967296) (b0 : 0 ≤ b) (b1 : b < 4294967296) (ci : Int) :
    sumN (a + (4294967295 - b) + ci) (sg a + sg (4294967295 - b) + ci) true = sumN (a - b - 1 + ci) (sg a - sg b - 1 + ci) false := by
  have e1 : (a + (4294967295 - b) + ci) % 4294967296 = (a - b - 1 + ci) % 4294967296 := by omega
  have e2 : sg a + sg (4294967295 - b) + ci = sg a - sg b - 1 + ci := by unfold sg; (repeat' split) <;> omega
  have e3 : decide (4294967296 ≤ a + (4294967295 - b) + ci) = decide (0 ≤ a - b - 1 + ci) := by simp only [decide_eq_decide]; omega
  simp only [sumN, e1, e2, e3, if_true, Bool.false_eq_true, if_false]
end Go.Proofs.Ytgpcgamhlcihkaa.Am
