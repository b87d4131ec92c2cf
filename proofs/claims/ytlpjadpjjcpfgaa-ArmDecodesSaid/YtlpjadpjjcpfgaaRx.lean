/- The document's patterns of ARM words, plain: what each says is what decP says. No program here. -/
import Derived.Test.YtlpjadpjjcpfgaaBt
import Derived.Test.YtlpjadpjjcpfgaaRp
namespace Go.Proofs.Ytlpjadpjjcpfgaa.Rx
set_option linter.unusedVariables false
set_option linter.unusedSimpArgs false
open Go.RowKit Go.Proofs.Ytlpjadpjjcpfgaa.Bt Go.Proofs.Ytlpjadpjjcpfgaa.Rp
/-- A bit of a word, 0 or 1. -/
def bt (w : Int) (i : Nat) : Int := w / 2 ^ i % 2
/-- Has a word a pattern's bits? -/
def fitsL : List UInt8 → Int → Bool
  | [], _ => true
  | c :: r, w => if c = 48 then bt w r.length == 0 && fitsL r w else if c = 49 then bt w r.length == 1 && fitsL r w else fitsL r w
/-- The number of a letter's bits. -/
def fieldL (w : Int) (l : UInt8) : List UInt8 → Int → Int
  | [], a => a
  | c :: r, a => fieldL w l r (if c = l then 2 * a + bt w r.length else a)
def F (p : List UInt8) (w : Int) (l : UInt8) : Int := fieldL w l p 0
def flag (p : List UInt8) (w : Int) (l : UInt8) : Bool := F p w l == 1

/-- The fields that mean the same everywhere. -/
def commonP (k : Int) (p : List UInt8) (w : Int) : Ins := ⟨k, (F p w 99), 0, (flag p w 70), (F p w 100), (F p w 110), (F p w 115), (F p w 109), (F p w 73), false, (F p w 116), (F p w 97), false, (flag p w 76), (flag p w 66), (flag p w 83), (flag p w 80), (flag p w 85), false, (flag p w 81), (F p w 108), (flag p w 75), (flag p w 65), false⟩
/-- What a pattern that fits says; none: it goes on with the next. -/
def stepP (k : Int) (p : List UInt8) (w : Int) : Option Ins :=
  let x := commonP k p w
  if k = 6 then
    let x := { x with back := flag p w 87 || !x.pre, hasImm := p[9]? == some 49, load := p[11]? == some 49, code := 1 }
    if x.load then (if F p w 72 = 0 then none else some { x with code := F p w 72 }) else some x
  else if k = 7 then some { x with back := flag p w 87 || !x.pre, hasImm := p[6]? == some 48 }
  else if k = 8 then some { x with back := flag p w 87 }
  else if k = 1 then (if 8 ≤ F p w 111 ∧ F p w 111 ≤ 11 ∧ x.flags = false then none else some { x with code := F p w 111, hasImm := p[6]? == some 49, byReg := p[27]? == some 49 })
  else if k = 12 then some { x with hasImm := p[6]? == some 49 }
  else if k = 9 then some { x with imm := (if 8388608 ≤ x.imm then (x.imm - 16777216) % 4294967296 else x.imm) * 4 % 4294967296 }
  else some x
def refP (w : Int) : List (Int × List UInt8) → Ins
  | [] => none_ (w / 268435456)
  | (k, p) :: r => if fitsL p w then (match stepP k p w with | some x => x | none => refP w r) else refP w r
theorem refP_eq (w : Int) (h0 : 0 ≤ w) (h1 : w < 4294967296) : ∀ (l : List (Int × List UInt8)), (∀ q, q ∈ l → fitsL q.2 w = true → ∀ x, stepP q.1 q.2 w = some x → x = decP w) → (decP w = none_ (w / 268435456) ∨ ∃ q, q ∈ l ∧ fitsL q.2 w = true ∧ (stepP q.1 q.2 w).isSome = true) → refP w l = decP w
  | [], _, hc => by
    rcases hc with h | ⟨q, hq, _⟩
    · exact h.symm
    · cases hq
  | (k, p) :: r, hs, hc => by
    unfold refP
    have ih := fun hc => refP_eq w h0 h1 r (fun q hq => hs q (List.mem_cons_of_mem _ hq)) hc
    by_cases hf : fitsL p w = true
    · rw [if_pos hf]
      cases hst : stepP k p w with
      | some x => exact hs (k, p) List.mem_cons_self hf x hst
      | none =>
        refine ih ?_
        rcases hc with h | ⟨q, hq, hqf, hqs⟩
        · exact .inl h
        · rcases List.mem_cons.1 hq with rfl | hq
          · rw [hst] at hqs; cases hqs
          · exact .inr ⟨q, hq, hqf, hqs⟩
    · rw [if_neg hf]
      refine ih ?_
      rcases hc with h | ⟨q, hq, hqf, hqs⟩
      · exact .inl h
      · rcases List.mem_cons.1 hq with rfl | hq
        · exact absurd hqf hf
        · exact .inr ⟨q, hq, hqf, hqs⟩
/-! ### bits and fields -/
theorem bt01 (w : Int) (i : Nat) : 0 ≤ bt w i ∧ bt w i < 2 := ⟨Int.emod_nonneg _ (by decide), Int.emod_lt_of_pos _ (by decide)⟩
theorem tb_bt (w : Int) (i : Nat) : tb w i = (bt w i == 1) := rfl
/-- One bit more, from below. -/
theorem fl_more (w : Int) (i n : Nat) : 2 * fl w (i + 1) n + bt w i = fl w i (n + 1) := by
  unfold fl bt
  have pi : (0 : Int) < 2 ^ i := Int.pow_pos (by decide)
  have pn : (0 : Int) < 2 ^ n := Int.pow_pos (by decide)
  rw [Int.pow_succ, Int.pow_succ, ← Int.ediv_ediv_of_nonneg (Int.le_of_lt pi)]
  generalize w / 2 ^ i = a
  generalize (2 : Int) ^ n = b at *
  rw [Int.mul_comm b 2]
  have e := Int.emod_emod_of_dvd a (Int.dvd_mul_right 2 b)
  have h1 := Int.emod_add_mul_ediv a 2
  have h2 := Int.emod_add_mul_ediv (a / 2) b
  have b1 := Int.emod_nonneg (a / 2) (Int.ne_of_gt pn)
  have b2 := Int.emod_lt_of_pos (a / 2) pn
  have r0 : 0 ≤ 2 * (a / 2 % b) + a % 2 := by omega
  have r1 : 2 * (a / 2 % b) + a % 2 < 2 * b := by omega
  have q : a = 2 * (a / 2 % b) + a % 2 + 2 * b * (a / 2 / b) := by
    rw [Int.mul_assoc]; omega
  conv => rhs; rw [q]
  rw [Int.add_mul_emod_self_left, Int.emod_eq_of_lt r0 r1]
theorem fl_one (w : Int) (i : Nat) : 2 * 0 + bt w i = fl w i 1 := by
  unfold fl bt; simp

theorem fl2 (w : Int) (i : Nat) : fl w i 2 = 2 * bt w (i + 1) + bt w i := by
  rw [← fl_more, ← fl_one]; omega
theorem fl3 (w : Int) (i : Nat) : fl w i 3 = 4 * bt w (i + 2) + 2 * bt w (i + 1) + bt w i := by
  rw [← fl_more, fl2]; simp only [Nat.add_assoc, Nat.reduceAdd]; omega
theorem fl4 (w : Int) (i : Nat) : fl w i 4 = 8 * bt w (i + 3) + 4 * bt w (i + 2) + 2 * bt w (i + 1) + bt w i := by
  rw [← fl_more, fl3]; simp only [Nat.add_assoc, Nat.reduceAdd]; omega
theorem fl5 (w : Int) (i : Nat) : fl w i 5 = 16 * bt w (i + 4) + 8 * bt w (i + 3) + 4 * bt w (i + 2) + 2 * bt w (i + 1) + bt w i := by
  rw [← fl_more, fl4]; simp only [Nat.add_assoc, Nat.reduceAdd]; omega
theorem fl6 (w : Int) (i : Nat) : fl w i 6 = 32 * bt w (i + 5) + 16 * bt w (i + 4) + 8 * bt w (i + 3) + 4 * bt w (i + 2) + 2 * bt w (i + 1) + bt w i := by
  rw [← fl_more, fl5]; simp only [Nat.add_assoc, Nat.reduceAdd]; omega
theorem tb1 {w : Int} {i : Nat} (h : bt w i = 1) : tb w i = true := by rw [tb_bt, h]; rfl
theorem tb0 {w : Int} {i : Nat} (h : bt w i = 0) : tb w i = false := by rw [tb_bt, h]; rfl
theorem bt1 {w : Int} {i : Nat} (h : tb w i = true) : bt w i = 1 := by rw [tb_bt] at h; simpa using h
theorem bt0 {w : Int} {i : Nat} (h : tb w i = false) : bt w i = 0 := by
  rw [tb_bt] at h; have := bt01 w i; simp at h; omega
theorem flag1 (w : Int) (i : Nat) : (2 * 0 + bt w i == 1) = tb w i := by rw [tb_bt]; simp

def p0 : List UInt8 := [99, 99, 99, 99, 48, 48, 48, 48, 48, 48, 65, 70, 100, 100, 100, 100, 110, 110, 110, 110, 115, 115, 115, 115, 49, 48, 48, 49, 109, 109, 109, 109]
def p1 : List UInt8 := [99, 99, 99, 99, 48, 48, 48, 48, 49, 83, 65, 70, 100, 100, 100, 100, 110, 110, 110, 110, 115, 115, 115, 115, 49, 48, 48, 49, 109, 109, 109, 109]
def p2 : List UInt8 := [99, 99, 99, 99, 48, 48, 48, 49, 48, 66, 48, 48, 110, 110, 110, 110, 100, 100, 100, 100, 48, 48, 48, 48, 49, 48, 48, 49, 109, 109, 109, 109]
def p3 : List UInt8 := [99, 99, 99, 99, 48, 48, 48, 80, 85, 48, 87, 49, 110, 110, 110, 110, 100, 100, 100, 100, 46, 46, 46, 46, 49, 72, 72, 49, 109, 109, 109, 109]
def p4 : List UInt8 := [99, 99, 99, 99, 48, 48, 48, 80, 85, 48, 87, 48, 110, 110, 110, 110, 100, 100, 100, 100, 46, 46, 46, 46, 49, 48, 49, 49, 109, 109, 109, 109]
def p5 : List UInt8 := [99, 99, 99, 99, 48, 48, 48, 80, 85, 49, 87, 49, 110, 110, 110, 110, 100, 100, 100, 100, 73, 73, 73, 73, 49, 72, 72, 49, 73, 73, 73, 73]
def p6 : List UInt8 := [99, 99, 99, 99, 48, 48, 48, 80, 85, 49, 87, 48, 110, 110, 110, 110, 100, 100, 100, 100, 73, 73, 73, 73, 49, 48, 49, 49, 73, 73, 73, 73]
def p7 : List UInt8 := [99, 99, 99, 99, 48, 48, 48, 49, 48, 48, 49, 48, 49, 49, 49, 49, 49, 49, 49, 49, 49, 49, 49, 49, 48, 48, 48, 49, 109, 109, 109, 109]
def p8 : List UInt8 := [99, 99, 99, 99, 48, 48, 48, 49, 48, 81, 48, 48, 49, 49, 49, 49, 100, 100, 100, 100, 48, 48, 48, 48, 48, 48, 48, 48, 48, 48, 48, 48]
def p9 : List UInt8 := [99, 99, 99, 99, 48, 48, 48, 49, 48, 81, 49, 48, 108, 108, 108, 108, 49, 49, 49, 49, 48, 48, 48, 48, 48, 48, 48, 48, 109, 109, 109, 109]
def p10 : List UInt8 := [99, 99, 99, 99, 48, 48, 49, 49, 48, 81, 49, 48, 108, 108, 108, 108, 49, 49, 49, 49, 97, 97, 97, 97, 73, 73, 73, 73, 73, 73, 73, 73]
def p11 : List UInt8 := [99, 99, 99, 99, 48, 48, 48, 111, 111, 111, 111, 70, 110, 110, 110, 110, 100, 100, 100, 100, 97, 97, 97, 97, 97, 116, 116, 48, 109, 109, 109, 109]
def p12 : List UInt8 := [99, 99, 99, 99, 48, 48, 48, 111, 111, 111, 111, 70, 110, 110, 110, 110, 100, 100, 100, 100, 115, 115, 115, 115, 48, 116, 116, 49, 109, 109, 109, 109]
def p13 : List UInt8 := [99, 99, 99, 99, 48, 48, 49, 111, 111, 111, 111, 70, 110, 110, 110, 110, 100, 100, 100, 100, 97, 97, 97, 97, 73, 73, 73, 73, 73, 73, 73, 73]
def p14 : List UInt8 := [99, 99, 99, 99, 48, 49, 48, 80, 85, 66, 87, 76, 110, 110, 110, 110, 100, 100, 100, 100, 73, 73, 73, 73, 73, 73, 73, 73, 73, 73, 73, 73]
def p15 : List UInt8 := [99, 99, 99, 99, 48, 49, 49, 80, 85, 66, 87, 76, 110, 110, 110, 110, 100, 100, 100, 100, 97, 97, 97, 97, 97, 116, 116, 48, 109, 109, 109, 109]
def p16 : List UInt8 := [99, 99, 99, 99, 49, 48, 48, 80, 85, 81, 87, 76, 110, 110, 110, 110, 108, 108, 108, 108, 108, 108, 108, 108, 108, 108, 108, 108, 108, 108, 108, 108]
def p17 : List UInt8 := [99, 99, 99, 99, 49, 48, 49, 75, 73, 73, 73, 73, 73, 73, 73, 73, 73, 73, 73, 73, 73, 73, 73, 73, 73, 73, 73, 73, 73, 73, 73, 73]
def p18 : List UInt8 := [99, 99, 99, 99, 49, 49, 49, 49, 73, 73, 73, 73, 73, 73, 73, 73, 46, 46, 46, 46, 46, 46, 46, 46, 46, 46, 46, 46, 46, 46, 46, 46]
theorem fit0 (w : Int) : fitsL p0 w = true ↔ (bt w 27 = 0 ∧ bt w 26 = 0 ∧ bt w 25 = 0 ∧ bt w 24 = 0 ∧ bt w 23 = 0 ∧ bt w 22 = 0 ∧ bt w 7 = 1 ∧ bt w 6 = 0 ∧ bt w 5 = 0 ∧ bt w 4 = 1) := by
  simp [p0, fitsL]
theorem f0_99 (w : Int) : F p0 w 99 = fl w 28 4 := by
  show 2 * (2 * (2 * (2 * 0 + bt w 31) + bt w 30) + bt w 29) + bt w 28 = _
  rw [fl_one w 31, fl_more w 30 1, fl_more w 29 2, fl_more w 28 3]
theorem f0_65 (w : Int) : F p0 w 65 = fl w 21 1 := by
  show 2 * 0 + bt w 21 = _
  rw [fl_one w 21]
theorem g0_65 (w : Int) : flag p0 w 65 = tb w 21 := by
  show (2 * 0 + bt w 21 == 1) = _
  exact flag1 w 21
theorem f0_70 (w : Int) : F p0 w 70 = fl w 20 1 := by
  show 2 * 0 + bt w 20 = _
  rw [fl_one w 20]
theorem g0_70 (w : Int) : flag p0 w 70 = tb w 20 := by
  show (2 * 0 + bt w 20 == 1) = _
  exact flag1 w 20
theorem f0_100 (w : Int) : F p0 w 100 = fl w 16 4 := by
  show 2 * (2 * (2 * (2 * 0 + bt w 19) + bt w 18) + bt w 17) + bt w 16 = _
  rw [fl_one w 19, fl_more w 18 1, fl_more w 17 2, fl_more w 16 3]
theorem f0_110 (w : Int) : F p0 w 110 = fl w 12 4 := by
  show 2 * (2 * (2 * (2 * 0 + bt w 15) + bt w 14) + bt w 13) + bt w 12 = _
  rw [fl_one w 15, fl_more w 14 1, fl_more w 13 2, fl_more w 12 3]
theorem f0_115 (w : Int) : F p0 w 115 = fl w 8 4 := by
  show 2 * (2 * (2 * (2 * 0 + bt w 11) + bt w 10) + bt w 9) + bt w 8 = _
  rw [fl_one w 11, fl_more w 10 1, fl_more w 9 2, fl_more w 8 3]
theorem f0_109 (w : Int) : F p0 w 109 = fl w 0 4 := by
  show 2 * (2 * (2 * (2 * 0 + bt w 3) + bt w 2) + bt w 1) + bt w 0 = _
  rw [fl_one w 3, fl_more w 2 1, fl_more w 1 2, fl_more w 0 3]
theorem fit1 (w : Int) : fitsL p1 w = true ↔ (bt w 27 = 0 ∧ bt w 26 = 0 ∧ bt w 25 = 0 ∧ bt w 24 = 0 ∧ bt w 23 = 1 ∧ bt w 7 = 1 ∧ bt w 6 = 0 ∧ bt w 5 = 0 ∧ bt w 4 = 1) := by
  simp [p1, fitsL]
theorem f1_99 (w : Int) : F p1 w 99 = fl w 28 4 := by
  show 2 * (2 * (2 * (2 * 0 + bt w 31) + bt w 30) + bt w 29) + bt w 28 = _
  rw [fl_one w 31, fl_more w 30 1, fl_more w 29 2, fl_more w 28 3]
theorem f1_83 (w : Int) : F p1 w 83 = fl w 22 1 := by
  show 2 * 0 + bt w 22 = _
  rw [fl_one w 22]
theorem g1_83 (w : Int) : flag p1 w 83 = tb w 22 := by
  show (2 * 0 + bt w 22 == 1) = _
  exact flag1 w 22
theorem f1_65 (w : Int) : F p1 w 65 = fl w 21 1 := by
  show 2 * 0 + bt w 21 = _
  rw [fl_one w 21]
theorem g1_65 (w : Int) : flag p1 w 65 = tb w 21 := by
  show (2 * 0 + bt w 21 == 1) = _
  exact flag1 w 21
theorem f1_70 (w : Int) : F p1 w 70 = fl w 20 1 := by
  show 2 * 0 + bt w 20 = _
  rw [fl_one w 20]
theorem g1_70 (w : Int) : flag p1 w 70 = tb w 20 := by
  show (2 * 0 + bt w 20 == 1) = _
  exact flag1 w 20
theorem f1_100 (w : Int) : F p1 w 100 = fl w 16 4 := by
  show 2 * (2 * (2 * (2 * 0 + bt w 19) + bt w 18) + bt w 17) + bt w 16 = _
  rw [fl_one w 19, fl_more w 18 1, fl_more w 17 2, fl_more w 16 3]
theorem f1_110 (w : Int) : F p1 w 110 = fl w 12 4 := by
  show 2 * (2 * (2 * (2 * 0 + bt w 15) + bt w 14) + bt w 13) + bt w 12 = _
  rw [fl_one w 15, fl_more w 14 1, fl_more w 13 2, fl_more w 12 3]
theorem f1_115 (w : Int) : F p1 w 115 = fl w 8 4 := by
  show 2 * (2 * (2 * (2 * 0 + bt w 11) + bt w 10) + bt w 9) + bt w 8 = _
  rw [fl_one w 11, fl_more w 10 1, fl_more w 9 2, fl_more w 8 3]
theorem f1_109 (w : Int) : F p1 w 109 = fl w 0 4 := by
  show 2 * (2 * (2 * (2 * 0 + bt w 3) + bt w 2) + bt w 1) + bt w 0 = _
  rw [fl_one w 3, fl_more w 2 1, fl_more w 1 2, fl_more w 0 3]
theorem fit2 (w : Int) : fitsL p2 w = true ↔ (bt w 27 = 0 ∧ bt w 26 = 0 ∧ bt w 25 = 0 ∧ bt w 24 = 1 ∧ bt w 23 = 0 ∧ bt w 21 = 0 ∧ bt w 20 = 0 ∧ bt w 11 = 0 ∧ bt w 10 = 0 ∧ bt w 9 = 0 ∧ bt w 8 = 0 ∧ bt w 7 = 1 ∧ bt w 6 = 0 ∧ bt w 5 = 0 ∧ bt w 4 = 1) := by
  simp [p2, fitsL]
theorem f2_99 (w : Int) : F p2 w 99 = fl w 28 4 := by
  show 2 * (2 * (2 * (2 * 0 + bt w 31) + bt w 30) + bt w 29) + bt w 28 = _
  rw [fl_one w 31, fl_more w 30 1, fl_more w 29 2, fl_more w 28 3]
theorem f2_66 (w : Int) : F p2 w 66 = fl w 22 1 := by
  show 2 * 0 + bt w 22 = _
  rw [fl_one w 22]
theorem g2_66 (w : Int) : flag p2 w 66 = tb w 22 := by
  show (2 * 0 + bt w 22 == 1) = _
  exact flag1 w 22
theorem f2_110 (w : Int) : F p2 w 110 = fl w 16 4 := by
  show 2 * (2 * (2 * (2 * 0 + bt w 19) + bt w 18) + bt w 17) + bt w 16 = _
  rw [fl_one w 19, fl_more w 18 1, fl_more w 17 2, fl_more w 16 3]
theorem f2_100 (w : Int) : F p2 w 100 = fl w 12 4 := by
  show 2 * (2 * (2 * (2 * 0 + bt w 15) + bt w 14) + bt w 13) + bt w 12 = _
  rw [fl_one w 15, fl_more w 14 1, fl_more w 13 2, fl_more w 12 3]
theorem f2_109 (w : Int) : F p2 w 109 = fl w 0 4 := by
  show 2 * (2 * (2 * (2 * 0 + bt w 3) + bt w 2) + bt w 1) + bt w 0 = _
  rw [fl_one w 3, fl_more w 2 1, fl_more w 1 2, fl_more w 0 3]
theorem fit3 (w : Int) : fitsL p3 w = true ↔ (bt w 27 = 0 ∧ bt w 26 = 0 ∧ bt w 25 = 0 ∧ bt w 22 = 0 ∧ bt w 20 = 1 ∧ bt w 7 = 1 ∧ bt w 4 = 1) := by
  simp [p3, fitsL]
theorem f3_99 (w : Int) : F p3 w 99 = fl w 28 4 := by
  show 2 * (2 * (2 * (2 * 0 + bt w 31) + bt w 30) + bt w 29) + bt w 28 = _
  rw [fl_one w 31, fl_more w 30 1, fl_more w 29 2, fl_more w 28 3]
theorem f3_80 (w : Int) : F p3 w 80 = fl w 24 1 := by
  show 2 * 0 + bt w 24 = _
  rw [fl_one w 24]
theorem g3_80 (w : Int) : flag p3 w 80 = tb w 24 := by
  show (2 * 0 + bt w 24 == 1) = _
  exact flag1 w 24
theorem f3_85 (w : Int) : F p3 w 85 = fl w 23 1 := by
  show 2 * 0 + bt w 23 = _
  rw [fl_one w 23]
theorem g3_85 (w : Int) : flag p3 w 85 = tb w 23 := by
  show (2 * 0 + bt w 23 == 1) = _
  exact flag1 w 23
theorem f3_87 (w : Int) : F p3 w 87 = fl w 21 1 := by
  show 2 * 0 + bt w 21 = _
  rw [fl_one w 21]
theorem g3_87 (w : Int) : flag p3 w 87 = tb w 21 := by
  show (2 * 0 + bt w 21 == 1) = _
  exact flag1 w 21
theorem f3_110 (w : Int) : F p3 w 110 = fl w 16 4 := by
  show 2 * (2 * (2 * (2 * 0 + bt w 19) + bt w 18) + bt w 17) + bt w 16 = _
  rw [fl_one w 19, fl_more w 18 1, fl_more w 17 2, fl_more w 16 3]
theorem f3_100 (w : Int) : F p3 w 100 = fl w 12 4 := by
  show 2 * (2 * (2 * (2 * 0 + bt w 15) + bt w 14) + bt w 13) + bt w 12 = _
  rw [fl_one w 15, fl_more w 14 1, fl_more w 13 2, fl_more w 12 3]
theorem f3_72 (w : Int) : F p3 w 72 = fl w 5 2 := by
  show 2 * (2 * 0 + bt w 6) + bt w 5 = _
  rw [fl_one w 6, fl_more w 5 1]
theorem f3_109 (w : Int) : F p3 w 109 = fl w 0 4 := by
  show 2 * (2 * (2 * (2 * 0 + bt w 3) + bt w 2) + bt w 1) + bt w 0 = _
  rw [fl_one w 3, fl_more w 2 1, fl_more w 1 2, fl_more w 0 3]
theorem fit4 (w : Int) : fitsL p4 w = true ↔ (bt w 27 = 0 ∧ bt w 26 = 0 ∧ bt w 25 = 0 ∧ bt w 22 = 0 ∧ bt w 20 = 0 ∧ bt w 7 = 1 ∧ bt w 6 = 0 ∧ bt w 5 = 1 ∧ bt w 4 = 1) := by
  simp [p4, fitsL]
theorem f4_99 (w : Int) : F p4 w 99 = fl w 28 4 := by
  show 2 * (2 * (2 * (2 * 0 + bt w 31) + bt w 30) + bt w 29) + bt w 28 = _
  rw [fl_one w 31, fl_more w 30 1, fl_more w 29 2, fl_more w 28 3]
theorem f4_80 (w : Int) : F p4 w 80 = fl w 24 1 := by
  show 2 * 0 + bt w 24 = _
  rw [fl_one w 24]
theorem g4_80 (w : Int) : flag p4 w 80 = tb w 24 := by
  show (2 * 0 + bt w 24 == 1) = _
  exact flag1 w 24
theorem f4_85 (w : Int) : F p4 w 85 = fl w 23 1 := by
  show 2 * 0 + bt w 23 = _
  rw [fl_one w 23]
theorem g4_85 (w : Int) : flag p4 w 85 = tb w 23 := by
  show (2 * 0 + bt w 23 == 1) = _
  exact flag1 w 23
theorem f4_87 (w : Int) : F p4 w 87 = fl w 21 1 := by
  show 2 * 0 + bt w 21 = _
  rw [fl_one w 21]
theorem g4_87 (w : Int) : flag p4 w 87 = tb w 21 := by
  show (2 * 0 + bt w 21 == 1) = _
  exact flag1 w 21
theorem f4_110 (w : Int) : F p4 w 110 = fl w 16 4 := by
  show 2 * (2 * (2 * (2 * 0 + bt w 19) + bt w 18) + bt w 17) + bt w 16 = _
  rw [fl_one w 19, fl_more w 18 1, fl_more w 17 2, fl_more w 16 3]
theorem f4_100 (w : Int) : F p4 w 100 = fl w 12 4 := by
  show 2 * (2 * (2 * (2 * 0 + bt w 15) + bt w 14) + bt w 13) + bt w 12 = _
  rw [fl_one w 15, fl_more w 14 1, fl_more w 13 2, fl_more w 12 3]
theorem f4_109 (w : Int) : F p4 w 109 = fl w 0 4 := by
  show 2 * (2 * (2 * (2 * 0 + bt w 3) + bt w 2) + bt w 1) + bt w 0 = _
  rw [fl_one w 3, fl_more w 2 1, fl_more w 1 2, fl_more w 0 3]
theorem fit5 (w : Int) : fitsL p5 w = true ↔ (bt w 27 = 0 ∧ bt w 26 = 0 ∧ bt w 25 = 0 ∧ bt w 22 = 1 ∧ bt w 20 = 1 ∧ bt w 7 = 1 ∧ bt w 4 = 1) := by
  simp [p5, fitsL]
theorem f5_99 (w : Int) : F p5 w 99 = fl w 28 4 := by
  show 2 * (2 * (2 * (2 * 0 + bt w 31) + bt w 30) + bt w 29) + bt w 28 = _
  rw [fl_one w 31, fl_more w 30 1, fl_more w 29 2, fl_more w 28 3]
theorem f5_80 (w : Int) : F p5 w 80 = fl w 24 1 := by
  show 2 * 0 + bt w 24 = _
  rw [fl_one w 24]
theorem g5_80 (w : Int) : flag p5 w 80 = tb w 24 := by
  show (2 * 0 + bt w 24 == 1) = _
  exact flag1 w 24
theorem f5_85 (w : Int) : F p5 w 85 = fl w 23 1 := by
  show 2 * 0 + bt w 23 = _
  rw [fl_one w 23]
theorem g5_85 (w : Int) : flag p5 w 85 = tb w 23 := by
  show (2 * 0 + bt w 23 == 1) = _
  exact flag1 w 23
theorem f5_87 (w : Int) : F p5 w 87 = fl w 21 1 := by
  show 2 * 0 + bt w 21 = _
  rw [fl_one w 21]
theorem g5_87 (w : Int) : flag p5 w 87 = tb w 21 := by
  show (2 * 0 + bt w 21 == 1) = _
  exact flag1 w 21
theorem f5_110 (w : Int) : F p5 w 110 = fl w 16 4 := by
  show 2 * (2 * (2 * (2 * 0 + bt w 19) + bt w 18) + bt w 17) + bt w 16 = _
  rw [fl_one w 19, fl_more w 18 1, fl_more w 17 2, fl_more w 16 3]
theorem f5_100 (w : Int) : F p5 w 100 = fl w 12 4 := by
  show 2 * (2 * (2 * (2 * 0 + bt w 15) + bt w 14) + bt w 13) + bt w 12 = _
  rw [fl_one w 15, fl_more w 14 1, fl_more w 13 2, fl_more w 12 3]
theorem f5_73 (w : Int) : F p5 w 73 = 16 * fl w 8 4 + fl w 0 4 := by
  show 2 * (2 * (2 * (2 * (2 * (2 * (2 * (2 * 0 + bt w 11) + bt w 10) + bt w 9) + bt w 8) + bt w 3) + bt w 2) + bt w 1) + bt w 0 = _
  rw [fl4 w 8, fl4 w 0]; simp only [Nat.reduceAdd]; omega
theorem f5_72 (w : Int) : F p5 w 72 = fl w 5 2 := by
  show 2 * (2 * 0 + bt w 6) + bt w 5 = _
  rw [fl_one w 6, fl_more w 5 1]
theorem fit6 (w : Int) : fitsL p6 w = true ↔ (bt w 27 = 0 ∧ bt w 26 = 0 ∧ bt w 25 = 0 ∧ bt w 22 = 1 ∧ bt w 20 = 0 ∧ bt w 7 = 1 ∧ bt w 6 = 0 ∧ bt w 5 = 1 ∧ bt w 4 = 1) := by
  simp [p6, fitsL]
theorem f6_99 (w : Int) : F p6 w 99 = fl w 28 4 := by
  show 2 * (2 * (2 * (2 * 0 + bt w 31) + bt w 30) + bt w 29) + bt w 28 = _
  rw [fl_one w 31, fl_more w 30 1, fl_more w 29 2, fl_more w 28 3]
theorem f6_80 (w : Int) : F p6 w 80 = fl w 24 1 := by
  show 2 * 0 + bt w 24 = _
  rw [fl_one w 24]
theorem g6_80 (w : Int) : flag p6 w 80 = tb w 24 := by
  show (2 * 0 + bt w 24 == 1) = _
  exact flag1 w 24
theorem f6_85 (w : Int) : F p6 w 85 = fl w 23 1 := by
  show 2 * 0 + bt w 23 = _
  rw [fl_one w 23]
theorem g6_85 (w : Int) : flag p6 w 85 = tb w 23 := by
  show (2 * 0 + bt w 23 == 1) = _
  exact flag1 w 23
theorem f6_87 (w : Int) : F p6 w 87 = fl w 21 1 := by
  show 2 * 0 + bt w 21 = _
  rw [fl_one w 21]
theorem g6_87 (w : Int) : flag p6 w 87 = tb w 21 := by
  show (2 * 0 + bt w 21 == 1) = _
  exact flag1 w 21
theorem f6_110 (w : Int) : F p6 w 110 = fl w 16 4 := by
  show 2 * (2 * (2 * (2 * 0 + bt w 19) + bt w 18) + bt w 17) + bt w 16 = _
  rw [fl_one w 19, fl_more w 18 1, fl_more w 17 2, fl_more w 16 3]
theorem f6_100 (w : Int) : F p6 w 100 = fl w 12 4 := by
  show 2 * (2 * (2 * (2 * 0 + bt w 15) + bt w 14) + bt w 13) + bt w 12 = _
  rw [fl_one w 15, fl_more w 14 1, fl_more w 13 2, fl_more w 12 3]
theorem f6_73 (w : Int) : F p6 w 73 = 16 * fl w 8 4 + fl w 0 4 := by
  show 2 * (2 * (2 * (2 * (2 * (2 * (2 * (2 * 0 + bt w 11) + bt w 10) + bt w 9) + bt w 8) + bt w 3) + bt w 2) + bt w 1) + bt w 0 = _
  rw [fl4 w 8, fl4 w 0]; simp only [Nat.reduceAdd]; omega
theorem fit7 (w : Int) : fitsL p7 w = true ↔ (bt w 27 = 0 ∧ bt w 26 = 0 ∧ bt w 25 = 0 ∧ bt w 24 = 1 ∧ bt w 23 = 0 ∧ bt w 22 = 0 ∧ bt w 21 = 1 ∧ bt w 20 = 0 ∧ bt w 19 = 1 ∧ bt w 18 = 1 ∧ bt w 17 = 1 ∧ bt w 16 = 1 ∧ bt w 15 = 1 ∧ bt w 14 = 1 ∧ bt w 13 = 1 ∧ bt w 12 = 1 ∧ bt w 11 = 1 ∧ bt w 10 = 1 ∧ bt w 9 = 1 ∧ bt w 8 = 1 ∧ bt w 7 = 0 ∧ bt w 6 = 0 ∧ bt w 5 = 0 ∧ bt w 4 = 1) := by
  simp [p7, fitsL]
theorem f7_99 (w : Int) : F p7 w 99 = fl w 28 4 := by
  show 2 * (2 * (2 * (2 * 0 + bt w 31) + bt w 30) + bt w 29) + bt w 28 = _
  rw [fl_one w 31, fl_more w 30 1, fl_more w 29 2, fl_more w 28 3]
theorem f7_109 (w : Int) : F p7 w 109 = fl w 0 4 := by
  show 2 * (2 * (2 * (2 * 0 + bt w 3) + bt w 2) + bt w 1) + bt w 0 = _
  rw [fl_one w 3, fl_more w 2 1, fl_more w 1 2, fl_more w 0 3]
theorem fit8 (w : Int) : fitsL p8 w = true ↔ (bt w 27 = 0 ∧ bt w 26 = 0 ∧ bt w 25 = 0 ∧ bt w 24 = 1 ∧ bt w 23 = 0 ∧ bt w 21 = 0 ∧ bt w 20 = 0 ∧ bt w 19 = 1 ∧ bt w 18 = 1 ∧ bt w 17 = 1 ∧ bt w 16 = 1 ∧ bt w 11 = 0 ∧ bt w 10 = 0 ∧ bt w 9 = 0 ∧ bt w 8 = 0 ∧ bt w 7 = 0 ∧ bt w 6 = 0 ∧ bt w 5 = 0 ∧ bt w 4 = 0 ∧ bt w 3 = 0 ∧ bt w 2 = 0 ∧ bt w 1 = 0 ∧ bt w 0 = 0) := by
  simp [p8, fitsL]
theorem f8_99 (w : Int) : F p8 w 99 = fl w 28 4 := by
  show 2 * (2 * (2 * (2 * 0 + bt w 31) + bt w 30) + bt w 29) + bt w 28 = _
  rw [fl_one w 31, fl_more w 30 1, fl_more w 29 2, fl_more w 28 3]
theorem f8_81 (w : Int) : F p8 w 81 = fl w 22 1 := by
  show 2 * 0 + bt w 22 = _
  rw [fl_one w 22]
theorem g8_81 (w : Int) : flag p8 w 81 = tb w 22 := by
  show (2 * 0 + bt w 22 == 1) = _
  exact flag1 w 22
theorem f8_100 (w : Int) : F p8 w 100 = fl w 12 4 := by
  show 2 * (2 * (2 * (2 * 0 + bt w 15) + bt w 14) + bt w 13) + bt w 12 = _
  rw [fl_one w 15, fl_more w 14 1, fl_more w 13 2, fl_more w 12 3]
theorem fit9 (w : Int) : fitsL p9 w = true ↔ (bt w 27 = 0 ∧ bt w 26 = 0 ∧ bt w 25 = 0 ∧ bt w 24 = 1 ∧ bt w 23 = 0 ∧ bt w 21 = 1 ∧ bt w 20 = 0 ∧ bt w 15 = 1 ∧ bt w 14 = 1 ∧ bt w 13 = 1 ∧ bt w 12 = 1 ∧ bt w 11 = 0 ∧ bt w 10 = 0 ∧ bt w 9 = 0 ∧ bt w 8 = 0 ∧ bt w 7 = 0 ∧ bt w 6 = 0 ∧ bt w 5 = 0 ∧ bt w 4 = 0) := by
  simp [p9, fitsL]
theorem f9_99 (w : Int) : F p9 w 99 = fl w 28 4 := by
  show 2 * (2 * (2 * (2 * 0 + bt w 31) + bt w 30) + bt w 29) + bt w 28 = _
  rw [fl_one w 31, fl_more w 30 1, fl_more w 29 2, fl_more w 28 3]
theorem f9_81 (w : Int) : F p9 w 81 = fl w 22 1 := by
  show 2 * 0 + bt w 22 = _
  rw [fl_one w 22]
theorem g9_81 (w : Int) : flag p9 w 81 = tb w 22 := by
  show (2 * 0 + bt w 22 == 1) = _
  exact flag1 w 22
theorem f9_108 (w : Int) : F p9 w 108 = fl w 16 4 := by
  show 2 * (2 * (2 * (2 * 0 + bt w 19) + bt w 18) + bt w 17) + bt w 16 = _
  rw [fl_one w 19, fl_more w 18 1, fl_more w 17 2, fl_more w 16 3]
theorem f9_109 (w : Int) : F p9 w 109 = fl w 0 4 := by
  show 2 * (2 * (2 * (2 * 0 + bt w 3) + bt w 2) + bt w 1) + bt w 0 = _
  rw [fl_one w 3, fl_more w 2 1, fl_more w 1 2, fl_more w 0 3]
theorem fit10 (w : Int) : fitsL p10 w = true ↔ (bt w 27 = 0 ∧ bt w 26 = 0 ∧ bt w 25 = 1 ∧ bt w 24 = 1 ∧ bt w 23 = 0 ∧ bt w 21 = 1 ∧ bt w 20 = 0 ∧ bt w 15 = 1 ∧ bt w 14 = 1 ∧ bt w 13 = 1 ∧ bt w 12 = 1) := by
  simp [p10, fitsL]
theorem f10_99 (w : Int) : F p10 w 99 = fl w 28 4 := by
  show 2 * (2 * (2 * (2 * 0 + bt w 31) + bt w 30) + bt w 29) + bt w 28 = _
  rw [fl_one w 31, fl_more w 30 1, fl_more w 29 2, fl_more w 28 3]
theorem f10_81 (w : Int) : F p10 w 81 = fl w 22 1 := by
  show 2 * 0 + bt w 22 = _
  rw [fl_one w 22]
theorem g10_81 (w : Int) : flag p10 w 81 = tb w 22 := by
  show (2 * 0 + bt w 22 == 1) = _
  exact flag1 w 22
theorem f10_108 (w : Int) : F p10 w 108 = fl w 16 4 := by
  show 2 * (2 * (2 * (2 * 0 + bt w 19) + bt w 18) + bt w 17) + bt w 16 = _
  rw [fl_one w 19, fl_more w 18 1, fl_more w 17 2, fl_more w 16 3]
theorem f10_97 (w : Int) : F p10 w 97 = fl w 8 4 := by
  show 2 * (2 * (2 * (2 * 0 + bt w 11) + bt w 10) + bt w 9) + bt w 8 = _
  rw [fl_one w 11, fl_more w 10 1, fl_more w 9 2, fl_more w 8 3]
theorem f10_73 (w : Int) : F p10 w 73 = fl w 0 8 := by
  show 2 * (2 * (2 * (2 * (2 * (2 * (2 * (2 * 0 + bt w 7) + bt w 6) + bt w 5) + bt w 4) + bt w 3) + bt w 2) + bt w 1) + bt w 0 = _
  rw [fl_one w 7, fl_more w 6 1, fl_more w 5 2, fl_more w 4 3, fl_more w 3 4, fl_more w 2 5, fl_more w 1 6, fl_more w 0 7]
theorem fit11 (w : Int) : fitsL p11 w = true ↔ (bt w 27 = 0 ∧ bt w 26 = 0 ∧ bt w 25 = 0 ∧ bt w 4 = 0) := by
  simp [p11, fitsL]
theorem f11_99 (w : Int) : F p11 w 99 = fl w 28 4 := by
  show 2 * (2 * (2 * (2 * 0 + bt w 31) + bt w 30) + bt w 29) + bt w 28 = _
  rw [fl_one w 31, fl_more w 30 1, fl_more w 29 2, fl_more w 28 3]
theorem f11_111 (w : Int) : F p11 w 111 = fl w 21 4 := by
  show 2 * (2 * (2 * (2 * 0 + bt w 24) + bt w 23) + bt w 22) + bt w 21 = _
  rw [fl_one w 24, fl_more w 23 1, fl_more w 22 2, fl_more w 21 3]
theorem f11_70 (w : Int) : F p11 w 70 = fl w 20 1 := by
  show 2 * 0 + bt w 20 = _
  rw [fl_one w 20]
theorem g11_70 (w : Int) : flag p11 w 70 = tb w 20 := by
  show (2 * 0 + bt w 20 == 1) = _
  exact flag1 w 20
theorem f11_110 (w : Int) : F p11 w 110 = fl w 16 4 := by
  show 2 * (2 * (2 * (2 * 0 + bt w 19) + bt w 18) + bt w 17) + bt w 16 = _
  rw [fl_one w 19, fl_more w 18 1, fl_more w 17 2, fl_more w 16 3]
theorem f11_100 (w : Int) : F p11 w 100 = fl w 12 4 := by
  show 2 * (2 * (2 * (2 * 0 + bt w 15) + bt w 14) + bt w 13) + bt w 12 = _
  rw [fl_one w 15, fl_more w 14 1, fl_more w 13 2, fl_more w 12 3]
theorem f11_97 (w : Int) : F p11 w 97 = fl w 7 5 := by
  show 2 * (2 * (2 * (2 * (2 * 0 + bt w 11) + bt w 10) + bt w 9) + bt w 8) + bt w 7 = _
  rw [fl_one w 11, fl_more w 10 1, fl_more w 9 2, fl_more w 8 3, fl_more w 7 4]
theorem f11_116 (w : Int) : F p11 w 116 = fl w 5 2 := by
  show 2 * (2 * 0 + bt w 6) + bt w 5 = _
  rw [fl_one w 6, fl_more w 5 1]
theorem f11_109 (w : Int) : F p11 w 109 = fl w 0 4 := by
  show 2 * (2 * (2 * (2 * 0 + bt w 3) + bt w 2) + bt w 1) + bt w 0 = _
  rw [fl_one w 3, fl_more w 2 1, fl_more w 1 2, fl_more w 0 3]
theorem fit12 (w : Int) : fitsL p12 w = true ↔ (bt w 27 = 0 ∧ bt w 26 = 0 ∧ bt w 25 = 0 ∧ bt w 7 = 0 ∧ bt w 4 = 1) := by
  simp [p12, fitsL]
theorem f12_99 (w : Int) : F p12 w 99 = fl w 28 4 := by
  show 2 * (2 * (2 * (2 * 0 + bt w 31) + bt w 30) + bt w 29) + bt w 28 = _
  rw [fl_one w 31, fl_more w 30 1, fl_more w 29 2, fl_more w 28 3]
theorem f12_111 (w : Int) : F p12 w 111 = fl w 21 4 := by
  show 2 * (2 * (2 * (2 * 0 + bt w 24) + bt w 23) + bt w 22) + bt w 21 = _
  rw [fl_one w 24, fl_more w 23 1, fl_more w 22 2, fl_more w 21 3]
theorem f12_70 (w : Int) : F p12 w 70 = fl w 20 1 := by
  show 2 * 0 + bt w 20 = _
  rw [fl_one w 20]
theorem g12_70 (w : Int) : flag p12 w 70 = tb w 20 := by
  show (2 * 0 + bt w 20 == 1) = _
  exact flag1 w 20
theorem f12_110 (w : Int) : F p12 w 110 = fl w 16 4 := by
  show 2 * (2 * (2 * (2 * 0 + bt w 19) + bt w 18) + bt w 17) + bt w 16 = _
  rw [fl_one w 19, fl_more w 18 1, fl_more w 17 2, fl_more w 16 3]
theorem f12_100 (w : Int) : F p12 w 100 = fl w 12 4 := by
  show 2 * (2 * (2 * (2 * 0 + bt w 15) + bt w 14) + bt w 13) + bt w 12 = _
  rw [fl_one w 15, fl_more w 14 1, fl_more w 13 2, fl_more w 12 3]
theorem f12_115 (w : Int) : F p12 w 115 = fl w 8 4 := by
  show 2 * (2 * (2 * (2 * 0 + bt w 11) + bt w 10) + bt w 9) + bt w 8 = _
  rw [fl_one w 11, fl_more w 10 1, fl_more w 9 2, fl_more w 8 3]
theorem f12_116 (w : Int) : F p12 w 116 = fl w 5 2 := by
  show 2 * (2 * 0 + bt w 6) + bt w 5 = _
  rw [fl_one w 6, fl_more w 5 1]
theorem f12_109 (w : Int) : F p12 w 109 = fl w 0 4 := by
  show 2 * (2 * (2 * (2 * 0 + bt w 3) + bt w 2) + bt w 1) + bt w 0 = _
  rw [fl_one w 3, fl_more w 2 1, fl_more w 1 2, fl_more w 0 3]
theorem fit13 (w : Int) : fitsL p13 w = true ↔ (bt w 27 = 0 ∧ bt w 26 = 0 ∧ bt w 25 = 1) := by
  simp [p13, fitsL]
theorem f13_99 (w : Int) : F p13 w 99 = fl w 28 4 := by
  show 2 * (2 * (2 * (2 * 0 + bt w 31) + bt w 30) + bt w 29) + bt w 28 = _
  rw [fl_one w 31, fl_more w 30 1, fl_more w 29 2, fl_more w 28 3]
theorem f13_111 (w : Int) : F p13 w 111 = fl w 21 4 := by
  show 2 * (2 * (2 * (2 * 0 + bt w 24) + bt w 23) + bt w 22) + bt w 21 = _
  rw [fl_one w 24, fl_more w 23 1, fl_more w 22 2, fl_more w 21 3]
theorem f13_70 (w : Int) : F p13 w 70 = fl w 20 1 := by
  show 2 * 0 + bt w 20 = _
  rw [fl_one w 20]
theorem g13_70 (w : Int) : flag p13 w 70 = tb w 20 := by
  show (2 * 0 + bt w 20 == 1) = _
  exact flag1 w 20
theorem f13_110 (w : Int) : F p13 w 110 = fl w 16 4 := by
  show 2 * (2 * (2 * (2 * 0 + bt w 19) + bt w 18) + bt w 17) + bt w 16 = _
  rw [fl_one w 19, fl_more w 18 1, fl_more w 17 2, fl_more w 16 3]
theorem f13_100 (w : Int) : F p13 w 100 = fl w 12 4 := by
  show 2 * (2 * (2 * (2 * 0 + bt w 15) + bt w 14) + bt w 13) + bt w 12 = _
  rw [fl_one w 15, fl_more w 14 1, fl_more w 13 2, fl_more w 12 3]
theorem f13_97 (w : Int) : F p13 w 97 = fl w 8 4 := by
  show 2 * (2 * (2 * (2 * 0 + bt w 11) + bt w 10) + bt w 9) + bt w 8 = _
  rw [fl_one w 11, fl_more w 10 1, fl_more w 9 2, fl_more w 8 3]
theorem f13_73 (w : Int) : F p13 w 73 = fl w 0 8 := by
  show 2 * (2 * (2 * (2 * (2 * (2 * (2 * (2 * 0 + bt w 7) + bt w 6) + bt w 5) + bt w 4) + bt w 3) + bt w 2) + bt w 1) + bt w 0 = _
  rw [fl_one w 7, fl_more w 6 1, fl_more w 5 2, fl_more w 4 3, fl_more w 3 4, fl_more w 2 5, fl_more w 1 6, fl_more w 0 7]
theorem fit14 (w : Int) : fitsL p14 w = true ↔ (bt w 27 = 0 ∧ bt w 26 = 1 ∧ bt w 25 = 0) := by
  simp [p14, fitsL]
theorem f14_99 (w : Int) : F p14 w 99 = fl w 28 4 := by
  show 2 * (2 * (2 * (2 * 0 + bt w 31) + bt w 30) + bt w 29) + bt w 28 = _
  rw [fl_one w 31, fl_more w 30 1, fl_more w 29 2, fl_more w 28 3]
theorem f14_80 (w : Int) : F p14 w 80 = fl w 24 1 := by
  show 2 * 0 + bt w 24 = _
  rw [fl_one w 24]
theorem g14_80 (w : Int) : flag p14 w 80 = tb w 24 := by
  show (2 * 0 + bt w 24 == 1) = _
  exact flag1 w 24
theorem f14_85 (w : Int) : F p14 w 85 = fl w 23 1 := by
  show 2 * 0 + bt w 23 = _
  rw [fl_one w 23]
theorem g14_85 (w : Int) : flag p14 w 85 = tb w 23 := by
  show (2 * 0 + bt w 23 == 1) = _
  exact flag1 w 23
theorem f14_66 (w : Int) : F p14 w 66 = fl w 22 1 := by
  show 2 * 0 + bt w 22 = _
  rw [fl_one w 22]
theorem g14_66 (w : Int) : flag p14 w 66 = tb w 22 := by
  show (2 * 0 + bt w 22 == 1) = _
  exact flag1 w 22
theorem f14_87 (w : Int) : F p14 w 87 = fl w 21 1 := by
  show 2 * 0 + bt w 21 = _
  rw [fl_one w 21]
theorem g14_87 (w : Int) : flag p14 w 87 = tb w 21 := by
  show (2 * 0 + bt w 21 == 1) = _
  exact flag1 w 21
theorem f14_76 (w : Int) : F p14 w 76 = fl w 20 1 := by
  show 2 * 0 + bt w 20 = _
  rw [fl_one w 20]
theorem g14_76 (w : Int) : flag p14 w 76 = tb w 20 := by
  show (2 * 0 + bt w 20 == 1) = _
  exact flag1 w 20
theorem f14_110 (w : Int) : F p14 w 110 = fl w 16 4 := by
  show 2 * (2 * (2 * (2 * 0 + bt w 19) + bt w 18) + bt w 17) + bt w 16 = _
  rw [fl_one w 19, fl_more w 18 1, fl_more w 17 2, fl_more w 16 3]
theorem f14_100 (w : Int) : F p14 w 100 = fl w 12 4 := by
  show 2 * (2 * (2 * (2 * 0 + bt w 15) + bt w 14) + bt w 13) + bt w 12 = _
  rw [fl_one w 15, fl_more w 14 1, fl_more w 13 2, fl_more w 12 3]
theorem f14_73 (w : Int) : F p14 w 73 = fl w 0 12 := by
  show 2 * (2 * (2 * (2 * (2 * (2 * (2 * (2 * (2 * (2 * (2 * (2 * 0 + bt w 11) + bt w 10) + bt w 9) + bt w 8) + bt w 7) + bt w 6) + bt w 5) + bt w 4) + bt w 3) + bt w 2) + bt w 1) + bt w 0 = _
  rw [fl_one w 11, fl_more w 10 1, fl_more w 9 2, fl_more w 8 3, fl_more w 7 4, fl_more w 6 5, fl_more w 5 6, fl_more w 4 7, fl_more w 3 8, fl_more w 2 9, fl_more w 1 10, fl_more w 0 11]
theorem fit15 (w : Int) : fitsL p15 w = true ↔ (bt w 27 = 0 ∧ bt w 26 = 1 ∧ bt w 25 = 1 ∧ bt w 4 = 0) := by
  simp [p15, fitsL]
theorem f15_99 (w : Int) : F p15 w 99 = fl w 28 4 := by
  show 2 * (2 * (2 * (2 * 0 + bt w 31) + bt w 30) + bt w 29) + bt w 28 = _
  rw [fl_one w 31, fl_more w 30 1, fl_more w 29 2, fl_more w 28 3]
theorem f15_80 (w : Int) : F p15 w 80 = fl w 24 1 := by
  show 2 * 0 + bt w 24 = _
  rw [fl_one w 24]
theorem g15_80 (w : Int) : flag p15 w 80 = tb w 24 := by
  show (2 * 0 + bt w 24 == 1) = _
  exact flag1 w 24
theorem f15_85 (w : Int) : F p15 w 85 = fl w 23 1 := by
  show 2 * 0 + bt w 23 = _
  rw [fl_one w 23]
theorem g15_85 (w : Int) : flag p15 w 85 = tb w 23 := by
  show (2 * 0 + bt w 23 == 1) = _
  exact flag1 w 23
theorem f15_66 (w : Int) : F p15 w 66 = fl w 22 1 := by
  show 2 * 0 + bt w 22 = _
  rw [fl_one w 22]
theorem g15_66 (w : Int) : flag p15 w 66 = tb w 22 := by
  show (2 * 0 + bt w 22 == 1) = _
  exact flag1 w 22
theorem f15_87 (w : Int) : F p15 w 87 = fl w 21 1 := by
  show 2 * 0 + bt w 21 = _
  rw [fl_one w 21]
theorem g15_87 (w : Int) : flag p15 w 87 = tb w 21 := by
  show (2 * 0 + bt w 21 == 1) = _
  exact flag1 w 21
theorem f15_76 (w : Int) : F p15 w 76 = fl w 20 1 := by
  show 2 * 0 + bt w 20 = _
  rw [fl_one w 20]
theorem g15_76 (w : Int) : flag p15 w 76 = tb w 20 := by
  show (2 * 0 + bt w 20 == 1) = _
  exact flag1 w 20
theorem f15_110 (w : Int) : F p15 w 110 = fl w 16 4 := by
  show 2 * (2 * (2 * (2 * 0 + bt w 19) + bt w 18) + bt w 17) + bt w 16 = _
  rw [fl_one w 19, fl_more w 18 1, fl_more w 17 2, fl_more w 16 3]
theorem f15_100 (w : Int) : F p15 w 100 = fl w 12 4 := by
  show 2 * (2 * (2 * (2 * 0 + bt w 15) + bt w 14) + bt w 13) + bt w 12 = _
  rw [fl_one w 15, fl_more w 14 1, fl_more w 13 2, fl_more w 12 3]
theorem f15_97 (w : Int) : F p15 w 97 = fl w 7 5 := by
  show 2 * (2 * (2 * (2 * (2 * 0 + bt w 11) + bt w 10) + bt w 9) + bt w 8) + bt w 7 = _
  rw [fl_one w 11, fl_more w 10 1, fl_more w 9 2, fl_more w 8 3, fl_more w 7 4]
theorem f15_116 (w : Int) : F p15 w 116 = fl w 5 2 := by
  show 2 * (2 * 0 + bt w 6) + bt w 5 = _
  rw [fl_one w 6, fl_more w 5 1]
theorem f15_109 (w : Int) : F p15 w 109 = fl w 0 4 := by
  show 2 * (2 * (2 * (2 * 0 + bt w 3) + bt w 2) + bt w 1) + bt w 0 = _
  rw [fl_one w 3, fl_more w 2 1, fl_more w 1 2, fl_more w 0 3]
theorem fit16 (w : Int) : fitsL p16 w = true ↔ (bt w 27 = 1 ∧ bt w 26 = 0 ∧ bt w 25 = 0) := by
  simp [p16, fitsL]
theorem f16_99 (w : Int) : F p16 w 99 = fl w 28 4 := by
  show 2 * (2 * (2 * (2 * 0 + bt w 31) + bt w 30) + bt w 29) + bt w 28 = _
  rw [fl_one w 31, fl_more w 30 1, fl_more w 29 2, fl_more w 28 3]
theorem f16_80 (w : Int) : F p16 w 80 = fl w 24 1 := by
  show 2 * 0 + bt w 24 = _
  rw [fl_one w 24]
theorem g16_80 (w : Int) : flag p16 w 80 = tb w 24 := by
  show (2 * 0 + bt w 24 == 1) = _
  exact flag1 w 24
theorem f16_85 (w : Int) : F p16 w 85 = fl w 23 1 := by
  show 2 * 0 + bt w 23 = _
  rw [fl_one w 23]
theorem g16_85 (w : Int) : flag p16 w 85 = tb w 23 := by
  show (2 * 0 + bt w 23 == 1) = _
  exact flag1 w 23
theorem f16_81 (w : Int) : F p16 w 81 = fl w 22 1 := by
  show 2 * 0 + bt w 22 = _
  rw [fl_one w 22]
theorem g16_81 (w : Int) : flag p16 w 81 = tb w 22 := by
  show (2 * 0 + bt w 22 == 1) = _
  exact flag1 w 22
theorem f16_87 (w : Int) : F p16 w 87 = fl w 21 1 := by
  show 2 * 0 + bt w 21 = _
  rw [fl_one w 21]
theorem g16_87 (w : Int) : flag p16 w 87 = tb w 21 := by
  show (2 * 0 + bt w 21 == 1) = _
  exact flag1 w 21
theorem f16_76 (w : Int) : F p16 w 76 = fl w 20 1 := by
  show 2 * 0 + bt w 20 = _
  rw [fl_one w 20]
theorem g16_76 (w : Int) : flag p16 w 76 = tb w 20 := by
  show (2 * 0 + bt w 20 == 1) = _
  exact flag1 w 20
theorem f16_110 (w : Int) : F p16 w 110 = fl w 16 4 := by
  show 2 * (2 * (2 * (2 * 0 + bt w 19) + bt w 18) + bt w 17) + bt w 16 = _
  rw [fl_one w 19, fl_more w 18 1, fl_more w 17 2, fl_more w 16 3]
theorem f16_108 (w : Int) : F p16 w 108 = fl w 0 16 := by
  show 2 * (2 * (2 * (2 * (2 * (2 * (2 * (2 * (2 * (2 * (2 * (2 * (2 * (2 * (2 * (2 * 0 + bt w 15) + bt w 14) + bt w 13) + bt w 12) + bt w 11) + bt w 10) + bt w 9) + bt w 8) + bt w 7) + bt w 6) + bt w 5) + bt w 4) + bt w 3) + bt w 2) + bt w 1) + bt w 0 = _
  rw [fl_one w 15, fl_more w 14 1, fl_more w 13 2, fl_more w 12 3, fl_more w 11 4, fl_more w 10 5, fl_more w 9 6, fl_more w 8 7, fl_more w 7 8, fl_more w 6 9, fl_more w 5 10, fl_more w 4 11, fl_more w 3 12, fl_more w 2 13, fl_more w 1 14, fl_more w 0 15]
theorem fit17 (w : Int) : fitsL p17 w = true ↔ (bt w 27 = 1 ∧ bt w 26 = 0 ∧ bt w 25 = 1) := by
  simp [p17, fitsL]
theorem f17_99 (w : Int) : F p17 w 99 = fl w 28 4 := by
  show 2 * (2 * (2 * (2 * 0 + bt w 31) + bt w 30) + bt w 29) + bt w 28 = _
  rw [fl_one w 31, fl_more w 30 1, fl_more w 29 2, fl_more w 28 3]
theorem f17_75 (w : Int) : F p17 w 75 = fl w 24 1 := by
  show 2 * 0 + bt w 24 = _
  rw [fl_one w 24]
theorem g17_75 (w : Int) : flag p17 w 75 = tb w 24 := by
  show (2 * 0 + bt w 24 == 1) = _
  exact flag1 w 24
theorem f17_73 (w : Int) : F p17 w 73 = fl w 0 24 := by
  show 2 * (2 * (2 * (2 * (2 * (2 * (2 * (2 * (2 * (2 * (2 * (2 * (2 * (2 * (2 * (2 * (2 * (2 * (2 * (2 * (2 * (2 * (2 * (2 * 0 + bt w 23) + bt w 22) + bt w 21) + bt w 20) + bt w 19) + bt w 18) + bt w 17) + bt w 16) + bt w 15) + bt w 14) + bt w 13) + bt w 12) + bt w 11) + bt w 10) + bt w 9) + bt w 8) + bt w 7) + bt w 6) + bt w 5) + bt w 4) + bt w 3) + bt w 2) + bt w 1) + bt w 0 = _
  rw [fl_one w 23, fl_more w 22 1, fl_more w 21 2, fl_more w 20 3, fl_more w 19 4, fl_more w 18 5, fl_more w 17 6, fl_more w 16 7, fl_more w 15 8, fl_more w 14 9, fl_more w 13 10, fl_more w 12 11, fl_more w 11 12, fl_more w 10 13, fl_more w 9 14, fl_more w 8 15, fl_more w 7 16, fl_more w 6 17, fl_more w 5 18, fl_more w 4 19, fl_more w 3 20, fl_more w 2 21, fl_more w 1 22, fl_more w 0 23]
theorem fit18 (w : Int) : fitsL p18 w = true ↔ (bt w 27 = 1 ∧ bt w 26 = 1 ∧ bt w 25 = 1 ∧ bt w 24 = 1) := by
  simp [p18, fitsL]
theorem f18_99 (w : Int) : F p18 w 99 = fl w 28 4 := by
  show 2 * (2 * (2 * (2 * 0 + bt w 31) + bt w 30) + bt w 29) + bt w 28 = _
  rw [fl_one w 31, fl_more w 30 1, fl_more w 29 2, fl_more w 28 3]
theorem f18_73 (w : Int) : F p18 w 73 = fl w 16 8 := by
  show 2 * (2 * (2 * (2 * (2 * (2 * (2 * (2 * 0 + bt w 23) + bt w 22) + bt w 21) + bt w 20) + bt w 19) + bt w 18) + bt w 17) + bt w 16 = _
  rw [fl_one w 23, fl_more w 22 1, fl_more w 21 2, fl_more w 20 3, fl_more w 19 4, fl_more w 18 5, fl_more w 17 6, fl_more w 16 7]
theorem f0_66 (w : Int) : F p0 w 66 = 0 := rfl
theorem g0_66 (w : Int) : flag p0 w 66 = false := rfl
theorem f0_72 (w : Int) : F p0 w 72 = 0 := rfl
theorem g0_72 (w : Int) : flag p0 w 72 = false := rfl
theorem f0_73 (w : Int) : F p0 w 73 = 0 := rfl
theorem g0_73 (w : Int) : flag p0 w 73 = false := rfl
theorem f0_75 (w : Int) : F p0 w 75 = 0 := rfl
theorem g0_75 (w : Int) : flag p0 w 75 = false := rfl
theorem f0_76 (w : Int) : F p0 w 76 = 0 := rfl
theorem g0_76 (w : Int) : flag p0 w 76 = false := rfl
theorem f0_80 (w : Int) : F p0 w 80 = 0 := rfl
theorem g0_80 (w : Int) : flag p0 w 80 = false := rfl
theorem f0_81 (w : Int) : F p0 w 81 = 0 := rfl
theorem g0_81 (w : Int) : flag p0 w 81 = false := rfl
theorem f0_83 (w : Int) : F p0 w 83 = 0 := rfl
theorem g0_83 (w : Int) : flag p0 w 83 = false := rfl
theorem f0_85 (w : Int) : F p0 w 85 = 0 := rfl
theorem g0_85 (w : Int) : flag p0 w 85 = false := rfl
theorem f0_87 (w : Int) : F p0 w 87 = 0 := rfl
theorem g0_87 (w : Int) : flag p0 w 87 = false := rfl
theorem f0_97 (w : Int) : F p0 w 97 = 0 := rfl
theorem g0_97 (w : Int) : flag p0 w 97 = false := rfl
theorem f0_108 (w : Int) : F p0 w 108 = 0 := rfl
theorem g0_108 (w : Int) : flag p0 w 108 = false := rfl
theorem f0_111 (w : Int) : F p0 w 111 = 0 := rfl
theorem g0_111 (w : Int) : flag p0 w 111 = false := rfl
theorem f0_116 (w : Int) : F p0 w 116 = 0 := rfl
theorem g0_116 (w : Int) : flag p0 w 116 = false := rfl
theorem step0 (w : Int) : stepP 2 p0 w = some ⟨2, (fl w 28 4), 0, (tb w 20), (fl w 16 4), (fl w 12 4), (fl w 8 4), (fl w 0 4), 0, false, 0, 0, false, false, false, false, false, false, false, false, 0, false, (tb w 21), false⟩ := by
  simp [stepP, commonP, f0_99, f0_65, f0_70, f0_100, f0_110, f0_115, f0_109, g0_65, g0_70, f0_66, g0_66, f0_72, g0_72, f0_73, g0_73, f0_75, g0_75, f0_76, g0_76, f0_80, g0_80, f0_81, g0_81, f0_83, g0_83, f0_85, g0_85, f0_87, g0_87, f0_97, g0_97, f0_108, g0_108, f0_111, g0_111, f0_116, g0_116, (show p0[6]? = some 48 from rfl), (show p0[9]? = some 48 from rfl), (show p0[11]? = some 70 from rfl), (show p0[27]? = some 49 from rfl)]
theorem f1_66 (w : Int) : F p1 w 66 = 0 := rfl
theorem g1_66 (w : Int) : flag p1 w 66 = false := rfl
theorem f1_72 (w : Int) : F p1 w 72 = 0 := rfl
theorem g1_72 (w : Int) : flag p1 w 72 = false := rfl
theorem f1_73 (w : Int) : F p1 w 73 = 0 := rfl
theorem g1_73 (w : Int) : flag p1 w 73 = false := rfl
theorem f1_75 (w : Int) : F p1 w 75 = 0 := rfl
theorem g1_75 (w : Int) : flag p1 w 75 = false := rfl
theorem f1_76 (w : Int) : F p1 w 76 = 0 := rfl
theorem g1_76 (w : Int) : flag p1 w 76 = false := rfl
theorem f1_80 (w : Int) : F p1 w 80 = 0 := rfl
theorem g1_80 (w : Int) : flag p1 w 80 = false := rfl
theorem f1_81 (w : Int) : F p1 w 81 = 0 := rfl
theorem g1_81 (w : Int) : flag p1 w 81 = false := rfl
theorem f1_85 (w : Int) : F p1 w 85 = 0 := rfl
theorem g1_85 (w : Int) : flag p1 w 85 = false := rfl
theorem f1_87 (w : Int) : F p1 w 87 = 0 := rfl
theorem g1_87 (w : Int) : flag p1 w 87 = false := rfl
theorem f1_97 (w : Int) : F p1 w 97 = 0 := rfl
theorem g1_97 (w : Int) : flag p1 w 97 = false := rfl
theorem f1_108 (w : Int) : F p1 w 108 = 0 := rfl
theorem g1_108 (w : Int) : flag p1 w 108 = false := rfl
theorem f1_111 (w : Int) : F p1 w 111 = 0 := rfl
theorem g1_111 (w : Int) : flag p1 w 111 = false := rfl
theorem f1_116 (w : Int) : F p1 w 116 = 0 := rfl
theorem g1_116 (w : Int) : flag p1 w 116 = false := rfl
theorem step1 (w : Int) : stepP 3 p1 w = some ⟨3, (fl w 28 4), 0, (tb w 20), (fl w 16 4), (fl w 12 4), (fl w 8 4), (fl w 0 4), 0, false, 0, 0, false, false, false, (tb w 22), false, false, false, false, 0, false, (tb w 21), false⟩ := by
  simp [stepP, commonP, f1_99, f1_83, f1_65, f1_70, f1_100, f1_110, f1_115, f1_109, g1_83, g1_65, g1_70, f1_66, g1_66, f1_72, g1_72, f1_73, g1_73, f1_75, g1_75, f1_76, g1_76, f1_80, g1_80, f1_81, g1_81, f1_85, g1_85, f1_87, g1_87, f1_97, g1_97, f1_108, g1_108, f1_111, g1_111, f1_116, g1_116, (show p1[6]? = some 48 from rfl), (show p1[9]? = some 83 from rfl), (show p1[11]? = some 70 from rfl), (show p1[27]? = some 49 from rfl)]
theorem f2_65 (w : Int) : F p2 w 65 = 0 := rfl
theorem g2_65 (w : Int) : flag p2 w 65 = false := rfl
theorem f2_70 (w : Int) : F p2 w 70 = 0 := rfl
theorem g2_70 (w : Int) : flag p2 w 70 = false := rfl
theorem f2_72 (w : Int) : F p2 w 72 = 0 := rfl
theorem g2_72 (w : Int) : flag p2 w 72 = false := rfl
theorem f2_73 (w : Int) : F p2 w 73 = 0 := rfl
theorem g2_73 (w : Int) : flag p2 w 73 = false := rfl
theorem f2_75 (w : Int) : F p2 w 75 = 0 := rfl
theorem g2_75 (w : Int) : flag p2 w 75 = false := rfl
theorem f2_76 (w : Int) : F p2 w 76 = 0 := rfl
theorem g2_76 (w : Int) : flag p2 w 76 = false := rfl
theorem f2_80 (w : Int) : F p2 w 80 = 0 := rfl
theorem g2_80 (w : Int) : flag p2 w 80 = false := rfl
theorem f2_81 (w : Int) : F p2 w 81 = 0 := rfl
theorem g2_81 (w : Int) : flag p2 w 81 = false := rfl
theorem f2_83 (w : Int) : F p2 w 83 = 0 := rfl
theorem g2_83 (w : Int) : flag p2 w 83 = false := rfl
theorem f2_85 (w : Int) : F p2 w 85 = 0 := rfl
theorem g2_85 (w : Int) : flag p2 w 85 = false := rfl
theorem f2_87 (w : Int) : F p2 w 87 = 0 := rfl
theorem g2_87 (w : Int) : flag p2 w 87 = false := rfl
theorem f2_97 (w : Int) : F p2 w 97 = 0 := rfl
theorem g2_97 (w : Int) : flag p2 w 97 = false := rfl
theorem f2_108 (w : Int) : F p2 w 108 = 0 := rfl
theorem g2_108 (w : Int) : flag p2 w 108 = false := rfl
theorem f2_111 (w : Int) : F p2 w 111 = 0 := rfl
theorem g2_111 (w : Int) : flag p2 w 111 = false := rfl
theorem f2_115 (w : Int) : F p2 w 115 = 0 := rfl
theorem g2_115 (w : Int) : flag p2 w 115 = false := rfl
theorem f2_116 (w : Int) : F p2 w 116 = 0 := rfl
theorem g2_116 (w : Int) : flag p2 w 116 = false := rfl
theorem step2 (w : Int) : stepP 4 p2 w = some ⟨4, (fl w 28 4), 0, false, (fl w 12 4), (fl w 16 4), 0, (fl w 0 4), 0, false, 0, 0, false, false, (tb w 22), false, false, false, false, false, 0, false, false, false⟩ := by
  simp [stepP, commonP, f2_99, f2_66, f2_110, f2_100, f2_109, g2_66, f2_65, g2_65, f2_70, g2_70, f2_72, g2_72, f2_73, g2_73, f2_75, g2_75, f2_76, g2_76, f2_80, g2_80, f2_81, g2_81, f2_83, g2_83, f2_85, g2_85, f2_87, g2_87, f2_97, g2_97, f2_108, g2_108, f2_111, g2_111, f2_115, g2_115, f2_116, g2_116, (show p2[6]? = some 48 from rfl), (show p2[9]? = some 66 from rfl), (show p2[11]? = some 48 from rfl), (show p2[27]? = some 49 from rfl)]
theorem f3_65 (w : Int) : F p3 w 65 = 0 := rfl
theorem g3_65 (w : Int) : flag p3 w 65 = false := rfl
theorem f3_66 (w : Int) : F p3 w 66 = 0 := rfl
theorem g3_66 (w : Int) : flag p3 w 66 = false := rfl
theorem f3_70 (w : Int) : F p3 w 70 = 0 := rfl
theorem g3_70 (w : Int) : flag p3 w 70 = false := rfl
theorem f3_73 (w : Int) : F p3 w 73 = 0 := rfl
theorem g3_73 (w : Int) : flag p3 w 73 = false := rfl
theorem f3_75 (w : Int) : F p3 w 75 = 0 := rfl
theorem g3_75 (w : Int) : flag p3 w 75 = false := rfl
theorem f3_76 (w : Int) : F p3 w 76 = 0 := rfl
theorem g3_76 (w : Int) : flag p3 w 76 = false := rfl
theorem f3_81 (w : Int) : F p3 w 81 = 0 := rfl
theorem g3_81 (w : Int) : flag p3 w 81 = false := rfl
theorem f3_83 (w : Int) : F p3 w 83 = 0 := rfl
theorem g3_83 (w : Int) : flag p3 w 83 = false := rfl
theorem f3_97 (w : Int) : F p3 w 97 = 0 := rfl
theorem g3_97 (w : Int) : flag p3 w 97 = false := rfl
theorem f3_108 (w : Int) : F p3 w 108 = 0 := rfl
theorem g3_108 (w : Int) : flag p3 w 108 = false := rfl
theorem f3_111 (w : Int) : F p3 w 111 = 0 := rfl
theorem g3_111 (w : Int) : flag p3 w 111 = false := rfl
theorem f3_115 (w : Int) : F p3 w 115 = 0 := rfl
theorem g3_115 (w : Int) : flag p3 w 115 = false := rfl
theorem f3_116 (w : Int) : F p3 w 116 = 0 := rfl
theorem g3_116 (w : Int) : flag p3 w 116 = false := rfl
theorem step3 (w : Int) : stepP 6 p3 w = if fl w 5 2 = 0 then none else some ⟨6, (fl w 28 4), (fl w 5 2), false, (fl w 12 4), (fl w 16 4), 0, (fl w 0 4), 0, false, 0, 0, false, true, false, false, (tb w 24), (tb w 23), (tb w 21 || !tb w 24), false, 0, false, false, false⟩ := by
  simp [stepP, commonP, f3_99, f3_80, f3_85, f3_87, f3_110, f3_100, f3_72, f3_109, g3_80, g3_85, g3_87, f3_65, g3_65, f3_66, g3_66, f3_70, g3_70, f3_73, g3_73, f3_75, g3_75, f3_76, g3_76, f3_81, g3_81, f3_83, g3_83, f3_97, g3_97, f3_108, g3_108, f3_111, g3_111, f3_115, g3_115, f3_116, g3_116, (show p3[6]? = some 48 from rfl), (show p3[9]? = some 48 from rfl), (show p3[11]? = some 49 from rfl), (show p3[27]? = some 49 from rfl)]
theorem f4_65 (w : Int) : F p4 w 65 = 0 := rfl
theorem g4_65 (w : Int) : flag p4 w 65 = false := rfl
theorem f4_66 (w : Int) : F p4 w 66 = 0 := rfl
theorem g4_66 (w : Int) : flag p4 w 66 = false := rfl
theorem f4_70 (w : Int) : F p4 w 70 = 0 := rfl
theorem g4_70 (w : Int) : flag p4 w 70 = false := rfl
theorem f4_72 (w : Int) : F p4 w 72 = 0 := rfl
theorem g4_72 (w : Int) : flag p4 w 72 = false := rfl
theorem f4_73 (w : Int) : F p4 w 73 = 0 := rfl
theorem g4_73 (w : Int) : flag p4 w 73 = false := rfl
theorem f4_75 (w : Int) : F p4 w 75 = 0 := rfl
theorem g4_75 (w : Int) : flag p4 w 75 = false := rfl
theorem f4_76 (w : Int) : F p4 w 76 = 0 := rfl
theorem g4_76 (w : Int) : flag p4 w 76 = false := rfl
theorem f4_81 (w : Int) : F p4 w 81 = 0 := rfl
theorem g4_81 (w : Int) : flag p4 w 81 = false := rfl
theorem f4_83 (w : Int) : F p4 w 83 = 0 := rfl
theorem g4_83 (w : Int) : flag p4 w 83 = false := rfl
theorem f4_97 (w : Int) : F p4 w 97 = 0 := rfl
theorem g4_97 (w : Int) : flag p4 w 97 = false := rfl
theorem f4_108 (w : Int) : F p4 w 108 = 0 := rfl
theorem g4_108 (w : Int) : flag p4 w 108 = false := rfl
theorem f4_111 (w : Int) : F p4 w 111 = 0 := rfl
theorem g4_111 (w : Int) : flag p4 w 111 = false := rfl
theorem f4_115 (w : Int) : F p4 w 115 = 0 := rfl
theorem g4_115 (w : Int) : flag p4 w 115 = false := rfl
theorem f4_116 (w : Int) : F p4 w 116 = 0 := rfl
theorem g4_116 (w : Int) : flag p4 w 116 = false := rfl
theorem step4 (w : Int) : stepP 6 p4 w = some ⟨6, (fl w 28 4), 1, false, (fl w 12 4), (fl w 16 4), 0, (fl w 0 4), 0, false, 0, 0, false, false, false, false, (tb w 24), (tb w 23), (tb w 21 || !tb w 24), false, 0, false, false, false⟩ := by
  simp [stepP, commonP, f4_99, f4_80, f4_85, f4_87, f4_110, f4_100, f4_109, g4_80, g4_85, g4_87, f4_65, g4_65, f4_66, g4_66, f4_70, g4_70, f4_72, g4_72, f4_73, g4_73, f4_75, g4_75, f4_76, g4_76, f4_81, g4_81, f4_83, g4_83, f4_97, g4_97, f4_108, g4_108, f4_111, g4_111, f4_115, g4_115, f4_116, g4_116, (show p4[6]? = some 48 from rfl), (show p4[9]? = some 48 from rfl), (show p4[11]? = some 48 from rfl), (show p4[27]? = some 49 from rfl)]
theorem f5_65 (w : Int) : F p5 w 65 = 0 := rfl
theorem g5_65 (w : Int) : flag p5 w 65 = false := rfl
theorem f5_66 (w : Int) : F p5 w 66 = 0 := rfl
theorem g5_66 (w : Int) : flag p5 w 66 = false := rfl
theorem f5_70 (w : Int) : F p5 w 70 = 0 := rfl
theorem g5_70 (w : Int) : flag p5 w 70 = false := rfl
theorem f5_75 (w : Int) : F p5 w 75 = 0 := rfl
theorem g5_75 (w : Int) : flag p5 w 75 = false := rfl
theorem f5_76 (w : Int) : F p5 w 76 = 0 := rfl
theorem g5_76 (w : Int) : flag p5 w 76 = false := rfl
theorem f5_81 (w : Int) : F p5 w 81 = 0 := rfl
theorem g5_81 (w : Int) : flag p5 w 81 = false := rfl
theorem f5_83 (w : Int) : F p5 w 83 = 0 := rfl
theorem g5_83 (w : Int) : flag p5 w 83 = false := rfl
theorem f5_97 (w : Int) : F p5 w 97 = 0 := rfl
theorem g5_97 (w : Int) : flag p5 w 97 = false := rfl
theorem f5_108 (w : Int) : F p5 w 108 = 0 := rfl
theorem g5_108 (w : Int) : flag p5 w 108 = false := rfl
theorem f5_109 (w : Int) : F p5 w 109 = 0 := rfl
theorem g5_109 (w : Int) : flag p5 w 109 = false := rfl
theorem f5_111 (w : Int) : F p5 w 111 = 0 := rfl
theorem g5_111 (w : Int) : flag p5 w 111 = false := rfl
theorem f5_115 (w : Int) : F p5 w 115 = 0 := rfl
theorem g5_115 (w : Int) : flag p5 w 115 = false := rfl
theorem f5_116 (w : Int) : F p5 w 116 = 0 := rfl
theorem g5_116 (w : Int) : flag p5 w 116 = false := rfl
theorem step5 (w : Int) : stepP 6 p5 w = if fl w 5 2 = 0 then none else some ⟨6, (fl w 28 4), (fl w 5 2), false, (fl w 12 4), (fl w 16 4), 0, 0, (16 * fl w 8 4 + fl w 0 4), true, 0, 0, false, true, false, false, (tb w 24), (tb w 23), (tb w 21 || !tb w 24), false, 0, false, false, false⟩ := by
  simp [stepP, commonP, f5_99, f5_80, f5_85, f5_87, f5_110, f5_100, f5_73, f5_72, g5_80, g5_85, g5_87, f5_65, g5_65, f5_66, g5_66, f5_70, g5_70, f5_75, g5_75, f5_76, g5_76, f5_81, g5_81, f5_83, g5_83, f5_97, g5_97, f5_108, g5_108, f5_109, g5_109, f5_111, g5_111, f5_115, g5_115, f5_116, g5_116, (show p5[6]? = some 48 from rfl), (show p5[9]? = some 49 from rfl), (show p5[11]? = some 49 from rfl), (show p5[27]? = some 49 from rfl)]
theorem f6_65 (w : Int) : F p6 w 65 = 0 := rfl
theorem g6_65 (w : Int) : flag p6 w 65 = false := rfl
theorem f6_66 (w : Int) : F p6 w 66 = 0 := rfl
theorem g6_66 (w : Int) : flag p6 w 66 = false := rfl
theorem f6_70 (w : Int) : F p6 w 70 = 0 := rfl
theorem g6_70 (w : Int) : flag p6 w 70 = false := rfl
theorem f6_72 (w : Int) : F p6 w 72 = 0 := rfl
theorem g6_72 (w : Int) : flag p6 w 72 = false := rfl
theorem f6_75 (w : Int) : F p6 w 75 = 0 := rfl
theorem g6_75 (w : Int) : flag p6 w 75 = false := rfl
theorem f6_76 (w : Int) : F p6 w 76 = 0 := rfl
theorem g6_76 (w : Int) : flag p6 w 76 = false := rfl
theorem f6_81 (w : Int) : F p6 w 81 = 0 := rfl
theorem g6_81 (w : Int) : flag p6 w 81 = false := rfl
theorem f6_83 (w : Int) : F p6 w 83 = 0 := rfl
theorem g6_83 (w : Int) : flag p6 w 83 = false := rfl
theorem f6_97 (w : Int) : F p6 w 97 = 0 := rfl
theorem g6_97 (w : Int) : flag p6 w 97 = false := rfl
theorem f6_108 (w : Int) : F p6 w 108 = 0 := rfl
theorem g6_108 (w : Int) : flag p6 w 108 = false := rfl
theorem f6_109 (w : Int) : F p6 w 109 = 0 := rfl
theorem g6_109 (w : Int) : flag p6 w 109 = false := rfl
theorem f6_111 (w : Int) : F p6 w 111 = 0 := rfl
theorem g6_111 (w : Int) : flag p6 w 111 = false := rfl
theorem f6_115 (w : Int) : F p6 w 115 = 0 := rfl
theorem g6_115 (w : Int) : flag p6 w 115 = false := rfl
theorem f6_116 (w : Int) : F p6 w 116 = 0 := rfl
theorem g6_116 (w : Int) : flag p6 w 116 = false := rfl
theorem step6 (w : Int) : stepP 6 p6 w = some ⟨6, (fl w 28 4), 1, false, (fl w 12 4), (fl w 16 4), 0, 0, (16 * fl w 8 4 + fl w 0 4), true, 0, 0, false, false, false, false, (tb w 24), (tb w 23), (tb w 21 || !tb w 24), false, 0, false, false, false⟩ := by
  simp [stepP, commonP, f6_99, f6_80, f6_85, f6_87, f6_110, f6_100, f6_73, g6_80, g6_85, g6_87, f6_65, g6_65, f6_66, g6_66, f6_70, g6_70, f6_72, g6_72, f6_75, g6_75, f6_76, g6_76, f6_81, g6_81, f6_83, g6_83, f6_97, g6_97, f6_108, g6_108, f6_109, g6_109, f6_111, g6_111, f6_115, g6_115, f6_116, g6_116, (show p6[6]? = some 48 from rfl), (show p6[9]? = some 49 from rfl), (show p6[11]? = some 48 from rfl), (show p6[27]? = some 49 from rfl)]
theorem f7_65 (w : Int) : F p7 w 65 = 0 := rfl
theorem g7_65 (w : Int) : flag p7 w 65 = false := rfl
theorem f7_66 (w : Int) : F p7 w 66 = 0 := rfl
theorem g7_66 (w : Int) : flag p7 w 66 = false := rfl
theorem f7_70 (w : Int) : F p7 w 70 = 0 := rfl
theorem g7_70 (w : Int) : flag p7 w 70 = false := rfl
theorem f7_72 (w : Int) : F p7 w 72 = 0 := rfl
theorem g7_72 (w : Int) : flag p7 w 72 = false := rfl
theorem f7_73 (w : Int) : F p7 w 73 = 0 := rfl
theorem g7_73 (w : Int) : flag p7 w 73 = false := rfl
theorem f7_75 (w : Int) : F p7 w 75 = 0 := rfl
theorem g7_75 (w : Int) : flag p7 w 75 = false := rfl
theorem f7_76 (w : Int) : F p7 w 76 = 0 := rfl
theorem g7_76 (w : Int) : flag p7 w 76 = false := rfl
theorem f7_80 (w : Int) : F p7 w 80 = 0 := rfl
theorem g7_80 (w : Int) : flag p7 w 80 = false := rfl
theorem f7_81 (w : Int) : F p7 w 81 = 0 := rfl
theorem g7_81 (w : Int) : flag p7 w 81 = false := rfl
theorem f7_83 (w : Int) : F p7 w 83 = 0 := rfl
theorem g7_83 (w : Int) : flag p7 w 83 = false := rfl
theorem f7_85 (w : Int) : F p7 w 85 = 0 := rfl
theorem g7_85 (w : Int) : flag p7 w 85 = false := rfl
theorem f7_87 (w : Int) : F p7 w 87 = 0 := rfl
theorem g7_87 (w : Int) : flag p7 w 87 = false := rfl
theorem f7_97 (w : Int) : F p7 w 97 = 0 := rfl
theorem g7_97 (w : Int) : flag p7 w 97 = false := rfl
theorem f7_100 (w : Int) : F p7 w 100 = 0 := rfl
theorem g7_100 (w : Int) : flag p7 w 100 = false := rfl
theorem f7_108 (w : Int) : F p7 w 108 = 0 := rfl
theorem g7_108 (w : Int) : flag p7 w 108 = false := rfl
theorem f7_110 (w : Int) : F p7 w 110 = 0 := rfl
theorem g7_110 (w : Int) : flag p7 w 110 = false := rfl
theorem f7_111 (w : Int) : F p7 w 111 = 0 := rfl
theorem g7_111 (w : Int) : flag p7 w 111 = false := rfl
theorem f7_115 (w : Int) : F p7 w 115 = 0 := rfl
theorem g7_115 (w : Int) : flag p7 w 115 = false := rfl
theorem f7_116 (w : Int) : F p7 w 116 = 0 := rfl
theorem g7_116 (w : Int) : flag p7 w 116 = false := rfl
theorem step7 (w : Int) : stepP 5 p7 w = some ⟨5, (fl w 28 4), 0, false, 0, 0, 0, (fl w 0 4), 0, false, 0, 0, false, false, false, false, false, false, false, false, 0, false, false, false⟩ := by
  simp [stepP, commonP, f7_99, f7_109, f7_65, g7_65, f7_66, g7_66, f7_70, g7_70, f7_72, g7_72, f7_73, g7_73, f7_75, g7_75, f7_76, g7_76, f7_80, g7_80, f7_81, g7_81, f7_83, g7_83, f7_85, g7_85, f7_87, g7_87, f7_97, g7_97, f7_100, g7_100, f7_108, g7_108, f7_110, g7_110, f7_111, g7_111, f7_115, g7_115, f7_116, g7_116, (show p7[6]? = some 48 from rfl), (show p7[9]? = some 48 from rfl), (show p7[11]? = some 48 from rfl), (show p7[27]? = some 49 from rfl)]
theorem f8_65 (w : Int) : F p8 w 65 = 0 := rfl
theorem g8_65 (w : Int) : flag p8 w 65 = false := rfl
theorem f8_66 (w : Int) : F p8 w 66 = 0 := rfl
theorem g8_66 (w : Int) : flag p8 w 66 = false := rfl
theorem f8_70 (w : Int) : F p8 w 70 = 0 := rfl
theorem g8_70 (w : Int) : flag p8 w 70 = false := rfl
theorem f8_72 (w : Int) : F p8 w 72 = 0 := rfl
theorem g8_72 (w : Int) : flag p8 w 72 = false := rfl
theorem f8_73 (w : Int) : F p8 w 73 = 0 := rfl
theorem g8_73 (w : Int) : flag p8 w 73 = false := rfl
theorem f8_75 (w : Int) : F p8 w 75 = 0 := rfl
theorem g8_75 (w : Int) : flag p8 w 75 = false := rfl
theorem f8_76 (w : Int) : F p8 w 76 = 0 := rfl
theorem g8_76 (w : Int) : flag p8 w 76 = false := rfl
theorem f8_80 (w : Int) : F p8 w 80 = 0 := rfl
theorem g8_80 (w : Int) : flag p8 w 80 = false := rfl
theorem f8_83 (w : Int) : F p8 w 83 = 0 := rfl
theorem g8_83 (w : Int) : flag p8 w 83 = false := rfl
theorem f8_85 (w : Int) : F p8 w 85 = 0 := rfl
theorem g8_85 (w : Int) : flag p8 w 85 = false := rfl
theorem f8_87 (w : Int) : F p8 w 87 = 0 := rfl
theorem g8_87 (w : Int) : flag p8 w 87 = false := rfl
theorem f8_97 (w : Int) : F p8 w 97 = 0 := rfl
theorem g8_97 (w : Int) : flag p8 w 97 = false := rfl
theorem f8_108 (w : Int) : F p8 w 108 = 0 := rfl
theorem g8_108 (w : Int) : flag p8 w 108 = false := rfl
theorem f8_109 (w : Int) : F p8 w 109 = 0 := rfl
theorem g8_109 (w : Int) : flag p8 w 109 = false := rfl
theorem f8_110 (w : Int) : F p8 w 110 = 0 := rfl
theorem g8_110 (w : Int) : flag p8 w 110 = false := rfl
theorem f8_111 (w : Int) : F p8 w 111 = 0 := rfl
theorem g8_111 (w : Int) : flag p8 w 111 = false := rfl
theorem f8_115 (w : Int) : F p8 w 115 = 0 := rfl
theorem g8_115 (w : Int) : flag p8 w 115 = false := rfl
theorem f8_116 (w : Int) : F p8 w 116 = 0 := rfl
theorem g8_116 (w : Int) : flag p8 w 116 = false := rfl
theorem step8 (w : Int) : stepP 11 p8 w = some ⟨11, (fl w 28 4), 0, false, (fl w 12 4), 0, 0, 0, 0, false, 0, 0, false, false, false, false, false, false, false, (tb w 22), 0, false, false, false⟩ := by
  simp [stepP, commonP, f8_99, f8_81, f8_100, g8_81, f8_65, g8_65, f8_66, g8_66, f8_70, g8_70, f8_72, g8_72, f8_73, g8_73, f8_75, g8_75, f8_76, g8_76, f8_80, g8_80, f8_83, g8_83, f8_85, g8_85, f8_87, g8_87, f8_97, g8_97, f8_108, g8_108, f8_109, g8_109, f8_110, g8_110, f8_111, g8_111, f8_115, g8_115, f8_116, g8_116, (show p8[6]? = some 48 from rfl), (show p8[9]? = some 81 from rfl), (show p8[11]? = some 48 from rfl), (show p8[27]? = some 48 from rfl)]
theorem f9_65 (w : Int) : F p9 w 65 = 0 := rfl
theorem g9_65 (w : Int) : flag p9 w 65 = false := rfl
theorem f9_66 (w : Int) : F p9 w 66 = 0 := rfl
theorem g9_66 (w : Int) : flag p9 w 66 = false := rfl
theorem f9_70 (w : Int) : F p9 w 70 = 0 := rfl
theorem g9_70 (w : Int) : flag p9 w 70 = false := rfl
theorem f9_72 (w : Int) : F p9 w 72 = 0 := rfl
theorem g9_72 (w : Int) : flag p9 w 72 = false := rfl
theorem f9_73 (w : Int) : F p9 w 73 = 0 := rfl
theorem g9_73 (w : Int) : flag p9 w 73 = false := rfl
theorem f9_75 (w : Int) : F p9 w 75 = 0 := rfl
theorem g9_75 (w : Int) : flag p9 w 75 = false := rfl
theorem f9_76 (w : Int) : F p9 w 76 = 0 := rfl
theorem g9_76 (w : Int) : flag p9 w 76 = false := rfl
theorem f9_80 (w : Int) : F p9 w 80 = 0 := rfl
theorem g9_80 (w : Int) : flag p9 w 80 = false := rfl
theorem f9_83 (w : Int) : F p9 w 83 = 0 := rfl
theorem g9_83 (w : Int) : flag p9 w 83 = false := rfl
theorem f9_85 (w : Int) : F p9 w 85 = 0 := rfl
theorem g9_85 (w : Int) : flag p9 w 85 = false := rfl
theorem f9_87 (w : Int) : F p9 w 87 = 0 := rfl
theorem g9_87 (w : Int) : flag p9 w 87 = false := rfl
theorem f9_97 (w : Int) : F p9 w 97 = 0 := rfl
theorem g9_97 (w : Int) : flag p9 w 97 = false := rfl
theorem f9_100 (w : Int) : F p9 w 100 = 0 := rfl
theorem g9_100 (w : Int) : flag p9 w 100 = false := rfl
theorem f9_110 (w : Int) : F p9 w 110 = 0 := rfl
theorem g9_110 (w : Int) : flag p9 w 110 = false := rfl
theorem f9_111 (w : Int) : F p9 w 111 = 0 := rfl
theorem g9_111 (w : Int) : flag p9 w 111 = false := rfl
theorem f9_115 (w : Int) : F p9 w 115 = 0 := rfl
theorem g9_115 (w : Int) : flag p9 w 115 = false := rfl
theorem f9_116 (w : Int) : F p9 w 116 = 0 := rfl
theorem g9_116 (w : Int) : flag p9 w 116 = false := rfl
theorem step9 (w : Int) : stepP 12 p9 w = some ⟨12, (fl w 28 4), 0, false, 0, 0, 0, (fl w 0 4), 0, false, 0, 0, false, false, false, false, false, false, false, (tb w 22), (fl w 16 4), false, false, false⟩ := by
  simp [stepP, commonP, f9_99, f9_81, f9_108, f9_109, g9_81, f9_65, g9_65, f9_66, g9_66, f9_70, g9_70, f9_72, g9_72, f9_73, g9_73, f9_75, g9_75, f9_76, g9_76, f9_80, g9_80, f9_83, g9_83, f9_85, g9_85, f9_87, g9_87, f9_97, g9_97, f9_100, g9_100, f9_110, g9_110, f9_111, g9_111, f9_115, g9_115, f9_116, g9_116, (show p9[6]? = some 48 from rfl), (show p9[9]? = some 81 from rfl), (show p9[11]? = some 48 from rfl), (show p9[27]? = some 48 from rfl)]
theorem f10_65 (w : Int) : F p10 w 65 = 0 := rfl
theorem g10_65 (w : Int) : flag p10 w 65 = false := rfl
theorem f10_66 (w : Int) : F p10 w 66 = 0 := rfl
theorem g10_66 (w : Int) : flag p10 w 66 = false := rfl
theorem f10_70 (w : Int) : F p10 w 70 = 0 := rfl
theorem g10_70 (w : Int) : flag p10 w 70 = false := rfl
theorem f10_72 (w : Int) : F p10 w 72 = 0 := rfl
theorem g10_72 (w : Int) : flag p10 w 72 = false := rfl
theorem f10_75 (w : Int) : F p10 w 75 = 0 := rfl
theorem g10_75 (w : Int) : flag p10 w 75 = false := rfl
theorem f10_76 (w : Int) : F p10 w 76 = 0 := rfl
theorem g10_76 (w : Int) : flag p10 w 76 = false := rfl
theorem f10_80 (w : Int) : F p10 w 80 = 0 := rfl
theorem g10_80 (w : Int) : flag p10 w 80 = false := rfl
theorem f10_83 (w : Int) : F p10 w 83 = 0 := rfl
theorem g10_83 (w : Int) : flag p10 w 83 = false := rfl
theorem f10_85 (w : Int) : F p10 w 85 = 0 := rfl
theorem g10_85 (w : Int) : flag p10 w 85 = false := rfl
theorem f10_87 (w : Int) : F p10 w 87 = 0 := rfl
theorem g10_87 (w : Int) : flag p10 w 87 = false := rfl
theorem f10_100 (w : Int) : F p10 w 100 = 0 := rfl
theorem g10_100 (w : Int) : flag p10 w 100 = false := rfl
theorem f10_109 (w : Int) : F p10 w 109 = 0 := rfl
theorem g10_109 (w : Int) : flag p10 w 109 = false := rfl
theorem f10_110 (w : Int) : F p10 w 110 = 0 := rfl
theorem g10_110 (w : Int) : flag p10 w 110 = false := rfl
theorem f10_111 (w : Int) : F p10 w 111 = 0 := rfl
theorem g10_111 (w : Int) : flag p10 w 111 = false := rfl
theorem f10_115 (w : Int) : F p10 w 115 = 0 := rfl
theorem g10_115 (w : Int) : flag p10 w 115 = false := rfl
theorem f10_116 (w : Int) : F p10 w 116 = 0 := rfl
theorem g10_116 (w : Int) : flag p10 w 116 = false := rfl
theorem step10 (w : Int) : stepP 12 p10 w = some ⟨12, (fl w 28 4), 0, false, 0, 0, 0, 0, (fl w 0 8), true, 0, (fl w 8 4), false, false, false, false, false, false, false, (tb w 22), (fl w 16 4), false, false, false⟩ := by
  simp [stepP, commonP, f10_99, f10_81, f10_108, f10_97, f10_73, g10_81, f10_65, g10_65, f10_66, g10_66, f10_70, g10_70, f10_72, g10_72, f10_75, g10_75, f10_76, g10_76, f10_80, g10_80, f10_83, g10_83, f10_85, g10_85, f10_87, g10_87, f10_100, g10_100, f10_109, g10_109, f10_110, g10_110, f10_111, g10_111, f10_115, g10_115, f10_116, g10_116, (show p10[6]? = some 49 from rfl), (show p10[9]? = some 81 from rfl), (show p10[11]? = some 48 from rfl), (show p10[27]? = some 73 from rfl)]
theorem f11_65 (w : Int) : F p11 w 65 = 0 := rfl
theorem g11_65 (w : Int) : flag p11 w 65 = false := rfl
theorem f11_66 (w : Int) : F p11 w 66 = 0 := rfl
theorem g11_66 (w : Int) : flag p11 w 66 = false := rfl
theorem f11_72 (w : Int) : F p11 w 72 = 0 := rfl
theorem g11_72 (w : Int) : flag p11 w 72 = false := rfl
theorem f11_73 (w : Int) : F p11 w 73 = 0 := rfl
theorem g11_73 (w : Int) : flag p11 w 73 = false := rfl
theorem f11_75 (w : Int) : F p11 w 75 = 0 := rfl
theorem g11_75 (w : Int) : flag p11 w 75 = false := rfl
theorem f11_76 (w : Int) : F p11 w 76 = 0 := rfl
theorem g11_76 (w : Int) : flag p11 w 76 = false := rfl
theorem f11_80 (w : Int) : F p11 w 80 = 0 := rfl
theorem g11_80 (w : Int) : flag p11 w 80 = false := rfl
theorem f11_81 (w : Int) : F p11 w 81 = 0 := rfl
theorem g11_81 (w : Int) : flag p11 w 81 = false := rfl
theorem f11_83 (w : Int) : F p11 w 83 = 0 := rfl
theorem g11_83 (w : Int) : flag p11 w 83 = false := rfl
theorem f11_85 (w : Int) : F p11 w 85 = 0 := rfl
theorem g11_85 (w : Int) : flag p11 w 85 = false := rfl
theorem f11_87 (w : Int) : F p11 w 87 = 0 := rfl
theorem g11_87 (w : Int) : flag p11 w 87 = false := rfl
theorem f11_108 (w : Int) : F p11 w 108 = 0 := rfl
theorem g11_108 (w : Int) : flag p11 w 108 = false := rfl
theorem f11_115 (w : Int) : F p11 w 115 = 0 := rfl
theorem g11_115 (w : Int) : flag p11 w 115 = false := rfl
theorem step11 (w : Int) : stepP 1 p11 w = if 8 ≤ fl w 21 4 ∧ fl w 21 4 ≤ 11 ∧ tb w 20 = false then none else some ⟨1, (fl w 28 4), (fl w 21 4), (tb w 20), (fl w 12 4), (fl w 16 4), 0, (fl w 0 4), 0, false, (fl w 5 2), (fl w 7 5), false, false, false, false, false, false, false, false, 0, false, false, false⟩ := by
  simp [stepP, commonP, f11_99, f11_111, f11_70, f11_110, f11_100, f11_97, f11_116, f11_109, g11_70, f11_65, g11_65, f11_66, g11_66, f11_72, g11_72, f11_73, g11_73, f11_75, g11_75, f11_76, g11_76, f11_80, g11_80, f11_81, g11_81, f11_83, g11_83, f11_85, g11_85, f11_87, g11_87, f11_108, g11_108, f11_115, g11_115, (show p11[6]? = some 48 from rfl), (show p11[9]? = some 111 from rfl), (show p11[11]? = some 70 from rfl), (show p11[27]? = some 48 from rfl)]
theorem f12_65 (w : Int) : F p12 w 65 = 0 := rfl
theorem g12_65 (w : Int) : flag p12 w 65 = false := rfl
theorem f12_66 (w : Int) : F p12 w 66 = 0 := rfl
theorem g12_66 (w : Int) : flag p12 w 66 = false := rfl
theorem f12_72 (w : Int) : F p12 w 72 = 0 := rfl
theorem g12_72 (w : Int) : flag p12 w 72 = false := rfl
theorem f12_73 (w : Int) : F p12 w 73 = 0 := rfl
theorem g12_73 (w : Int) : flag p12 w 73 = false := rfl
theorem f12_75 (w : Int) : F p12 w 75 = 0 := rfl
theorem g12_75 (w : Int) : flag p12 w 75 = false := rfl
theorem f12_76 (w : Int) : F p12 w 76 = 0 := rfl
theorem g12_76 (w : Int) : flag p12 w 76 = false := rfl
theorem f12_80 (w : Int) : F p12 w 80 = 0 := rfl
theorem g12_80 (w : Int) : flag p12 w 80 = false := rfl
theorem f12_81 (w : Int) : F p12 w 81 = 0 := rfl
theorem g12_81 (w : Int) : flag p12 w 81 = false := rfl
theorem f12_83 (w : Int) : F p12 w 83 = 0 := rfl
theorem g12_83 (w : Int) : flag p12 w 83 = false := rfl
theorem f12_85 (w : Int) : F p12 w 85 = 0 := rfl
theorem g12_85 (w : Int) : flag p12 w 85 = false := rfl
theorem f12_87 (w : Int) : F p12 w 87 = 0 := rfl
theorem g12_87 (w : Int) : flag p12 w 87 = false := rfl
theorem f12_97 (w : Int) : F p12 w 97 = 0 := rfl
theorem g12_97 (w : Int) : flag p12 w 97 = false := rfl
theorem f12_108 (w : Int) : F p12 w 108 = 0 := rfl
theorem g12_108 (w : Int) : flag p12 w 108 = false := rfl
theorem step12 (w : Int) : stepP 1 p12 w = if 8 ≤ fl w 21 4 ∧ fl w 21 4 ≤ 11 ∧ tb w 20 = false then none else some ⟨1, (fl w 28 4), (fl w 21 4), (tb w 20), (fl w 12 4), (fl w 16 4), (fl w 8 4), (fl w 0 4), 0, false, (fl w 5 2), 0, true, false, false, false, false, false, false, false, 0, false, false, false⟩ := by
  simp [stepP, commonP, f12_99, f12_111, f12_70, f12_110, f12_100, f12_115, f12_116, f12_109, g12_70, f12_65, g12_65, f12_66, g12_66, f12_72, g12_72, f12_73, g12_73, f12_75, g12_75, f12_76, g12_76, f12_80, g12_80, f12_81, g12_81, f12_83, g12_83, f12_85, g12_85, f12_87, g12_87, f12_97, g12_97, f12_108, g12_108, (show p12[6]? = some 48 from rfl), (show p12[9]? = some 111 from rfl), (show p12[11]? = some 70 from rfl), (show p12[27]? = some 49 from rfl)]
theorem f13_65 (w : Int) : F p13 w 65 = 0 := rfl
theorem g13_65 (w : Int) : flag p13 w 65 = false := rfl
theorem f13_66 (w : Int) : F p13 w 66 = 0 := rfl
theorem g13_66 (w : Int) : flag p13 w 66 = false := rfl
theorem f13_72 (w : Int) : F p13 w 72 = 0 := rfl
theorem g13_72 (w : Int) : flag p13 w 72 = false := rfl
theorem f13_75 (w : Int) : F p13 w 75 = 0 := rfl
theorem g13_75 (w : Int) : flag p13 w 75 = false := rfl
theorem f13_76 (w : Int) : F p13 w 76 = 0 := rfl
theorem g13_76 (w : Int) : flag p13 w 76 = false := rfl
theorem f13_80 (w : Int) : F p13 w 80 = 0 := rfl
theorem g13_80 (w : Int) : flag p13 w 80 = false := rfl
theorem f13_81 (w : Int) : F p13 w 81 = 0 := rfl
theorem g13_81 (w : Int) : flag p13 w 81 = false := rfl
theorem f13_83 (w : Int) : F p13 w 83 = 0 := rfl
theorem g13_83 (w : Int) : flag p13 w 83 = false := rfl
theorem f13_85 (w : Int) : F p13 w 85 = 0 := rfl
theorem g13_85 (w : Int) : flag p13 w 85 = false := rfl
theorem f13_87 (w : Int) : F p13 w 87 = 0 := rfl
theorem g13_87 (w : Int) : flag p13 w 87 = false := rfl
theorem f13_108 (w : Int) : F p13 w 108 = 0 := rfl
theorem g13_108 (w : Int) : flag p13 w 108 = false := rfl
theorem f13_109 (w : Int) : F p13 w 109 = 0 := rfl
theorem g13_109 (w : Int) : flag p13 w 109 = false := rfl
theorem f13_115 (w : Int) : F p13 w 115 = 0 := rfl
theorem g13_115 (w : Int) : flag p13 w 115 = false := rfl
theorem f13_116 (w : Int) : F p13 w 116 = 0 := rfl
theorem g13_116 (w : Int) : flag p13 w 116 = false := rfl
theorem step13 (w : Int) : stepP 1 p13 w = if 8 ≤ fl w 21 4 ∧ fl w 21 4 ≤ 11 ∧ tb w 20 = false then none else some ⟨1, (fl w 28 4), (fl w 21 4), (tb w 20), (fl w 12 4), (fl w 16 4), 0, 0, (fl w 0 8), true, 0, (fl w 8 4), false, false, false, false, false, false, false, false, 0, false, false, false⟩ := by
  simp [stepP, commonP, f13_99, f13_111, f13_70, f13_110, f13_100, f13_97, f13_73, g13_70, f13_65, g13_65, f13_66, g13_66, f13_72, g13_72, f13_75, g13_75, f13_76, g13_76, f13_80, g13_80, f13_81, g13_81, f13_83, g13_83, f13_85, g13_85, f13_87, g13_87, f13_108, g13_108, f13_109, g13_109, f13_115, g13_115, f13_116, g13_116, (show p13[6]? = some 49 from rfl), (show p13[9]? = some 111 from rfl), (show p13[11]? = some 70 from rfl), (show p13[27]? = some 73 from rfl)]
theorem f14_65 (w : Int) : F p14 w 65 = 0 := rfl
theorem g14_65 (w : Int) : flag p14 w 65 = false := rfl
theorem f14_70 (w : Int) : F p14 w 70 = 0 := rfl
theorem g14_70 (w : Int) : flag p14 w 70 = false := rfl
theorem f14_72 (w : Int) : F p14 w 72 = 0 := rfl
theorem g14_72 (w : Int) : flag p14 w 72 = false := rfl
theorem f14_75 (w : Int) : F p14 w 75 = 0 := rfl
theorem g14_75 (w : Int) : flag p14 w 75 = false := rfl
theorem f14_81 (w : Int) : F p14 w 81 = 0 := rfl
theorem g14_81 (w : Int) : flag p14 w 81 = false := rfl
theorem f14_83 (w : Int) : F p14 w 83 = 0 := rfl
theorem g14_83 (w : Int) : flag p14 w 83 = false := rfl
theorem f14_97 (w : Int) : F p14 w 97 = 0 := rfl
theorem g14_97 (w : Int) : flag p14 w 97 = false := rfl
theorem f14_108 (w : Int) : F p14 w 108 = 0 := rfl
theorem g14_108 (w : Int) : flag p14 w 108 = false := rfl
theorem f14_109 (w : Int) : F p14 w 109 = 0 := rfl
theorem g14_109 (w : Int) : flag p14 w 109 = false := rfl
theorem f14_111 (w : Int) : F p14 w 111 = 0 := rfl
theorem g14_111 (w : Int) : flag p14 w 111 = false := rfl
theorem f14_115 (w : Int) : F p14 w 115 = 0 := rfl
theorem g14_115 (w : Int) : flag p14 w 115 = false := rfl
theorem f14_116 (w : Int) : F p14 w 116 = 0 := rfl
theorem g14_116 (w : Int) : flag p14 w 116 = false := rfl
theorem step14 (w : Int) : stepP 7 p14 w = some ⟨7, (fl w 28 4), 0, false, (fl w 12 4), (fl w 16 4), 0, 0, (fl w 0 12), true, 0, 0, false, (tb w 20), (tb w 22), false, (tb w 24), (tb w 23), (tb w 21 || !tb w 24), false, 0, false, false, false⟩ := by
  simp [stepP, commonP, f14_99, f14_80, f14_85, f14_66, f14_87, f14_76, f14_110, f14_100, f14_73, g14_80, g14_85, g14_66, g14_87, g14_76, f14_65, g14_65, f14_70, g14_70, f14_72, g14_72, f14_75, g14_75, f14_81, g14_81, f14_83, g14_83, f14_97, g14_97, f14_108, g14_108, f14_109, g14_109, f14_111, g14_111, f14_115, g14_115, f14_116, g14_116, (show p14[6]? = some 48 from rfl), (show p14[9]? = some 66 from rfl), (show p14[11]? = some 76 from rfl), (show p14[27]? = some 73 from rfl)]
theorem f15_65 (w : Int) : F p15 w 65 = 0 := rfl
theorem g15_65 (w : Int) : flag p15 w 65 = false := rfl
theorem f15_70 (w : Int) : F p15 w 70 = 0 := rfl
theorem g15_70 (w : Int) : flag p15 w 70 = false := rfl
theorem f15_72 (w : Int) : F p15 w 72 = 0 := rfl
theorem g15_72 (w : Int) : flag p15 w 72 = false := rfl
theorem f15_73 (w : Int) : F p15 w 73 = 0 := rfl
theorem g15_73 (w : Int) : flag p15 w 73 = false := rfl
theorem f15_75 (w : Int) : F p15 w 75 = 0 := rfl
theorem g15_75 (w : Int) : flag p15 w 75 = false := rfl
theorem f15_81 (w : Int) : F p15 w 81 = 0 := rfl
theorem g15_81 (w : Int) : flag p15 w 81 = false := rfl
theorem f15_83 (w : Int) : F p15 w 83 = 0 := rfl
theorem g15_83 (w : Int) : flag p15 w 83 = false := rfl
theorem f15_108 (w : Int) : F p15 w 108 = 0 := rfl
theorem g15_108 (w : Int) : flag p15 w 108 = false := rfl
theorem f15_111 (w : Int) : F p15 w 111 = 0 := rfl
theorem g15_111 (w : Int) : flag p15 w 111 = false := rfl
theorem f15_115 (w : Int) : F p15 w 115 = 0 := rfl
theorem g15_115 (w : Int) : flag p15 w 115 = false := rfl
theorem step15 (w : Int) : stepP 7 p15 w = some ⟨7, (fl w 28 4), 0, false, (fl w 12 4), (fl w 16 4), 0, (fl w 0 4), 0, false, (fl w 5 2), (fl w 7 5), false, (tb w 20), (tb w 22), false, (tb w 24), (tb w 23), (tb w 21 || !tb w 24), false, 0, false, false, false⟩ := by
  simp [stepP, commonP, f15_99, f15_80, f15_85, f15_66, f15_87, f15_76, f15_110, f15_100, f15_97, f15_116, f15_109, g15_80, g15_85, g15_66, g15_87, g15_76, f15_65, g15_65, f15_70, g15_70, f15_72, g15_72, f15_73, g15_73, f15_75, g15_75, f15_81, g15_81, f15_83, g15_83, f15_108, g15_108, f15_111, g15_111, f15_115, g15_115, (show p15[6]? = some 49 from rfl), (show p15[9]? = some 66 from rfl), (show p15[11]? = some 76 from rfl), (show p15[27]? = some 48 from rfl)]
theorem f16_65 (w : Int) : F p16 w 65 = 0 := rfl
theorem g16_65 (w : Int) : flag p16 w 65 = false := rfl
theorem f16_66 (w : Int) : F p16 w 66 = 0 := rfl
theorem g16_66 (w : Int) : flag p16 w 66 = false := rfl
theorem f16_70 (w : Int) : F p16 w 70 = 0 := rfl
theorem g16_70 (w : Int) : flag p16 w 70 = false := rfl
theorem f16_72 (w : Int) : F p16 w 72 = 0 := rfl
theorem g16_72 (w : Int) : flag p16 w 72 = false := rfl
theorem f16_73 (w : Int) : F p16 w 73 = 0 := rfl
theorem g16_73 (w : Int) : flag p16 w 73 = false := rfl
theorem f16_75 (w : Int) : F p16 w 75 = 0 := rfl
theorem g16_75 (w : Int) : flag p16 w 75 = false := rfl
theorem f16_83 (w : Int) : F p16 w 83 = 0 := rfl
theorem g16_83 (w : Int) : flag p16 w 83 = false := rfl
theorem f16_97 (w : Int) : F p16 w 97 = 0 := rfl
theorem g16_97 (w : Int) : flag p16 w 97 = false := rfl
theorem f16_100 (w : Int) : F p16 w 100 = 0 := rfl
theorem g16_100 (w : Int) : flag p16 w 100 = false := rfl
theorem f16_109 (w : Int) : F p16 w 109 = 0 := rfl
theorem g16_109 (w : Int) : flag p16 w 109 = false := rfl
theorem f16_111 (w : Int) : F p16 w 111 = 0 := rfl
theorem g16_111 (w : Int) : flag p16 w 111 = false := rfl
theorem f16_115 (w : Int) : F p16 w 115 = 0 := rfl
theorem g16_115 (w : Int) : flag p16 w 115 = false := rfl
theorem f16_116 (w : Int) : F p16 w 116 = 0 := rfl
theorem g16_116 (w : Int) : flag p16 w 116 = false := rfl
theorem step16 (w : Int) : stepP 8 p16 w = some ⟨8, (fl w 28 4), 0, false, 0, (fl w 16 4), 0, 0, 0, false, 0, 0, false, (tb w 20), false, false, (tb w 24), (tb w 23), (tb w 21), (tb w 22), (fl w 0 16), false, false, false⟩ := by
  simp [stepP, commonP, f16_99, f16_80, f16_85, f16_81, f16_87, f16_76, f16_110, f16_108, g16_80, g16_85, g16_81, g16_87, g16_76, f16_65, g16_65, f16_66, g16_66, f16_70, g16_70, f16_72, g16_72, f16_73, g16_73, f16_75, g16_75, f16_83, g16_83, f16_97, g16_97, f16_100, g16_100, f16_109, g16_109, f16_111, g16_111, f16_115, g16_115, f16_116, g16_116, (show p16[6]? = some 48 from rfl), (show p16[9]? = some 81 from rfl), (show p16[11]? = some 76 from rfl), (show p16[27]? = some 108 from rfl)]
theorem f17_65 (w : Int) : F p17 w 65 = 0 := rfl
theorem g17_65 (w : Int) : flag p17 w 65 = false := rfl
theorem f17_66 (w : Int) : F p17 w 66 = 0 := rfl
theorem g17_66 (w : Int) : flag p17 w 66 = false := rfl
theorem f17_70 (w : Int) : F p17 w 70 = 0 := rfl
theorem g17_70 (w : Int) : flag p17 w 70 = false := rfl
theorem f17_72 (w : Int) : F p17 w 72 = 0 := rfl
theorem g17_72 (w : Int) : flag p17 w 72 = false := rfl
theorem f17_76 (w : Int) : F p17 w 76 = 0 := rfl
theorem g17_76 (w : Int) : flag p17 w 76 = false := rfl
theorem f17_80 (w : Int) : F p17 w 80 = 0 := rfl
theorem g17_80 (w : Int) : flag p17 w 80 = false := rfl
theorem f17_81 (w : Int) : F p17 w 81 = 0 := rfl
theorem g17_81 (w : Int) : flag p17 w 81 = false := rfl
theorem f17_83 (w : Int) : F p17 w 83 = 0 := rfl
theorem g17_83 (w : Int) : flag p17 w 83 = false := rfl
theorem f17_85 (w : Int) : F p17 w 85 = 0 := rfl
theorem g17_85 (w : Int) : flag p17 w 85 = false := rfl
theorem f17_87 (w : Int) : F p17 w 87 = 0 := rfl
theorem g17_87 (w : Int) : flag p17 w 87 = false := rfl
theorem f17_97 (w : Int) : F p17 w 97 = 0 := rfl
theorem g17_97 (w : Int) : flag p17 w 97 = false := rfl
theorem f17_100 (w : Int) : F p17 w 100 = 0 := rfl
theorem g17_100 (w : Int) : flag p17 w 100 = false := rfl
theorem f17_108 (w : Int) : F p17 w 108 = 0 := rfl
theorem g17_108 (w : Int) : flag p17 w 108 = false := rfl
theorem f17_109 (w : Int) : F p17 w 109 = 0 := rfl
theorem g17_109 (w : Int) : flag p17 w 109 = false := rfl
theorem f17_110 (w : Int) : F p17 w 110 = 0 := rfl
theorem g17_110 (w : Int) : flag p17 w 110 = false := rfl
theorem f17_111 (w : Int) : F p17 w 111 = 0 := rfl
theorem g17_111 (w : Int) : flag p17 w 111 = false := rfl
theorem f17_115 (w : Int) : F p17 w 115 = 0 := rfl
theorem g17_115 (w : Int) : flag p17 w 115 = false := rfl
theorem f17_116 (w : Int) : F p17 w 116 = 0 := rfl
theorem g17_116 (w : Int) : flag p17 w 116 = false := rfl
theorem step17 (w : Int) : stepP 9 p17 w = some ⟨9, (fl w 28 4), 0, false, 0, 0, 0, 0, ((if 8388608 ≤ fl w 0 24 then (fl w 0 24 - 16777216) % 4294967296 else fl w 0 24) * 4 % 4294967296), false, 0, 0, false, false, false, false, false, false, false, false, 0, (tb w 24), false, false⟩ := by
  simp [stepP, commonP, f17_99, f17_75, f17_73, g17_75, f17_65, g17_65, f17_66, g17_66, f17_70, g17_70, f17_72, g17_72, f17_76, g17_76, f17_80, g17_80, f17_81, g17_81, f17_83, g17_83, f17_85, g17_85, f17_87, g17_87, f17_97, g17_97, f17_100, g17_100, f17_108, g17_108, f17_109, g17_109, f17_110, g17_110, f17_111, g17_111, f17_115, g17_115, f17_116, g17_116, (show p17[6]? = some 49 from rfl), (show p17[9]? = some 73 from rfl), (show p17[11]? = some 73 from rfl), (show p17[27]? = some 73 from rfl)]
theorem f18_65 (w : Int) : F p18 w 65 = 0 := rfl
theorem g18_65 (w : Int) : flag p18 w 65 = false := rfl
theorem f18_66 (w : Int) : F p18 w 66 = 0 := rfl
theorem g18_66 (w : Int) : flag p18 w 66 = false := rfl
theorem f18_70 (w : Int) : F p18 w 70 = 0 := rfl
theorem g18_70 (w : Int) : flag p18 w 70 = false := rfl
theorem f18_72 (w : Int) : F p18 w 72 = 0 := rfl
theorem g18_72 (w : Int) : flag p18 w 72 = false := rfl
theorem f18_75 (w : Int) : F p18 w 75 = 0 := rfl
theorem g18_75 (w : Int) : flag p18 w 75 = false := rfl
theorem f18_76 (w : Int) : F p18 w 76 = 0 := rfl
theorem g18_76 (w : Int) : flag p18 w 76 = false := rfl
theorem f18_80 (w : Int) : F p18 w 80 = 0 := rfl
theorem g18_80 (w : Int) : flag p18 w 80 = false := rfl
theorem f18_81 (w : Int) : F p18 w 81 = 0 := rfl
theorem g18_81 (w : Int) : flag p18 w 81 = false := rfl
theorem f18_83 (w : Int) : F p18 w 83 = 0 := rfl
theorem g18_83 (w : Int) : flag p18 w 83 = false := rfl
theorem f18_85 (w : Int) : F p18 w 85 = 0 := rfl
theorem g18_85 (w : Int) : flag p18 w 85 = false := rfl
theorem f18_87 (w : Int) : F p18 w 87 = 0 := rfl
theorem g18_87 (w : Int) : flag p18 w 87 = false := rfl
theorem f18_97 (w : Int) : F p18 w 97 = 0 := rfl
theorem g18_97 (w : Int) : flag p18 w 97 = false := rfl
theorem f18_100 (w : Int) : F p18 w 100 = 0 := rfl
theorem g18_100 (w : Int) : flag p18 w 100 = false := rfl
theorem f18_108 (w : Int) : F p18 w 108 = 0 := rfl
theorem g18_108 (w : Int) : flag p18 w 108 = false := rfl
theorem f18_109 (w : Int) : F p18 w 109 = 0 := rfl
theorem g18_109 (w : Int) : flag p18 w 109 = false := rfl
theorem f18_110 (w : Int) : F p18 w 110 = 0 := rfl
theorem g18_110 (w : Int) : flag p18 w 110 = false := rfl
theorem f18_111 (w : Int) : F p18 w 111 = 0 := rfl
theorem g18_111 (w : Int) : flag p18 w 111 = false := rfl
theorem f18_115 (w : Int) : F p18 w 115 = 0 := rfl
theorem g18_115 (w : Int) : flag p18 w 115 = false := rfl
theorem f18_116 (w : Int) : F p18 w 116 = 0 := rfl
theorem g18_116 (w : Int) : flag p18 w 116 = false := rfl
theorem step18 (w : Int) : stepP 10 p18 w = some ⟨10, (fl w 28 4), 0, false, 0, 0, 0, 0, (fl w 16 8), false, 0, 0, false, false, false, false, false, false, false, false, 0, false, false, false⟩ := by
  simp [stepP, commonP, f18_99, f18_73, f18_65, g18_65, f18_66, g18_66, f18_70, g18_70, f18_72, g18_72, f18_75, g18_75, f18_76, g18_76, f18_80, g18_80, f18_81, g18_81, f18_83, g18_83, f18_85, g18_85, f18_87, g18_87, f18_97, g18_97, f18_100, g18_100, f18_108, g18_108, f18_109, g18_109, f18_110, g18_110, f18_111, g18_111, f18_115, g18_115, f18_116, g18_116, (show p18[6]? = some 49 from rfl), (show p18[9]? = some 73 from rfl), (show p18[11]? = some 73 from rfl), (show p18[27]? = some 46 from rfl)]
theorem land_mask (n : Nat) : n &&& 264179711 = 4096 * (16 * (64 * (2 * (n / 8388608 % 32)) + n / 65536 % 64)) + n % 4096 := by
  have s1 := land_split 12 n 264179711
  have s2 := land_split 4 (n / 4096) 64496
  have s3 := land_split 6 (n / 4096 / 16) 4031
  have s4 := land_split 1 (n / 4096 / 16 / 64) 62
  have m1 : n % 2 ^ 12 &&& 264179711 % 2 ^ 12 = n % 4096 := by
    rw [show 264179711 % 2 ^ 12 = 2 ^ 12 - 1 by decide, Nat.and_two_pow_sub_one_eq_mod, Nat.mod_mod]
  have m2 : n / 4096 % 2 ^ 4 &&& 64496 % 2 ^ 4 = 0 := by rw [show 64496 % 2 ^ 4 = 0 by decide, Nat.and_zero]
  have m3 : n / 4096 / 16 % 2 ^ 6 &&& 4031 % 2 ^ 6 = n / 4096 / 16 % 64 := by
    rw [show 4031 % 2 ^ 6 = 2 ^ 6 - 1 by decide, Nat.and_two_pow_sub_one_eq_mod, Nat.mod_mod]
  have m4 : n / 4096 / 16 / 64 % 2 ^ 1 &&& 62 % 2 ^ 1 = 0 := by rw [show 62 % 2 ^ 1 = 0 by decide, Nat.and_zero]
  have m5 : n / 4096 / 16 / 64 / 2 ^ 1 &&& 62 / 2 ^ 1 = n / 4096 / 16 / 64 / 2 % 32 := by
    rw [show 62 / 2 ^ 1 = 2 ^ 5 - 1 by decide, Nat.and_two_pow_sub_one_eq_mod]
  rw [m4, m5] at s4
  rw [m3, show n / 4096 / 16 / 2 ^ 6 = n / 4096 / 16 / 64 by rfl, show 4031 / 2 ^ 6 = 62 by decide, s4] at s3
  rw [m2, show n / 4096 / 2 ^ 4 = n / 4096 / 16 by rfl, show 64496 / 2 ^ 4 = 4031 by decide, s3] at s2
  rw [m1, show n / 2 ^ 12 = n / 4096 by rfl, show 264179711 / 2 ^ 12 = 64496 by decide, s2] at s1
  rw [s1]
  omega
theorem mask_iff {w : Int} (h0 : 0 ≤ w) (h1 : w < 4294967296) : Go.bits .and .u32 w 264179711 = 17760256 ↔ (w % 4096 = 0 ∧ w / 65536 % 64 = 15 ∧ w / 8388608 % 32 = 2) := by
  obtain ⟨n, rfl⟩ := Int.eq_ofNat_of_zero_le h0
  rw [show (264179711 : Int) = ((264179711 : Nat) : Int) from rfl, and_nat .u32 ws_u32 n _ (by simp [IntKind.bits]; omega) (by decide), land_mask]
  omega
theorem q28 {w : Int} (h0 : 0 ≤ w) (h1 : w < 4294967296) : fl w 28 4 = w / 268435456 := by
  unfold fl; rw [show (2 : Int) ^ 28 = 268435456 from rfl, show (2 : Int) ^ 4 = 16 from rfl]; omega
theorem q8 (w : Int) : fl w 0 8 = w % 256 := by unfold fl; simp
theorem q12 (w : Int) : fl w 0 12 = w % 4096 := by unfold fl; simp
theorem q16 (w : Int) : fl w 0 16 = w % 65536 := by unfold fl; simp
theorem q24 (w : Int) : fl w 0 24 = w % 16777216 := by unfold fl; simp
theorem q168 (w : Int) : fl w 16 8 = w / 65536 % 256 := by unfold fl; rfl
theorem qh (w : Int) : 16 * fl w 8 4 + fl w 0 4 = w / 256 % 16 * 16 + w % 16 := by
  unfold fl; rw [show (2 : Int) ^ 8 = 256 from rfl, show (2 : Int) ^ 4 = 16 from rfl, show (2 : Int) ^ 0 = 1 from rfl]; omega
theorem qbx (w : Int) : w / 16 % 16777216 = fl w 4 24 := by unfold fl; rfl
theorem qz (w : Int) : w / 16 % 256 = fl w 4 8 := by unfold fl; rfl
theorem qbr (v : Int) : (if 8388608 ≤ v then (v - 16777216) % 4294967296 else v) * 4 % 4294967296 = (if v < 8388608 then v else v - 16777216) * 4 % 4294967296 := by
  split <;> split <;> omega

set_option maxHeartbeats 1000000 in
theorem dec0 (w : Int) (h0 : 0 ≤ w) (h1 : w < 4294967296) (h : fitsL p0 w = true) : decP w = ⟨2, (fl w 28 4), 0, (tb w 20), (fl w 16 4), (fl w 12 4), (fl w 8 4), (fl w 0 4), 0, false, 0, 0, false, false, false, false, false, false, false, false, 0, false, (tb w 21), false⟩ := by
  obtain ⟨b27, b26, b25, b24, b23, b22, b7, b6, b5, b4⟩ := (fit0 w).1 h
  have e25_3 : fl w 25 3 = 0 := by rw [← fl_more w 25 2, ← fl_more w 26 1, ← fl_one w 27, b27, b26, b25]; rfl
  have e5_2 : fl w 5 2 = 0 := by rw [← fl_more w 5 1, ← fl_one w 6, b6, b5]; rfl
  have e22_6 : fl w 22 6 = 0 := by rw [← fl_more w 22 5, ← fl_more w 23 4, ← fl_more w 24 3, ← fl_more w 25 2, ← fl_more w 26 1, ← fl_one w 27, b27, b26, b25, b24, b23, b22]; rfl
  have e23_5 : fl w 23 5 = 0 := by rw [← fl_more w 23 4, ← fl_more w 24 3, ← fl_more w 25 2, ← fl_more w 26 1, ← fl_one w 27, b27, b26, b25, b24, b23]; rfl
  have t27 : tb w 27 = false := tb0 b27
  have t26 : tb w 26 = false := tb0 b26
  have t25 : tb w 25 = false := tb0 b25
  have t24 : tb w 24 = false := tb0 b24
  have t23 : tb w 23 = false := tb0 b23
  have t22 : tb w 22 = false := tb0 b22
  have t7 : tb w 7 = true := tb1 b7
  have t6 : tb w 6 = false := tb0 b6
  have t5 : tb w 5 = false := tb0 b5
  have t4 : tb w 4 = true := tb1 b4
  unfold decP extraP dataP halfP statusP wordP blockP
  simp only [e25_3, e5_2, e22_6, e23_5, q8, q12, q16, q24, q168, qh, qz, qbr]
  simp [e25_3, e5_2, e22_6, e23_5, t27, t26, t25, t24, t23, t22, t7, t6, t5, t4]
theorem sound0 (w : Int) (h0 : 0 ≤ w) (h1 : w < 4294967296) (h : fitsL p0 w = true) (x : Ins) (hx : stepP 2 p0 w = some x) : x = decP w := by
  rw [step0] at hx
  rw [dec0 w h0 h1 h]; exact (Option.some.inj hx).symm
set_option maxHeartbeats 1000000 in
theorem dec1 (w : Int) (h0 : 0 ≤ w) (h1 : w < 4294967296) (h : fitsL p1 w = true) : decP w = ⟨3, (fl w 28 4), 0, (tb w 20), (fl w 16 4), (fl w 12 4), (fl w 8 4), (fl w 0 4), 0, false, 0, 0, false, false, false, (tb w 22), false, false, false, false, 0, false, (tb w 21), false⟩ := by
  obtain ⟨b27, b26, b25, b24, b23, b7, b6, b5, b4⟩ := (fit1 w).1 h
  have e25_3 : fl w 25 3 = 0 := by rw [← fl_more w 25 2, ← fl_more w 26 1, ← fl_one w 27, b27, b26, b25]; rfl
  have e5_2 : fl w 5 2 = 0 := by rw [← fl_more w 5 1, ← fl_one w 6, b6, b5]; rfl
  have e23_5 : fl w 23 5 = 1 := by rw [← fl_more w 23 4, ← fl_more w 24 3, ← fl_more w 25 2, ← fl_more w 26 1, ← fl_one w 27, b27, b26, b25, b24, b23]; rfl
  have t27 : tb w 27 = false := tb0 b27
  have t26 : tb w 26 = false := tb0 b26
  have t25 : tb w 25 = false := tb0 b25
  have t24 : tb w 24 = false := tb0 b24
  have t23 : tb w 23 = true := tb1 b23
  have t7 : tb w 7 = true := tb1 b7
  have t6 : tb w 6 = false := tb0 b6
  have t5 : tb w 5 = false := tb0 b5
  have t4 : tb w 4 = true := tb1 b4
  have x22 : ¬ fl w 22 6 = 0 := by
    have c := bt01 w 22
    have e : fl w 22 6 = 32 * bt w 27 + 16 * bt w 26 + 8 * bt w 25 + 4 * bt w 24 + 2 * bt w 23 + bt w 22 := fl6 w 22
    omega
  unfold decP extraP dataP halfP statusP wordP blockP
  simp only [e25_3, e5_2, e23_5, q8, q12, q16, q24, q168, qh, qz, qbr]
  simp [e25_3, e5_2, e23_5, t27, t26, t25, t24, t23, t7, t6, t5, t4, x22]
theorem sound1 (w : Int) (h0 : 0 ≤ w) (h1 : w < 4294967296) (h : fitsL p1 w = true) (x : Ins) (hx : stepP 3 p1 w = some x) : x = decP w := by
  rw [step1] at hx
  rw [dec1 w h0 h1 h]; exact (Option.some.inj hx).symm
set_option maxHeartbeats 1000000 in
theorem dec2 (w : Int) (h0 : 0 ≤ w) (h1 : w < 4294967296) (h : fitsL p2 w = true) : decP w = ⟨4, (fl w 28 4), 0, false, (fl w 12 4), (fl w 16 4), 0, (fl w 0 4), 0, false, 0, 0, false, false, (tb w 22), false, false, false, false, false, 0, false, false, false⟩ := by
  obtain ⟨b27, b26, b25, b24, b23, b21, b20, b11, b10, b9, b8, b7, b6, b5, b4⟩ := (fit2 w).1 h
  have e25_3 : fl w 25 3 = 0 := by rw [← fl_more w 25 2, ← fl_more w 26 1, ← fl_one w 27, b27, b26, b25]; rfl
  have e5_2 : fl w 5 2 = 0 := by rw [← fl_more w 5 1, ← fl_one w 6, b6, b5]; rfl
  have e23_5 : fl w 23 5 = 2 := by rw [← fl_more w 23 4, ← fl_more w 24 3, ← fl_more w 25 2, ← fl_more w 26 1, ← fl_one w 27, b27, b26, b25, b24, b23]; rfl
  have e20_2 : fl w 20 2 = 0 := by rw [← fl_more w 20 1, ← fl_one w 21, b21, b20]; rfl
  have e8_4 : fl w 8 4 = 0 := by rw [← fl_more w 8 3, ← fl_more w 9 2, ← fl_more w 10 1, ← fl_one w 11, b11, b10, b9, b8]; rfl
  have e4_8 : fl w 4 8 = 9 := by rw [← fl_more w 4 7, ← fl_more w 5 6, ← fl_more w 6 5, ← fl_more w 7 4, ← fl_more w 8 3, ← fl_more w 9 2, ← fl_more w 10 1, ← fl_one w 11, b11, b10, b9, b8, b7, b6, b5, b4]; rfl
  have t27 : tb w 27 = false := tb0 b27
  have t26 : tb w 26 = false := tb0 b26
  have t25 : tb w 25 = false := tb0 b25
  have t24 : tb w 24 = true := tb1 b24
  have t23 : tb w 23 = false := tb0 b23
  have t21 : tb w 21 = false := tb0 b21
  have t20 : tb w 20 = false := tb0 b20
  have t11 : tb w 11 = false := tb0 b11
  have t10 : tb w 10 = false := tb0 b10
  have t9 : tb w 9 = false := tb0 b9
  have t8 : tb w 8 = false := tb0 b8
  have t7 : tb w 7 = true := tb1 b7
  have t6 : tb w 6 = false := tb0 b6
  have t5 : tb w 5 = false := tb0 b5
  have t4 : tb w 4 = true := tb1 b4
  have x22 : ¬ fl w 22 6 = 0 := by
    have c := bt01 w 22
    have e : fl w 22 6 = 32 * bt w 27 + 16 * bt w 26 + 8 * bt w 25 + 4 * bt w 24 + 2 * bt w 23 + bt w 22 := fl6 w 22
    omega
  unfold decP extraP dataP halfP statusP wordP blockP
  simp only [e25_3, e5_2, e23_5, e20_2, e8_4, e4_8, q8, q12, q16, q24, q168, qh, qz, qbr]
  simp [e25_3, e5_2, e23_5, e20_2, e8_4, e4_8, t27, t26, t25, t24, t23, t21, t20, t11, t10, t9, t8, t7, t6, t5, t4, x22]
theorem sound2 (w : Int) (h0 : 0 ≤ w) (h1 : w < 4294967296) (h : fitsL p2 w = true) (x : Ins) (hx : stepP 4 p2 w = some x) : x = decP w := by
  rw [step2] at hx
  rw [dec2 w h0 h1 h]; exact (Option.some.inj hx).symm
set_option maxHeartbeats 1000000 in
theorem dec3 (w : Int) (h0 : 0 ≤ w) (h1 : w < 4294967296) (h : fitsL p3 w = true) (hc : ¬ (fl w 5 2 = 0)) : decP w = ⟨6, (fl w 28 4), (fl w 5 2), false, (fl w 12 4), (fl w 16 4), 0, (fl w 0 4), 0, false, 0, 0, false, true, false, false, (tb w 24), (tb w 23), (tb w 21 || !tb w 24), false, 0, false, false, false⟩ := by
  obtain ⟨b27, b26, b25, b22, b20, b7, b4⟩ := (fit3 w).1 h
  have e25_3 : fl w 25 3 = 0 := by rw [← fl_more w 25 2, ← fl_more w 26 1, ← fl_one w 27, b27, b26, b25]; rfl
  have t27 : tb w 27 = false := tb0 b27
  have t26 : tb w 26 = false := tb0 b26
  have t25 : tb w 25 = false := tb0 b25
  have t22 : tb w 22 = false := tb0 b22
  have t20 : tb w 20 = true := tb1 b20
  have t7 : tb w 7 = true := tb1 b7
  have t4 : tb w 4 = true := tb1 b4
  have hc' : fl w 5 2 ≠ 0 := hc
  unfold decP extraP dataP halfP statusP wordP blockP
  simp only [e25_3, q8, q12, q16, q24, q168, qh, qz, qbr]
  simp [e25_3, t27, t26, t25, t22, t20, t7, t4, hc']
theorem sound3 (w : Int) (h0 : 0 ≤ w) (h1 : w < 4294967296) (h : fitsL p3 w = true) (x : Ins) (hx : stepP 6 p3 w = some x) : x = decP w := by
  rw [step3] at hx
  by_cases hc : fl w 5 2 = 0
  · rw [if_pos hc] at hx; cases hx
  · rw [if_neg hc] at hx; rw [dec3 w h0 h1 h hc]; exact (Option.some.inj hx).symm
set_option maxHeartbeats 1000000 in
theorem dec4 (w : Int) (h0 : 0 ≤ w) (h1 : w < 4294967296) (h : fitsL p4 w = true) : decP w = ⟨6, (fl w 28 4), 1, false, (fl w 12 4), (fl w 16 4), 0, (fl w 0 4), 0, false, 0, 0, false, false, false, false, (tb w 24), (tb w 23), (tb w 21 || !tb w 24), false, 0, false, false, false⟩ := by
  obtain ⟨b27, b26, b25, b22, b20, b7, b6, b5, b4⟩ := (fit4 w).1 h
  have e25_3 : fl w 25 3 = 0 := by rw [← fl_more w 25 2, ← fl_more w 26 1, ← fl_one w 27, b27, b26, b25]; rfl
  have e5_2 : fl w 5 2 = 1 := by rw [← fl_more w 5 1, ← fl_one w 6, b6, b5]; rfl
  have t27 : tb w 27 = false := tb0 b27
  have t26 : tb w 26 = false := tb0 b26
  have t25 : tb w 25 = false := tb0 b25
  have t22 : tb w 22 = false := tb0 b22
  have t20 : tb w 20 = false := tb0 b20
  have t7 : tb w 7 = true := tb1 b7
  have t6 : tb w 6 = false := tb0 b6
  have t5 : tb w 5 = true := tb1 b5
  have t4 : tb w 4 = true := tb1 b4
  unfold decP extraP dataP halfP statusP wordP blockP
  simp only [e25_3, e5_2, q8, q12, q16, q24, q168, qh, qz, qbr]
  simp [e25_3, e5_2, t27, t26, t25, t22, t20, t7, t6, t5, t4]
theorem sound4 (w : Int) (h0 : 0 ≤ w) (h1 : w < 4294967296) (h : fitsL p4 w = true) (x : Ins) (hx : stepP 6 p4 w = some x) : x = decP w := by
  rw [step4] at hx
  rw [dec4 w h0 h1 h]; exact (Option.some.inj hx).symm
set_option maxHeartbeats 1000000 in
theorem dec5 (w : Int) (h0 : 0 ≤ w) (h1 : w < 4294967296) (h : fitsL p5 w = true) (hc : ¬ (fl w 5 2 = 0)) : decP w = ⟨6, (fl w 28 4), (fl w 5 2), false, (fl w 12 4), (fl w 16 4), 0, 0, (16 * fl w 8 4 + fl w 0 4), true, 0, 0, false, true, false, false, (tb w 24), (tb w 23), (tb w 21 || !tb w 24), false, 0, false, false, false⟩ := by
  obtain ⟨b27, b26, b25, b22, b20, b7, b4⟩ := (fit5 w).1 h
  have e25_3 : fl w 25 3 = 0 := by rw [← fl_more w 25 2, ← fl_more w 26 1, ← fl_one w 27, b27, b26, b25]; rfl
  have t27 : tb w 27 = false := tb0 b27
  have t26 : tb w 26 = false := tb0 b26
  have t25 : tb w 25 = false := tb0 b25
  have t22 : tb w 22 = true := tb1 b22
  have t20 : tb w 20 = true := tb1 b20
  have t7 : tb w 7 = true := tb1 b7
  have t4 : tb w 4 = true := tb1 b4
  have hc' : fl w 5 2 ≠ 0 := hc
  unfold decP extraP dataP halfP statusP wordP blockP
  simp only [e25_3, q8, q12, q16, q24, q168, qh, qz, qbr]
  simp [e25_3, t27, t26, t25, t22, t20, t7, t4, hc']
theorem sound5 (w : Int) (h0 : 0 ≤ w) (h1 : w < 4294967296) (h : fitsL p5 w = true) (x : Ins) (hx : stepP 6 p5 w = some x) : x = decP w := by
  rw [step5] at hx
  by_cases hc : fl w 5 2 = 0
  · rw [if_pos hc] at hx; cases hx
  · rw [if_neg hc] at hx; rw [dec5 w h0 h1 h hc]; exact (Option.some.inj hx).symm
set_option maxHeartbeats 1000000 in
theorem dec6 (w : Int) (h0 : 0 ≤ w) (h1 : w < 4294967296) (h : fitsL p6 w = true) : decP w = ⟨6, (fl w 28 4), 1, false, (fl w 12 4), (fl w 16 4), 0, 0, (16 * fl w 8 4 + fl w 0 4), true, 0, 0, false, false, false, false, (tb w 24), (tb w 23), (tb w 21 || !tb w 24), false, 0, false, false, false⟩ := by
  obtain ⟨b27, b26, b25, b22, b20, b7, b6, b5, b4⟩ := (fit6 w).1 h
  have e25_3 : fl w 25 3 = 0 := by rw [← fl_more w 25 2, ← fl_more w 26 1, ← fl_one w 27, b27, b26, b25]; rfl
  have e5_2 : fl w 5 2 = 1 := by rw [← fl_more w 5 1, ← fl_one w 6, b6, b5]; rfl
  have t27 : tb w 27 = false := tb0 b27
  have t26 : tb w 26 = false := tb0 b26
  have t25 : tb w 25 = false := tb0 b25
  have t22 : tb w 22 = true := tb1 b22
  have t20 : tb w 20 = false := tb0 b20
  have t7 : tb w 7 = true := tb1 b7
  have t6 : tb w 6 = false := tb0 b6
  have t5 : tb w 5 = true := tb1 b5
  have t4 : tb w 4 = true := tb1 b4
  unfold decP extraP dataP halfP statusP wordP blockP
  simp only [e25_3, e5_2, q8, q12, q16, q24, q168, qh, qz, qbr]
  simp [e25_3, e5_2, t27, t26, t25, t22, t20, t7, t6, t5, t4]
theorem sound6 (w : Int) (h0 : 0 ≤ w) (h1 : w < 4294967296) (h : fitsL p6 w = true) (x : Ins) (hx : stepP 6 p6 w = some x) : x = decP w := by
  rw [step6] at hx
  rw [dec6 w h0 h1 h]; exact (Option.some.inj hx).symm
set_option maxHeartbeats 1000000 in
theorem dec7 (w : Int) (h0 : 0 ≤ w) (h1 : w < 4294967296) (h : fitsL p7 w = true) : decP w = ⟨5, (fl w 28 4), 0, false, 0, 0, 0, (fl w 0 4), 0, false, 0, 0, false, false, false, false, false, false, false, false, 0, false, false, false⟩ := by
  obtain ⟨b27, b26, b25, b24, b23, b22, b21, b20, b19, b18, b17, b16, b15, b14, b13, b12, b11, b10, b9, b8, b7, b6, b5, b4⟩ := (fit7 w).1 h
  have e25_3 : fl w 25 3 = 0 := by rw [← fl_more w 25 2, ← fl_more w 26 1, ← fl_one w 27, b27, b26, b25]; rfl
  have e5_2 : fl w 5 2 = 0 := by rw [← fl_more w 5 1, ← fl_one w 6, b6, b5]; rfl
  have e22_6 : fl w 22 6 = 4 := by rw [← fl_more w 22 5, ← fl_more w 23 4, ← fl_more w 24 3, ← fl_more w 25 2, ← fl_more w 26 1, ← fl_one w 27, b27, b26, b25, b24, b23, b22]; rfl
  have e23_5 : fl w 23 5 = 2 := by rw [← fl_more w 23 4, ← fl_more w 24 3, ← fl_more w 25 2, ← fl_more w 26 1, ← fl_one w 27, b27, b26, b25, b24, b23]; rfl
  have e20_2 : fl w 20 2 = 2 := by rw [← fl_more w 20 1, ← fl_one w 21, b21, b20]; rfl
  have e21_4 : fl w 21 4 = 9 := by rw [← fl_more w 21 3, ← fl_more w 22 2, ← fl_more w 23 1, ← fl_one w 24, b24, b23, b22, b21]; rfl
  have e8_4 : fl w 8 4 = 15 := by rw [← fl_more w 8 3, ← fl_more w 9 2, ← fl_more w 10 1, ← fl_one w 11, b11, b10, b9, b8]; rfl
  have e12_4 : fl w 12 4 = 15 := by rw [← fl_more w 12 3, ← fl_more w 13 2, ← fl_more w 14 1, ← fl_one w 15, b15, b14, b13, b12]; rfl
  have e4_8 : fl w 4 8 = 241 := by rw [← fl_more w 4 7, ← fl_more w 5 6, ← fl_more w 6 5, ← fl_more w 7 4, ← fl_more w 8 3, ← fl_more w 9 2, ← fl_more w 10 1, ← fl_one w 11, b11, b10, b9, b8, b7, b6, b5, b4]; rfl
  have e4_24 : fl w 4 24 = 1245169 := by rw [← fl_more w 4 23, ← fl_more w 5 22, ← fl_more w 6 21, ← fl_more w 7 20, ← fl_more w 8 19, ← fl_more w 9 18, ← fl_more w 10 17, ← fl_more w 11 16, ← fl_more w 12 15, ← fl_more w 13 14, ← fl_more w 14 13, ← fl_more w 15 12, ← fl_more w 16 11, ← fl_more w 17 10, ← fl_more w 18 9, ← fl_more w 19 8, ← fl_more w 20 7, ← fl_more w 21 6, ← fl_more w 22 5, ← fl_more w 23 4, ← fl_more w 24 3, ← fl_more w 25 2, ← fl_more w 26 1, ← fl_one w 27, b27, b26, b25, b24, b23, b22, b21, b20, b19, b18, b17, b16, b15, b14, b13, b12, b11, b10, b9, b8, b7, b6, b5, b4]; rfl
  have e16_6 : fl w 16 6 = 47 := by rw [← fl_more w 16 5, ← fl_more w 17 4, ← fl_more w 18 3, ← fl_more w 19 2, ← fl_more w 20 1, ← fl_one w 21, b21, b20, b19, b18, b17, b16]; rfl
  have t27 : tb w 27 = false := tb0 b27
  have t26 : tb w 26 = false := tb0 b26
  have t25 : tb w 25 = false := tb0 b25
  have t24 : tb w 24 = true := tb1 b24
  have t23 : tb w 23 = false := tb0 b23
  have t22 : tb w 22 = false := tb0 b22
  have t21 : tb w 21 = true := tb1 b21
  have t20 : tb w 20 = false := tb0 b20
  have t19 : tb w 19 = true := tb1 b19
  have t18 : tb w 18 = true := tb1 b18
  have t17 : tb w 17 = true := tb1 b17
  have t16 : tb w 16 = true := tb1 b16
  have t15 : tb w 15 = true := tb1 b15
  have t14 : tb w 14 = true := tb1 b14
  have t13 : tb w 13 = true := tb1 b13
  have t12 : tb w 12 = true := tb1 b12
  have t11 : tb w 11 = true := tb1 b11
  have t10 : tb w 10 = true := tb1 b10
  have t9 : tb w 9 = true := tb1 b9
  have t8 : tb w 8 = true := tb1 b8
  have t7 : tb w 7 = false := tb0 b7
  have t6 : tb w 6 = false := tb0 b6
  have t5 : tb w 5 = false := tb0 b5
  have t4 : tb w 4 = true := tb1 b4
  unfold decP extraP dataP halfP statusP wordP blockP
  simp only [e25_3, e5_2, e22_6, e23_5, e20_2, e21_4, e8_4, e12_4, e4_8, e4_24, e16_6, q8, q12, q16, q24, q168, qh, qbx, qz, qbr]
  simp [e25_3, e5_2, e22_6, e23_5, e20_2, e21_4, e8_4, e12_4, e4_8, e4_24, e16_6, t27, t26, t25, t24, t23, t22, t21, t20, t19, t18, t17, t16, t15, t14, t13, t12, t11, t10, t9, t8, t7, t6, t5, t4]
theorem sound7 (w : Int) (h0 : 0 ≤ w) (h1 : w < 4294967296) (h : fitsL p7 w = true) (x : Ins) (hx : stepP 5 p7 w = some x) : x = decP w := by
  rw [step7] at hx
  rw [dec7 w h0 h1 h]; exact (Option.some.inj hx).symm
set_option maxHeartbeats 1000000 in
theorem dec8 (w : Int) (h0 : 0 ≤ w) (h1 : w < 4294967296) (h : fitsL p8 w = true) : decP w = ⟨11, (fl w 28 4), 0, false, (fl w 12 4), 0, 0, 0, 0, false, 0, 0, false, false, false, false, false, false, false, (tb w 22), 0, false, false, false⟩ := by
  obtain ⟨b27, b26, b25, b24, b23, b21, b20, b19, b18, b17, b16, b11, b10, b9, b8, b7, b6, b5, b4, b3, b2, b1, b0⟩ := (fit8 w).1 h
  have e25_3 : fl w 25 3 = 0 := by rw [← fl_more w 25 2, ← fl_more w 26 1, ← fl_one w 27, b27, b26, b25]; rfl
  have e5_2 : fl w 5 2 = 0 := by rw [← fl_more w 5 1, ← fl_one w 6, b6, b5]; rfl
  have e23_5 : fl w 23 5 = 2 := by rw [← fl_more w 23 4, ← fl_more w 24 3, ← fl_more w 25 2, ← fl_more w 26 1, ← fl_one w 27, b27, b26, b25, b24, b23]; rfl
  have e20_2 : fl w 20 2 = 0 := by rw [← fl_more w 20 1, ← fl_one w 21, b21, b20]; rfl
  have e8_4 : fl w 8 4 = 0 := by rw [← fl_more w 8 3, ← fl_more w 9 2, ← fl_more w 10 1, ← fl_one w 11, b11, b10, b9, b8]; rfl
  have e4_8 : fl w 4 8 = 0 := by rw [← fl_more w 4 7, ← fl_more w 5 6, ← fl_more w 6 5, ← fl_more w 7 4, ← fl_more w 8 3, ← fl_more w 9 2, ← fl_more w 10 1, ← fl_one w 11, b11, b10, b9, b8, b7, b6, b5, b4]; rfl
  have e0_12 : fl w 0 12 = 0 := by rw [← fl_more w 0 11, ← fl_more w 1 10, ← fl_more w 2 9, ← fl_more w 3 8, ← fl_more w 4 7, ← fl_more w 5 6, ← fl_more w 6 5, ← fl_more w 7 4, ← fl_more w 8 3, ← fl_more w 9 2, ← fl_more w 10 1, ← fl_one w 11, b11, b10, b9, b8, b7, b6, b5, b4, b3, b2, b1, b0]; rfl
  have e16_6 : fl w 16 6 = 15 := by rw [← fl_more w 16 5, ← fl_more w 17 4, ← fl_more w 18 3, ← fl_more w 19 2, ← fl_more w 20 1, ← fl_one w 21, b21, b20, b19, b18, b17, b16]; rfl
  have t27 : tb w 27 = false := tb0 b27
  have t26 : tb w 26 = false := tb0 b26
  have t25 : tb w 25 = false := tb0 b25
  have t24 : tb w 24 = true := tb1 b24
  have t23 : tb w 23 = false := tb0 b23
  have t21 : tb w 21 = false := tb0 b21
  have t20 : tb w 20 = false := tb0 b20
  have t19 : tb w 19 = true := tb1 b19
  have t18 : tb w 18 = true := tb1 b18
  have t17 : tb w 17 = true := tb1 b17
  have t16 : tb w 16 = true := tb1 b16
  have t11 : tb w 11 = false := tb0 b11
  have t10 : tb w 10 = false := tb0 b10
  have t9 : tb w 9 = false := tb0 b9
  have t8 : tb w 8 = false := tb0 b8
  have t7 : tb w 7 = false := tb0 b7
  have t6 : tb w 6 = false := tb0 b6
  have t5 : tb w 5 = false := tb0 b5
  have t4 : tb w 4 = false := tb0 b4
  have t3 : tb w 3 = false := tb0 b3
  have t2 : tb w 2 = false := tb0 b2
  have t1 : tb w 1 = false := tb0 b1
  have t0 : tb w 0 = false := tb0 b0
  have x21 : fl w 21 4 / 4 = 2 := by
    have c := bt01 w 22
    have e : fl w 21 4 = 8 * bt w 24 + 4 * bt w 23 + 2 * bt w 22 + bt w 21 := fl4 w 21
    omega
  have xbx : ¬ w / 16 % 16777216 = 1245169 := by
    intro e
    have : w / 16 % 2 = 0 := b4
    omega
  have xm : Go.bits .and .u32 w 264179711 = 17760256 := by
    rw [mask_iff h0 h1]
    have a1 : w % 4096 = 0 := by rw [← q12]; exact e0_12
    have a2 : w / 65536 % 64 = 15 := e16_6
    have a3 : w / 8388608 % 32 = 2 := e23_5
    exact ⟨a1, a2, a3⟩
  unfold decP extraP dataP halfP statusP wordP blockP
  simp only [e25_3, e5_2, e23_5, e20_2, e8_4, e4_8, e0_12, e16_6, q8, q12, q16, q24, q168, qh, qz, qbr]
  simp [e25_3, e5_2, e23_5, e20_2, e8_4, e4_8, e0_12, e16_6, t27, t26, t25, t24, t23, t21, t20, t19, t18, t17, t16, t11, t10, t9, t8, t7, t6, t5, t4, t3, t2, t1, t0, x21, xbx, xm]
theorem sound8 (w : Int) (h0 : 0 ≤ w) (h1 : w < 4294967296) (h : fitsL p8 w = true) (x : Ins) (hx : stepP 11 p8 w = some x) : x = decP w := by
  rw [step8] at hx
  rw [dec8 w h0 h1 h]; exact (Option.some.inj hx).symm
set_option maxHeartbeats 1000000 in
theorem dec9 (w : Int) (h0 : 0 ≤ w) (h1 : w < 4294967296) (h : fitsL p9 w = true) : decP w = ⟨12, (fl w 28 4), 0, false, 0, 0, 0, (fl w 0 4), 0, false, 0, 0, false, false, false, false, false, false, false, (tb w 22), (fl w 16 4), false, false, false⟩ := by
  obtain ⟨b27, b26, b25, b24, b23, b21, b20, b15, b14, b13, b12, b11, b10, b9, b8, b7, b6, b5, b4⟩ := (fit9 w).1 h
  have e25_3 : fl w 25 3 = 0 := by rw [← fl_more w 25 2, ← fl_more w 26 1, ← fl_one w 27, b27, b26, b25]; rfl
  have e5_2 : fl w 5 2 = 0 := by rw [← fl_more w 5 1, ← fl_one w 6, b6, b5]; rfl
  have e23_5 : fl w 23 5 = 2 := by rw [← fl_more w 23 4, ← fl_more w 24 3, ← fl_more w 25 2, ← fl_more w 26 1, ← fl_one w 27, b27, b26, b25, b24, b23]; rfl
  have e20_2 : fl w 20 2 = 2 := by rw [← fl_more w 20 1, ← fl_one w 21, b21, b20]; rfl
  have e8_4 : fl w 8 4 = 0 := by rw [← fl_more w 8 3, ← fl_more w 9 2, ← fl_more w 10 1, ← fl_one w 11, b11, b10, b9, b8]; rfl
  have e12_4 : fl w 12 4 = 15 := by rw [← fl_more w 12 3, ← fl_more w 13 2, ← fl_more w 14 1, ← fl_one w 15, b15, b14, b13, b12]; rfl
  have e4_8 : fl w 4 8 = 0 := by rw [← fl_more w 4 7, ← fl_more w 5 6, ← fl_more w 6 5, ← fl_more w 7 4, ← fl_more w 8 3, ← fl_more w 9 2, ← fl_more w 10 1, ← fl_one w 11, b11, b10, b9, b8, b7, b6, b5, b4]; rfl
  have t27 : tb w 27 = false := tb0 b27
  have t26 : tb w 26 = false := tb0 b26
  have t25 : tb w 25 = false := tb0 b25
  have t24 : tb w 24 = true := tb1 b24
  have t23 : tb w 23 = false := tb0 b23
  have t21 : tb w 21 = true := tb1 b21
  have t20 : tb w 20 = false := tb0 b20
  have t15 : tb w 15 = true := tb1 b15
  have t14 : tb w 14 = true := tb1 b14
  have t13 : tb w 13 = true := tb1 b13
  have t12 : tb w 12 = true := tb1 b12
  have t11 : tb w 11 = false := tb0 b11
  have t10 : tb w 10 = false := tb0 b10
  have t9 : tb w 9 = false := tb0 b9
  have t8 : tb w 8 = false := tb0 b8
  have t7 : tb w 7 = false := tb0 b7
  have t6 : tb w 6 = false := tb0 b6
  have t5 : tb w 5 = false := tb0 b5
  have t4 : tb w 4 = false := tb0 b4
  have x21 : fl w 21 4 / 4 = 2 := by
    have c := bt01 w 22
    have e : fl w 21 4 = 8 * bt w 24 + 4 * bt w 23 + 2 * bt w 22 + bt w 21 := fl4 w 21
    omega
  have xbx : ¬ w / 16 % 16777216 = 1245169 := by
    intro e
    have : w / 16 % 2 = 0 := b4
    omega
  have xm : ¬ Go.bits .and .u32 w 264179711 = 17760256 := by
    rw [mask_iff h0 h1]
    intro e
    have : w / 2097152 % 2 = 1 := b21
    omega
  unfold decP extraP dataP halfP statusP wordP blockP
  simp only [e25_3, e5_2, e23_5, e20_2, e8_4, e12_4, e4_8, q8, q12, q16, q24, q168, qh, qz, qbr]
  simp [e25_3, e5_2, e23_5, e20_2, e8_4, e12_4, e4_8, t27, t26, t25, t24, t23, t21, t20, t15, t14, t13, t12, t11, t10, t9, t8, t7, t6, t5, t4, x21, xbx, xm]
theorem sound9 (w : Int) (h0 : 0 ≤ w) (h1 : w < 4294967296) (h : fitsL p9 w = true) (x : Ins) (hx : stepP 12 p9 w = some x) : x = decP w := by
  rw [step9] at hx
  rw [dec9 w h0 h1 h]; exact (Option.some.inj hx).symm
set_option maxHeartbeats 1000000 in
theorem dec10 (w : Int) (h0 : 0 ≤ w) (h1 : w < 4294967296) (h : fitsL p10 w = true) : decP w = ⟨12, (fl w 28 4), 0, false, 0, 0, 0, 0, (fl w 0 8), true, 0, (fl w 8 4), false, false, false, false, false, false, false, (tb w 22), (fl w 16 4), false, false, false⟩ := by
  obtain ⟨b27, b26, b25, b24, b23, b21, b20, b15, b14, b13, b12⟩ := (fit10 w).1 h
  have e25_3 : fl w 25 3 = 1 := by rw [← fl_more w 25 2, ← fl_more w 26 1, ← fl_one w 27, b27, b26, b25]; rfl
  have e23_5 : fl w 23 5 = 6 := by rw [← fl_more w 23 4, ← fl_more w 24 3, ← fl_more w 25 2, ← fl_more w 26 1, ← fl_one w 27, b27, b26, b25, b24, b23]; rfl
  have e20_2 : fl w 20 2 = 2 := by rw [← fl_more w 20 1, ← fl_one w 21, b21, b20]; rfl
  have e12_4 : fl w 12 4 = 15 := by rw [← fl_more w 12 3, ← fl_more w 13 2, ← fl_more w 14 1, ← fl_one w 15, b15, b14, b13, b12]; rfl
  have t27 : tb w 27 = false := tb0 b27
  have t26 : tb w 26 = false := tb0 b26
  have t25 : tb w 25 = true := tb1 b25
  have t24 : tb w 24 = true := tb1 b24
  have t23 : tb w 23 = false := tb0 b23
  have t21 : tb w 21 = true := tb1 b21
  have t20 : tb w 20 = false := tb0 b20
  have t15 : tb w 15 = true := tb1 b15
  have t14 : tb w 14 = true := tb1 b14
  have t13 : tb w 13 = true := tb1 b13
  have t12 : tb w 12 = true := tb1 b12
  have x21 : fl w 21 4 / 4 = 2 := by
    have c := bt01 w 22
    have e : fl w 21 4 = 8 * bt w 24 + 4 * bt w 23 + 2 * bt w 22 + bt w 21 := fl4 w 21
    omega
  unfold decP extraP dataP halfP statusP wordP blockP
  simp only [e25_3, e23_5, e20_2, e12_4, q8, q12, q16, q24, q168, qh, qz, qbr]
  simp [e25_3, e23_5, e20_2, e12_4, t27, t26, t25, t24, t23, t21, t20, t15, t14, t13, t12, x21]
theorem sound10 (w : Int) (h0 : 0 ≤ w) (h1 : w < 4294967296) (h : fitsL p10 w = true) (x : Ins) (hx : stepP 12 p10 w = some x) : x = decP w := by
  rw [step10] at hx
  rw [dec10 w h0 h1 h]; exact (Option.some.inj hx).symm
set_option maxHeartbeats 1000000 in
theorem dec11 (w : Int) (h0 : 0 ≤ w) (h1 : w < 4294967296) (h : fitsL p11 w = true) (hc : ¬ (8 ≤ fl w 21 4 ∧ fl w 21 4 ≤ 11 ∧ tb w 20 = false)) : decP w = ⟨1, (fl w 28 4), (fl w 21 4), (tb w 20), (fl w 12 4), (fl w 16 4), 0, (fl w 0 4), 0, false, (fl w 5 2), (fl w 7 5), false, false, false, false, false, false, false, false, 0, false, false, false⟩ := by
  obtain ⟨b27, b26, b25, b4⟩ := (fit11 w).1 h
  have e25_3 : fl w 25 3 = 0 := by rw [← fl_more w 25 2, ← fl_more w 26 1, ← fl_one w 27, b27, b26, b25]; rfl
  have t27 : tb w 27 = false := tb0 b27
  have t26 : tb w 26 = false := tb0 b26
  have t25 : tb w 25 = false := tb0 b25
  have t4 : tb w 4 = false := tb0 b4
  have x21 : ¬ (fl w 21 4 / 4 = 2 ∧ tb w 20 = false) := by
    rintro ⟨e, f⟩
    refine hc ⟨by omega, by omega, f⟩
  have x74 : ¬ (tb w 7 = true ∧ tb w 4 = true) := by rw [t4]; simp
  unfold decP extraP dataP halfP statusP wordP blockP
  simp only [e25_3, q8, q12, q16, q24, q168, qh, qz, qbr]
  simp [e25_3, t27, t26, t25, t4, x21]
theorem sound11 (w : Int) (h0 : 0 ≤ w) (h1 : w < 4294967296) (h : fitsL p11 w = true) (x : Ins) (hx : stepP 1 p11 w = some x) : x = decP w := by
  rw [step11] at hx
  by_cases hc : 8 ≤ fl w 21 4 ∧ fl w 21 4 ≤ 11 ∧ tb w 20 = false
  · rw [if_pos hc] at hx; cases hx
  · rw [if_neg hc] at hx; rw [dec11 w h0 h1 h hc]; exact (Option.some.inj hx).symm
set_option maxHeartbeats 1000000 in
theorem dec12 (w : Int) (h0 : 0 ≤ w) (h1 : w < 4294967296) (h : fitsL p12 w = true) (hc : ¬ (8 ≤ fl w 21 4 ∧ fl w 21 4 ≤ 11 ∧ tb w 20 = false)) : decP w = ⟨1, (fl w 28 4), (fl w 21 4), (tb w 20), (fl w 12 4), (fl w 16 4), (fl w 8 4), (fl w 0 4), 0, false, (fl w 5 2), 0, true, false, false, false, false, false, false, false, 0, false, false, false⟩ := by
  obtain ⟨b27, b26, b25, b7, b4⟩ := (fit12 w).1 h
  have e25_3 : fl w 25 3 = 0 := by rw [← fl_more w 25 2, ← fl_more w 26 1, ← fl_one w 27, b27, b26, b25]; rfl
  have t27 : tb w 27 = false := tb0 b27
  have t26 : tb w 26 = false := tb0 b26
  have t25 : tb w 25 = false := tb0 b25
  have t7 : tb w 7 = false := tb0 b7
  have t4 : tb w 4 = true := tb1 b4
  have x21 : ¬ (fl w 21 4 / 4 = 2 ∧ tb w 20 = false) := by
    rintro ⟨e, f⟩
    refine hc ⟨by omega, by omega, f⟩
  unfold decP extraP dataP halfP statusP wordP blockP
  simp only [e25_3, q8, q12, q16, q24, q168, qh, qz, qbr]
  simp [e25_3, t27, t26, t25, t7, t4, x21]
theorem sound12 (w : Int) (h0 : 0 ≤ w) (h1 : w < 4294967296) (h : fitsL p12 w = true) (x : Ins) (hx : stepP 1 p12 w = some x) : x = decP w := by
  rw [step12] at hx
  by_cases hc : 8 ≤ fl w 21 4 ∧ fl w 21 4 ≤ 11 ∧ tb w 20 = false
  · rw [if_pos hc] at hx; cases hx
  · rw [if_neg hc] at hx; rw [dec12 w h0 h1 h hc]; exact (Option.some.inj hx).symm
set_option maxHeartbeats 1000000 in
theorem dec13 (w : Int) (h0 : 0 ≤ w) (h1 : w < 4294967296) (h : fitsL p13 w = true) (hc : ¬ (8 ≤ fl w 21 4 ∧ fl w 21 4 ≤ 11 ∧ tb w 20 = false)) : decP w = ⟨1, (fl w 28 4), (fl w 21 4), (tb w 20), (fl w 12 4), (fl w 16 4), 0, 0, (fl w 0 8), true, 0, (fl w 8 4), false, false, false, false, false, false, false, false, 0, false, false, false⟩ := by
  obtain ⟨b27, b26, b25⟩ := (fit13 w).1 h
  have e25_3 : fl w 25 3 = 1 := by rw [← fl_more w 25 2, ← fl_more w 26 1, ← fl_one w 27, b27, b26, b25]; rfl
  have t27 : tb w 27 = false := tb0 b27
  have t26 : tb w 26 = false := tb0 b26
  have t25 : tb w 25 = true := tb1 b25
  have x21 : ¬ (fl w 21 4 / 4 = 2 ∧ tb w 20 = false) := by
    rintro ⟨e, f⟩
    refine hc ⟨by omega, by omega, f⟩
  unfold decP extraP dataP halfP statusP wordP blockP
  simp only [e25_3, q8, q12, q16, q24, q168, qh, qz, qbr]
  simp [e25_3, t27, t26, t25, x21]
theorem sound13 (w : Int) (h0 : 0 ≤ w) (h1 : w < 4294967296) (h : fitsL p13 w = true) (x : Ins) (hx : stepP 1 p13 w = some x) : x = decP w := by
  rw [step13] at hx
  by_cases hc : 8 ≤ fl w 21 4 ∧ fl w 21 4 ≤ 11 ∧ tb w 20 = false
  · rw [if_pos hc] at hx; cases hx
  · rw [if_neg hc] at hx; rw [dec13 w h0 h1 h hc]; exact (Option.some.inj hx).symm
set_option maxHeartbeats 1000000 in
theorem dec14 (w : Int) (h0 : 0 ≤ w) (h1 : w < 4294967296) (h : fitsL p14 w = true) : decP w = ⟨7, (fl w 28 4), 0, false, (fl w 12 4), (fl w 16 4), 0, 0, (fl w 0 12), true, 0, 0, false, (tb w 20), (tb w 22), false, (tb w 24), (tb w 23), (tb w 21 || !tb w 24), false, 0, false, false, false⟩ := by
  obtain ⟨b27, b26, b25⟩ := (fit14 w).1 h
  have e25_3 : fl w 25 3 = 2 := by rw [← fl_more w 25 2, ← fl_more w 26 1, ← fl_one w 27, b27, b26, b25]; rfl
  have t27 : tb w 27 = false := tb0 b27
  have t26 : tb w 26 = true := tb1 b26
  have t25 : tb w 25 = false := tb0 b25
  unfold decP extraP dataP halfP statusP wordP blockP
  simp only [e25_3, q8, q12, q16, q24, q168, qh, qz, qbr]
  simp [e25_3, t27, t26, t25]
theorem sound14 (w : Int) (h0 : 0 ≤ w) (h1 : w < 4294967296) (h : fitsL p14 w = true) (x : Ins) (hx : stepP 7 p14 w = some x) : x = decP w := by
  rw [step14] at hx
  rw [dec14 w h0 h1 h]; exact (Option.some.inj hx).symm
set_option maxHeartbeats 1000000 in
theorem dec15 (w : Int) (h0 : 0 ≤ w) (h1 : w < 4294967296) (h : fitsL p15 w = true) : decP w = ⟨7, (fl w 28 4), 0, false, (fl w 12 4), (fl w 16 4), 0, (fl w 0 4), 0, false, (fl w 5 2), (fl w 7 5), false, (tb w 20), (tb w 22), false, (tb w 24), (tb w 23), (tb w 21 || !tb w 24), false, 0, false, false, false⟩ := by
  obtain ⟨b27, b26, b25, b4⟩ := (fit15 w).1 h
  have e25_3 : fl w 25 3 = 3 := by rw [← fl_more w 25 2, ← fl_more w 26 1, ← fl_one w 27, b27, b26, b25]; rfl
  have t27 : tb w 27 = false := tb0 b27
  have t26 : tb w 26 = true := tb1 b26
  have t25 : tb w 25 = true := tb1 b25
  have t4 : tb w 4 = false := tb0 b4
  unfold decP extraP dataP halfP statusP wordP blockP
  simp only [e25_3, q8, q12, q16, q24, q168, qh, qz, qbr]
  simp [e25_3, t27, t26, t25, t4]
theorem sound15 (w : Int) (h0 : 0 ≤ w) (h1 : w < 4294967296) (h : fitsL p15 w = true) (x : Ins) (hx : stepP 7 p15 w = some x) : x = decP w := by
  rw [step15] at hx
  rw [dec15 w h0 h1 h]; exact (Option.some.inj hx).symm
set_option maxHeartbeats 1000000 in
theorem dec16 (w : Int) (h0 : 0 ≤ w) (h1 : w < 4294967296) (h : fitsL p16 w = true) : decP w = ⟨8, (fl w 28 4), 0, false, 0, (fl w 16 4), 0, 0, 0, false, 0, 0, false, (tb w 20), false, false, (tb w 24), (tb w 23), (tb w 21), (tb w 22), (fl w 0 16), false, false, false⟩ := by
  obtain ⟨b27, b26, b25⟩ := (fit16 w).1 h
  have e25_3 : fl w 25 3 = 4 := by rw [← fl_more w 25 2, ← fl_more w 26 1, ← fl_one w 27, b27, b26, b25]; rfl
  have t27 : tb w 27 = true := tb1 b27
  have t26 : tb w 26 = false := tb0 b26
  have t25 : tb w 25 = false := tb0 b25
  unfold decP extraP dataP halfP statusP wordP blockP
  simp only [e25_3, q8, q12, q16, q24, q168, qh, qz, qbr]
  simp [e25_3, t27, t26, t25]
theorem sound16 (w : Int) (h0 : 0 ≤ w) (h1 : w < 4294967296) (h : fitsL p16 w = true) (x : Ins) (hx : stepP 8 p16 w = some x) : x = decP w := by
  rw [step16] at hx
  rw [dec16 w h0 h1 h]; exact (Option.some.inj hx).symm
set_option maxHeartbeats 1000000 in
theorem dec17 (w : Int) (h0 : 0 ≤ w) (h1 : w < 4294967296) (h : fitsL p17 w = true) : decP w = ⟨9, (fl w 28 4), 0, false, 0, 0, 0, 0, ((if 8388608 ≤ fl w 0 24 then (fl w 0 24 - 16777216) % 4294967296 else fl w 0 24) * 4 % 4294967296), false, 0, 0, false, false, false, false, false, false, false, false, 0, (tb w 24), false, false⟩ := by
  obtain ⟨b27, b26, b25⟩ := (fit17 w).1 h
  have e25_3 : fl w 25 3 = 5 := by rw [← fl_more w 25 2, ← fl_more w 26 1, ← fl_one w 27, b27, b26, b25]; rfl
  have t27 : tb w 27 = true := tb1 b27
  have t26 : tb w 26 = false := tb0 b26
  have t25 : tb w 25 = true := tb1 b25
  unfold decP extraP dataP halfP statusP wordP blockP
  simp only [e25_3, q8, q12, q16, q24, q168, qh, qz, qbr]
  simp [e25_3, t27, t26, t25]
theorem sound17 (w : Int) (h0 : 0 ≤ w) (h1 : w < 4294967296) (h : fitsL p17 w = true) (x : Ins) (hx : stepP 9 p17 w = some x) : x = decP w := by
  rw [step17] at hx
  rw [dec17 w h0 h1 h]; exact (Option.some.inj hx).symm
set_option maxHeartbeats 1000000 in
theorem dec18 (w : Int) (h0 : 0 ≤ w) (h1 : w < 4294967296) (h : fitsL p18 w = true) : decP w = ⟨10, (fl w 28 4), 0, false, 0, 0, 0, 0, (fl w 16 8), false, 0, 0, false, false, false, false, false, false, false, false, 0, false, false, false⟩ := by
  obtain ⟨b27, b26, b25, b24⟩ := (fit18 w).1 h
  have e25_3 : fl w 25 3 = 7 := by rw [← fl_more w 25 2, ← fl_more w 26 1, ← fl_one w 27, b27, b26, b25]; rfl
  have t27 : tb w 27 = true := tb1 b27
  have t26 : tb w 26 = true := tb1 b26
  have t25 : tb w 25 = true := tb1 b25
  have t24 : tb w 24 = true := tb1 b24
  unfold decP extraP dataP halfP statusP wordP blockP
  simp only [e25_3, q8, q12, q16, q24, q168, qh, qz, qbr]
  simp [e25_3, t27, t26, t25, t24]
theorem sound18 (w : Int) (h0 : 0 ≤ w) (h1 : w < 4294967296) (h : fitsL p18 w = true) (x : Ins) (hx : stepP 10 p18 w = some x) : x = decP w := by
  rw [step18] at hx
  rw [dec18 w h0 h1 h]; exact (Option.some.inj hx).symm
def tblP : List (Int × List UInt8) := [(2, p0), (3, p1), (4, p2), (6, p3), (6, p4), (6, p5), (6, p6), (5, p7), (11, p8), (12, p9), (12, p10), (1, p11), (1, p12), (1, p13), (7, p14), (7, p15), (8, p16), (9, p17), (10, p18)]
theorem b01 (w : Int) (i : Nat) : bt w i = 0 ∨ bt w i = 1 := by have := bt01 w i; omega
set_option maxHeartbeats 8000000 in
theorem complete (w : Int) (h0 : 0 ≤ w) (h1 : w < 4294967296) : decP w = none_ (w / 268435456) ∨ ∃ q, q ∈ tblP ∧ fitsL q.2 w = true ∧ (stepP q.1 q.2 w).isSome = true := by
  have e25 : fl w 25 3 = 4 * bt w 27 + 2 * bt w 26 + bt w 25 := fl3 w 25
  have e21 : fl w 21 4 = 8 * bt w 24 + 4 * bt w 23 + 2 * bt w 22 + bt w 21 := fl4 w 21
  have e22 : fl w 22 6 = 32 * bt w 27 + 16 * bt w 26 + 8 * bt w 25 + 4 * bt w 24 + 2 * bt w 23 + bt w 22 := fl6 w 22
  have e23 : fl w 23 5 = 16 * bt w 27 + 8 * bt w 26 + 4 * bt w 25 + 2 * bt w 24 + bt w 23 := fl5 w 23
  have e20 : fl w 20 2 = 2 * bt w 21 + bt w 20 := fl2 w 20
  have e5 : fl w 5 2 = 2 * bt w 6 + bt w 5 := fl2 w 5
  have e8 : fl w 8 4 = 8 * bt w 11 + 4 * bt w 10 + 2 * bt w 9 + bt w 8 := fl4 w 8
  have e12 : fl w 12 4 = 8 * bt w 15 + 4 * bt w 14 + 2 * bt w 13 + bt w 12 := fl4 w 12
  have c27 := bt01 w 27
  have c26 := bt01 w 26
  have c25 := bt01 w 25
  have c24 := bt01 w 24
  have c23 := bt01 w 23
  have c22 := bt01 w 22
  have c21 := bt01 w 21
  have c20 := bt01 w 20
  have c15 := bt01 w 15
  have c14 := bt01 w 14
  have c13 := bt01 w 13
  have c12 := bt01 w 12
  have c11 := bt01 w 11
  have c10 := bt01 w 10
  have c9 := bt01 w 9
  have c8 := bt01 w 8
  have c7 := bt01 w 7
  have c6 := bt01 w 6
  have c5 := bt01 w 5
  have c4 := bt01 w 4
  rcases b01 w 27 with b27 | b27 <;> rcases b01 w 26 with b26 | b26 <;> rcases b01 w 25 with b25 | b25
  · have f25 : fl w 25 3 = 0 := by omega
    by_cases h74 : tb w 7 = true ∧ tb w 4 = true
    · obtain ⟨t7, t4⟩ := h74
      have b7 := bt1 t7
      have b4 := bt1 t4
      by_cases f5 : fl w 5 2 = 0
      · rcases b01 w 24 with b24 | b24
        · rcases b01 w 23 with b23 | b23
          · rcases b01 w 22 with b22 | b22
            ·
              exact .inr ⟨(2, p0), by simp [tblP], (fit0 w).2 ⟨by omega, by omega, by omega, by omega, by omega, by omega, by omega, by omega, by omega, by omega⟩, by rw [step0]; rfl⟩
            · have f22 : ¬ fl w 22 6 = 0 := by omega
              have f23 : fl w 23 5 = 0 := by omega
              refine .inl ?_
              rw [← q28 h0 h1]
              unfold decP extraP dataP halfP statusP wordP blockP
              simp [f25, t7, t4, f5, f22, f23]
          ·
            exact .inr ⟨(3, p1), by simp [tblP], (fit1 w).2 ⟨by omega, by omega, by omega, by omega, by omega, by omega, by omega, by omega, by omega⟩, by rw [step1]; rfl⟩
        · have f22 : ¬ fl w 22 6 = 0 := by omega
          have f23' : ¬ fl w 23 5 = 1 := by omega
          by_cases hs : fl w 23 5 = 2 ∧ fl w 20 2 = 0 ∧ fl w 8 4 = 0
          · obtain ⟨g1, g2, g3⟩ := hs
            exact .inr ⟨(4, p2), by simp [tblP], (fit2 w).2 ⟨by omega, by omega, by omega, by omega, by omega, by omega, by omega, by omega, by omega, by omega, by omega, by omega, by omega, by omega, by omega⟩, by rw [step2]; rfl⟩
          ·
            refine .inl ?_
            rw [← q28 h0 h1]
            unfold decP extraP dataP halfP statusP wordP blockP
            simp [f25, t7, t4, f5, f22, f23', hs]
      · have hc := f5
        cases t20 : tb w 20
        · have b20 := bt0 t20
          by_cases f51 : fl w 5 2 = 1
          · cases t22 : tb w 22
            · have b22 := bt0 t22
              exact .inr ⟨(6, p4), by simp [tblP], (fit4 w).2 ⟨by omega, by omega, by omega, by omega, by omega, by omega, by omega, by omega, by omega⟩, by rw [step4]; rfl⟩
            · have b22 := bt1 t22
              exact .inr ⟨(6, p6), by simp [tblP], (fit6 w).2 ⟨by omega, by omega, by omega, by omega, by omega, by omega, by omega, by omega, by omega⟩, by rw [step6]; rfl⟩
          ·
            refine .inl ?_
            rw [← q28 h0 h1]
            unfold decP extraP dataP halfP statusP wordP blockP
            simp [f25, t7, t4, f5, t20, f51]
        · have b20 := bt1 t20
          cases t22 : tb w 22
          · have b22 := bt0 t22
            exact .inr ⟨(6, p3), by simp [tblP], (fit3 w).2 ⟨by omega, by omega, by omega, by omega, by omega, by omega, by omega⟩, by rw [step3, if_neg hc]; rfl⟩
          · have b22 := bt1 t22
            exact .inr ⟨(6, p5), by simp [tblP], (fit5 w).2 ⟨by omega, by omega, by omega, by omega, by omega, by omega, by omega⟩, by rw [step5, if_neg hc]; rfl⟩
    · by_cases hS : fl w 21 4 / 4 = 2 ∧ tb w 20 = false
      · have b20 := bt0 hS.2
        have b24 : bt w 24 = 1 := by omega
        have b23 : bt w 23 = 0 := by omega
        by_cases hX : w / 16 % 16777216 = 1245169
        · clear e25 e21 e22 e23 e20 e5 e8 e12
          have v27 : bt w 27 = 0 := by unfold bt; omega
          have v26 : bt w 26 = 0 := by unfold bt; omega
          have v25 : bt w 25 = 0 := by unfold bt; omega
          have v24 : bt w 24 = 1 := by unfold bt; omega
          have v23 : bt w 23 = 0 := by unfold bt; omega
          have v22 : bt w 22 = 0 := by unfold bt; omega
          have v21 : bt w 21 = 1 := by unfold bt; omega
          have v20 : bt w 20 = 0 := by unfold bt; omega
          have v19 : bt w 19 = 1 := by unfold bt; omega
          have v18 : bt w 18 = 1 := by unfold bt; omega
          have v17 : bt w 17 = 1 := by unfold bt; omega
          have v16 : bt w 16 = 1 := by unfold bt; omega
          have v15 : bt w 15 = 1 := by unfold bt; omega
          have v14 : bt w 14 = 1 := by unfold bt; omega
          have v13 : bt w 13 = 1 := by unfold bt; omega
          have v12 : bt w 12 = 1 := by unfold bt; omega
          have v11 : bt w 11 = 1 := by unfold bt; omega
          have v10 : bt w 10 = 1 := by unfold bt; omega
          have v9 : bt w 9 = 1 := by unfold bt; omega
          have v8 : bt w 8 = 1 := by unfold bt; omega
          have v7 : bt w 7 = 0 := by unfold bt; omega
          have v6 : bt w 6 = 0 := by unfold bt; omega
          have v5 : bt w 5 = 0 := by unfold bt; omega
          have v4 : bt w 4 = 1 := by unfold bt; omega
          exact .inr ⟨(5, p7), by simp [tblP], (fit7 w).2 ⟨v27, v26, v25, v24, v23, v22, v21, v20, v19, v18, v17, v16, v15, v14, v13, v12, v11, v10, v9, v8, v7, v6, v5, v4⟩, by rw [step7]; rfl⟩
        · by_cases hM : Go.bits .and .u32 w 264179711 = 17760256
          · obtain ⟨m1, m2, m3⟩ := (mask_iff h0 h1).1 hM
            clear e25 e21 e22 e23 e20 e5 e8 e12
            have v27 : bt w 27 = 0 := by unfold bt; omega
            have v26 : bt w 26 = 0 := by unfold bt; omega
            have v25 : bt w 25 = 0 := by unfold bt; omega
            have v24 : bt w 24 = 1 := by unfold bt; omega
            have v23 : bt w 23 = 0 := by unfold bt; omega
            have v21 : bt w 21 = 0 := by unfold bt; omega
            have v20 : bt w 20 = 0 := by unfold bt; omega
            have v19 : bt w 19 = 1 := by unfold bt; omega
            have v18 : bt w 18 = 1 := by unfold bt; omega
            have v17 : bt w 17 = 1 := by unfold bt; omega
            have v16 : bt w 16 = 1 := by unfold bt; omega
            have v11 : bt w 11 = 0 := by unfold bt; omega
            have v10 : bt w 10 = 0 := by unfold bt; omega
            have v9 : bt w 9 = 0 := by unfold bt; omega
            have v8 : bt w 8 = 0 := by unfold bt; omega
            have v7 : bt w 7 = 0 := by unfold bt; omega
            have v6 : bt w 6 = 0 := by unfold bt; omega
            have v5 : bt w 5 = 0 := by unfold bt; omega
            have v4 : bt w 4 = 0 := by unfold bt; omega
            have v3 : bt w 3 = 0 := by unfold bt; omega
            have v2 : bt w 2 = 0 := by unfold bt; omega
            have v1 : bt w 1 = 0 := by unfold bt; omega
            have v0 : bt w 0 = 0 := by unfold bt; omega
            exact .inr ⟨(11, p8), by simp [tblP], (fit8 w).2 ⟨v27, v26, v25, v24, v23, v21, v20, v19, v18, v17, v16, v11, v10, v9, v8, v7, v6, v5, v4, v3, v2, v1, v0⟩, by rw [step8]; rfl⟩
          · by_cases hU : tb w 21 = true ∧ fl w 12 4 = 15 ∧ w / 16 % 256 = 0
            · obtain ⟨t21, d15, z⟩ := hU
              have b21 := bt1 t21
              have v11 : bt w 11 = 0 := by clear e25 e21 e22 e23 e20 e5 e8 e12 d15; unfold bt; omega
              have v10 : bt w 10 = 0 := by clear e25 e21 e22 e23 e20 e5 e8 e12 d15; unfold bt; omega
              have v9 : bt w 9 = 0 := by clear e25 e21 e22 e23 e20 e5 e8 e12 d15; unfold bt; omega
              have v8 : bt w 8 = 0 := by clear e25 e21 e22 e23 e20 e5 e8 e12 d15; unfold bt; omega
              have v7 : bt w 7 = 0 := by clear e25 e21 e22 e23 e20 e5 e8 e12 d15; unfold bt; omega
              have v6 : bt w 6 = 0 := by clear e25 e21 e22 e23 e20 e5 e8 e12 d15; unfold bt; omega
              have v5 : bt w 5 = 0 := by clear e25 e21 e22 e23 e20 e5 e8 e12 d15; unfold bt; omega
              have v4 : bt w 4 = 0 := by clear e25 e21 e22 e23 e20 e5 e8 e12 d15; unfold bt; omega
              exact .inr ⟨(12, p9), by simp [tblP], (fit9 w).2 ⟨by omega, by omega, by omega, by omega, by omega, by omega, by omega, by omega, by omega, by omega, by omega, v11, v10, v9, v8, v7, v6, v5, v4⟩, by rw [step9]; rfl⟩
            ·
              refine .inl ?_
              rw [← q28 h0 h1]
              unfold decP extraP dataP halfP statusP wordP blockP
              simp [f25, h74, hS, hX, hM, hU]
      · have hc : ¬ (8 ≤ fl w 21 4 ∧ fl w 21 4 ≤ 11 ∧ tb w 20 = false) := by rintro ⟨g1, g2, g3⟩; exact hS ⟨by omega, g3⟩
        cases t4 : tb w 4
        · have b4 := bt0 t4
          exact .inr ⟨(1, p11), by simp [tblP], (fit11 w).2 ⟨by omega, by omega, by omega, by omega⟩, by rw [step11, if_neg hc]; rfl⟩
        · have b4 := bt1 t4
          have b7 : bt w 7 = 0 := by rcases b01 w 7 with e | e; exact e; exact absurd ⟨tb1 e, t4⟩ h74
          exact .inr ⟨(1, p12), by simp [tblP], (fit12 w).2 ⟨by omega, by omega, by omega, by omega, by omega⟩, by rw [step12, if_neg hc]; rfl⟩
  · have f25 : fl w 25 3 = 1 := by omega
    by_cases hS : fl w 21 4 / 4 = 2 ∧ tb w 20 = false
    · have b20 := bt0 hS.2
      by_cases hU : tb w 21 = true ∧ fl w 12 4 = 15
      · obtain ⟨t21, d15⟩ := hU
        have b21 := bt1 t21
        exact .inr ⟨(12, p10), by simp [tblP], (fit10 w).2 ⟨by omega, by omega, by omega, by omega, by omega, by omega, by omega, by omega, by omega, by omega, by omega⟩, by rw [step10]; rfl⟩
      ·
        refine .inl ?_
        rw [← q28 h0 h1]
        unfold decP extraP dataP halfP statusP wordP blockP
        simp [f25, hS, hU]
    · have hc : ¬ (8 ≤ fl w 21 4 ∧ fl w 21 4 ≤ 11 ∧ tb w 20 = false) := by rintro ⟨g1, g2, g3⟩; exact hS ⟨by omega, g3⟩
      exact .inr ⟨(1, p13), by simp [tblP], (fit13 w).2 ⟨by omega, by omega, by omega⟩, by rw [step13, if_neg hc]; rfl⟩
  ·
    exact .inr ⟨(7, p14), by simp [tblP], (fit14 w).2 ⟨by omega, by omega, by omega⟩, by rw [step14]; rfl⟩
  · have f25 : fl w 25 3 = 3 := by omega
    have t25 := tb1 b25
    cases t4 : tb w 4
    · have b4 := bt0 t4
      exact .inr ⟨(7, p15), by simp [tblP], (fit15 w).2 ⟨by omega, by omega, by omega, by omega⟩, by rw [step15]; rfl⟩
    ·
      refine .inl ?_
      rw [← q28 h0 h1]
      unfold decP extraP dataP halfP statusP wordP blockP
      simp [f25, t25, t4]
  ·
    exact .inr ⟨(8, p16), by simp [tblP], (fit16 w).2 ⟨by omega, by omega, by omega⟩, by rw [step16]; rfl⟩
  ·
    exact .inr ⟨(9, p17), by simp [tblP], (fit17 w).2 ⟨by omega, by omega, by omega⟩, by rw [step17]; rfl⟩
  · have f25 : fl w 25 3 = 6 := by omega
    refine .inl ?_
    rw [← q28 h0 h1]
    unfold decP extraP dataP halfP statusP wordP blockP
    simp [f25]
  · have f25 : fl w 25 3 = 7 := by omega
    cases t24 : tb w 24
    ·
      refine .inl ?_
      rw [← q28 h0 h1]
      unfold decP extraP dataP halfP statusP wordP blockP
      simp [f25, t24]
    · have b24 := bt1 t24
      exact .inr ⟨(10, p18), by simp [tblP], (fit18 w).2 ⟨by omega, by omega, by omega, by omega⟩, by rw [step18]; rfl⟩
theorem ref_dec (w : Int) (h0 : 0 ≤ w) (h1 : w < 4294967296) : refP w tblP = decP w := by
  refine refP_eq w h0 h1 tblP ?_ (complete w h0 h1)
  intro q hq hf x hx
  simp only [tblP, List.mem_cons, List.not_mem_nil, or_false] at hq
  rcases hq with rfl | rfl | rfl | rfl | rfl | rfl | rfl | rfl | rfl | rfl | rfl | rfl | rfl | rfl | rfl | rfl | rfl | rfl | rfl
  · exact sound0 w h0 h1 hf x hx
  · exact sound1 w h0 h1 hf x hx
  · exact sound2 w h0 h1 hf x hx
  · exact sound3 w h0 h1 hf x hx
  · exact sound4 w h0 h1 hf x hx
  · exact sound5 w h0 h1 hf x hx
  · exact sound6 w h0 h1 hf x hx
  · exact sound7 w h0 h1 hf x hx
  · exact sound8 w h0 h1 hf x hx
  · exact sound9 w h0 h1 hf x hx
  · exact sound10 w h0 h1 hf x hx
  · exact sound11 w h0 h1 hf x hx
  · exact sound12 w h0 h1 hf x hx
  · exact sound13 w h0 h1 hf x hx
  · exact sound14 w h0 h1 hf x hx
  · exact sound15 w h0 h1 hf x hx
  · exact sound16 w h0 h1 hf x hx
  · exact sound17 w h0 h1 hf x hx
  · exact sound18 w h0 h1 hf x hx
end Go.Proofs.Ytlpjadpjjcpfgaa.Rx
