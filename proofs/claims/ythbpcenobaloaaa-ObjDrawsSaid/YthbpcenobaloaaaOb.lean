/- The scene of awake, drawn, in plain terms. No program here. -/
import Derived.Test.YthbpcenobaloaaaHl
import Derived.Test.YthbpcenobaloaaaNg
namespace Go.Proofs.Ythbpcenobaloaaa.Ob
set_option linter.unusedVariables false
set_option linter.unusedSimpArgs false
open Go.RowKit Go.Proofs.Ythbpcenobaloaaa.Bt Go.Proofs.Ythbpcenobaloaaa.Wk Go.Proofs.Ythbpcenobaloaaa.Sg Go.Proofs.Ythbpcenobaloaaa.Gp Go.Proofs.Ythbpcenobaloaaa.Pp Go.Proofs.Ythbpcenobaloaaa.Pa Go.Proofs.Ythbpcenobaloaaa.Pd Go.Proofs.Ythbpcenobaloaaa.Pi Go.Proofs.Ythbpcenobaloaaa.Hf Go.Proofs.Ythbpcenobaloaaa.Hl Go.Proofs.Ythbpcenobaloaaa.Ng

theorem list_none {s : Sc} {line : Int} : ∀ (f i : Nat) (left : Int), (∀ j, i ≤ j → j < i + f → hits s line j = false) → listV s line f i left = []
  | 0, _, _, _ => rfl
  | f + 1, i, left, h => by rw [list_miss (h i (Nat.le_refl _) (by omega))]; exact list_none f (i + 1) left fun j h1 h2 => h j (by omega) (by omega)
def m0 : Mem := ⟨none, 0, 0, fun _ => 0⟩
def sZ : Sc := ⟨0, fun _ => 0, fun _ => 0, fun _ => 0, fun _ => 0, fun _ => 0, 0, m0, m0, m0⟩
def dZ : Ok := ⟨0, 0, fun _ _ => 0, fun _ => 0⟩
theorem mok0 : Mok m0 := ⟨Nat.zero_le _, fun i hi => absurd hi (Nat.not_lt_zero _)⟩
theorem sZ_ok : Sok sZ where
  c0 := by show (0 : Int) ≤ 0; decide
  c1 := by show (0 : Int) < 65536; decide
  b := fun i _ => by show (0 : Int) ≤ 0 ∧ (0 : Int) < 65536; decide
  x := fun i _ => by show (0 : Int) ≤ 0 ∧ (0 : Int) < 65536; decide
  y := fun i _ => by show (0 : Int) ≤ 0 ∧ (0 : Int) < 65536; decide
  p := fun i _ => by show (-32768 : Int) ≤ 0 ∧ (0 : Int) < 32768; decide
  r := fun i _ => by show (-2147483648 : Int) ≤ 0 ∧ (0 : Int) < 2147483648; decide
  m0 := by show (0 : Int) ≤ 0; decide
  m1 := by show (0 : Int) < 65536; decide
  vr := mok0
  pa := mok0
  oa := mok0
/-- The scene of awake. -/
def zA (bv bq bo : Nat) (fv fq fo : Nat → Int) : Sc := withMem { sZ with ctl := 4096 } bv bq bo fv fq fo
theorem half_in {m : Mem} {a : Nat} (h : (a : Int) < (m.n : Int) - 1) : halfV m a = m.f a + 256 * m.f (a + 1) := by
  unfold halfV; rw [if_pos ⟨by omega, h⟩, Int.toNat_natCast]
theorem byte_in {m : Mem} {a : Nat} (h : a < m.n) : byteV m a = m.f a := by
  unfold byteV; rw [if_pos ⟨by omega, by omega⟩, Int.toNat_natCast]
def oA (k : Nat) : Int := if k = 1 then 0 else if k % 8 = 1 ∧ k < 1024 then 2 else 0
theorem bd_oA : Bd oA := fun k => by unfold oA; (repeat' split) <;> omega
theorem oa_awake : upd (oaU dZ 128) 1 0 = oA := by
  funext k
  unfold upd oaU oaF oA dZ
  dsimp only
  by_cases e : k = 1
  · rw [if_pos e, if_pos e]
  · rw [if_neg e, if_neg e]
    by_cases g : k / 8 < 128
    · rw [if_pos g]
      by_cases h1 : k % 8 = 1
      · rw [if_pos (by omega), if_neg (by omega), if_pos h1, if_pos (by omega)]
      · rw [if_neg (show ¬ (k % 8 = 1 ∧ k < 1024) by omega)]
        by_cases h6 : k % 8 < 6
        · rw [if_pos h6, if_neg (by omega), if_neg h1]
        · rw [if_neg h6, if_neg (by omega)]
    · rw [if_neg g, if_neg (by omega)]
section
variable {bv bq bo : Nat} {fv fq : Nat → Int}
theorem wA_awake {i : Nat} (hi : i < 128) : wA (zA bv bq bo fv fq oA) i = if i = 0 then 0 else 512 := by
  show halfV ⟨some ⟨bo, 0, none⟩, 1024, 1024, oA⟩ (8 * (i : Int)) = _
  rw [show (8 * (i : Int)) = ((8 * i : Nat) : Int) by omega, half_in (by show ((8 * i : Nat) : Int) < (1024 : Nat) - 1; omega)]
  show oA (8 * i) + 256 * oA (8 * i + 1) = _
  unfold oA
  rw [if_neg (by omega), if_neg (by omega)]
  by_cases e : i = 0
  · subst e; rfl
  · rw [if_neg (by omega), if_pos (by omega), if_neg e]; rfl
theorem wBC_awake {i j : Nat} (hi : i < 128) (hj : j = 2 ∨ j = 4) : halfV (zA bv bq bo fv fq oA).oa (8 * (i : Int) + (j : Int)) = 0 := by
  show halfV ⟨some ⟨bo, 0, none⟩, 1024, 1024, oA⟩ _ = _
  rw [show (8 * (i : Int) + (j : Int)) = ((8 * i + j : Nat) : Int) by omega, half_in (by show ((8 * i + j : Nat) : Int) < (1024 : Nat) - 1; omega)]
  show oA (8 * i + j) + 256 * oA (8 * i + j + 1) = _
  unfold oA
  rw [if_neg (by omega), if_neg (by omega), if_neg (by omega), if_neg (by omega)]; rfl
def pA : Sp := ⟨0, 0, 8, 8, 8, 8, false, 0, false, false, false, false, 256, 0, 0, 256, 0, 0, 0⟩
theorem sp_awake : spV (zA bv bq bo fv fq oA) 0 = pA := by
  have a : wA (zA bv bq bo fv fq oA) 0 = 0 := wA_awake (by decide)
  have b : wB (zA bv bq bo fv fq oA) 0 = 0 := wBC_awake (i := 0) (j := 2) (by decide) (.inl rfl)
  have c : wC (zA bv bq bo fv fq oA) 0 = 0 := wBC_awake (i := 0) (j := 4) (by decide) (.inr rfl)
  unfold spV isTurned
  rw [a, b, c]
  rfl
theorem hits_awake {i : Nat} (hi : i < 128) : hits (zA bv bq bo fv fq oA) 0 i = (i == 0) := by
  have a := wA_awake (bv := bv) (bq := bq) (bo := bo) (fv := fv) (fq := fq) hi
  unfold hits okV
  rw [a]
  by_cases e : i = 0
  · subst e; rw [sp_awake]; rfl
  · rw [if_neg e]
    have : (i == 0) = false := by simpa using e
    rw [this]; rfl
theorem list_awake : spritesV (zA bv bq bo fv fq oA) 0 = [0] := by
  unfold spritesV
  rw [if_pos (by show (4096 : Int) / 4096 % 2 = 1 ∧ (4096 : Int) / 128 % 2 = 0 ∧ (0 : Int) ≤ 0 ∧ (0 : Int) < 160; decide)]
  rw [list_hit (hits_awake (by decide)) (by rw [sp_awake]; show ¬ ((if (4096 : Int) / 32 % 2 = 1 then 954 else 1210) - 8 : Int) < 0; decide)]
  rw [list_none 127 1 _ (fun j h1 h2 => by rw [hits_awake (by omega)]; simp; omega)]
theorem draw_awake (hv : ∀ i, i < 32 → fv (65536 + i) = 17) (h0 : fq 514 = 52) (h1 : fq 515 = 18) :
    drawF (zA bv bq bo fv fq oA) 0 7 = ⟨4660, 0, false, false⟩ ∧ drawF (zA bv bq bo fv fq oA) 0 8 = ⟨32768, 0, false, false⟩ ∧ (drawF (zA bv bq bo fv fq oA) 0 0).w = false := by
  have hit : ∀ n : Nat, n < 8 → hitV (zA bv bq bo fv fq oA) pA 0 n = 1 := fun n hn => by
    have bt : byteV (zA bv bq bo fv fq oA).vr (65536 + ((n / 2 : Nat) : Int)) = 17 := by
      rw [show (65536 + ((n / 2 : Nat) : Int)) = ((65536 + n / 2 : Nat) : Int) by omega, byte_in (by show 65536 + n / 2 < 98304; omega)]
      exact hv _ (by omega)
    have e1 : max ((n : Int) - n % acrP (zA bv bq bo fv fq oA) pA) pA.x - pA.x = n := by
      show max ((n : Int) - n % 1) 0 - 0 = n
      omega
    unfold hitV inBoxV
    rw [e1]
    show colP (zA bv bq bo fv fq oA) pA n 0 = 1
    unfold colP
    rw [if_neg (by show ¬ ((n : Int) < 0 ∨ (0 : Int) < 0 ∨ (8 : Int) ≤ n ∨ (8 : Int) ≤ 0); omega)]
    unfold colIn
    rw [show tileN (zA bv bq bo fv fq oA) pA n 0 = 0 by
      show (0 : Int) + (0 / 8 * 32 + (n : Int) / 8 * 1) = 0
      omega]
    rw [if_neg (by show ¬ ((3 : Int) ≤ 4096 % 8 ∧ _); omega)]
    show (if nibP (byteV (zA bv bq bo fv fq oA).vr (65536 + 0 % 1024 * 32 + (0 % 8 * 4 + (n : Int) % 8 / 2))) n = 0 then (0 : Int) else 0 * 16 + _) = 1
    rw [show (65536 + 0 % 1024 * 32 + (0 % 8 * 4 + (n : Int) % 8 / 2) : Int) = 65536 + ((n / 2 : Nat) : Int) by omega, bt]
    have : nibP 17 (n : Int) = 1 := by unfold nibP; split <;> rfl
    rw [this]; rfl
  have col : colourV (zA bv bq bo fv fq oA) 257 = 4660 := by
    unfold colourV
    rw [if_pos (by show (0 : Int) ≤ 257 ∧ (257 : Int) ≤ (1024 : Nat); decide)]
    rw [show (2 * 257 : Int) = ((514 : Nat) : Int) by rfl, half_in (by show ((514 : Nat) : Int) < (1024 : Nat) - 1; decide)]
    show (fq 514 + 256 * fq 515) % 32768 = 4660
    rw [h0, h1]; rfl
  have at_in : ∀ n : Nat, n < 8 → drawF (zA bv bq bo fv fq oA) 0 n = ⟨4660, 0, false, false⟩ := fun n hn => by
    rw [draw_at, list_awake]
    show dstep (zA bv bq bo fv fq oA) 0 n ⟨32768, 0, false, false⟩ 0 = _
    unfold dstep
    rw [sp_awake, if_pos (by show (0 : Int) ≤ n ∧ (n : Int) < 0 + 8; omega)]
    unfold stepD
    rw [hit n hn, if_neg (by decide), if_neg (by decide), if_pos (.inl rfl), show (256 + 1 : Int) = 257 by rfl, col]
    rfl
  refine ⟨at_in 7 (by decide), ?_, by rw [at_in 0 (by decide)]⟩
  rw [draw_at, list_awake]
  show dstep (zA bv bq bo fv fq oA) 0 8 ⟨32768, 0, false, false⟩ 0 = _
  unfold dstep
  rw [sp_awake, if_neg (by show ¬ ((0 : Int) ≤ (8 : Nat) ∧ ((8 : Nat) : Int) < 0 + 8); decide)]
end
end Go.Proofs.Ythbpcenobaloaaa.Ob
