/- A row of dots, and what a sprite lays into it. No program here. -/
import Derived.Test.YthbpcenobaloaaaPp
namespace Go.Proofs.Ythbpcenobaloaaa.Pd
set_option linter.unusedVariables false
set_option linter.unusedSimpArgs false
open Go.RowKit Go.Proofs.Ythbpcenobaloaaa.Bt Go.Proofs.Ythbpcenobaloaaa.Wk Go.Proofs.Ythbpcenobaloaaa.Sg Go.Proofs.Ythbpcenobaloaaa.Gp Go.Proofs.Ythbpcenobaloaaa.Pp

/-- A dot: colour, priority, mixed?, window? -/
structure Ds where
  c : Int
  p : Int
  s : Bool
  w : Bool
def rowCell (F : Nat → Ds) (j : Nat) : Value :=
  if j < 720 then (if j % 3 = 0 then .int .u16 (F (j / 3)).c else if j % 3 = 1 then .int .i64 (F (j / 3)).p else .bool (F (j / 3)).s) else .bool (F (j - 720)).w
def rowC (F : Nat → Ds) : List Value := seg 960 (rowCell F)
abbrev rowO (F : Nat → Ds) : Obj := .cells (rowC F).toArray 49 (0, 0)
theorem row_c (F : Nat → Ds) {x : Nat} (h : x < 240) : (rowC F).toArray[x * 3]? = some (.int .u16 (F x).c) := by
  rw [toArray_at]
  unfold rowC
  rw [seg_at _ (by omega)]
  unfold rowCell
  rw [if_pos (by omega), if_pos (by omega), show x * 3 / 3 = x by omega]
theorem row_p (F : Nat → Ds) {x : Nat} (h : x < 240) : (rowC F).toArray[x * 3 + 1]? = some (.int .i64 (F x).p) := by
  rw [toArray_at]
  unfold rowC
  rw [seg_at _ (by omega)]
  unfold rowCell
  rw [if_pos (by omega), if_neg (by omega), if_pos (by omega), show (x * 3 + 1) / 3 = x by omega]
theorem row_s (F : Nat → Ds) {x : Nat} (h : x < 240) : (rowC F).toArray[x * 3 + 2]? = some (.bool (F x).s) := by
  rw [toArray_at]
  unfold rowC
  rw [seg_at _ (by omega)]
  unfold rowCell
  rw [if_pos (by omega), if_neg (by omega), if_neg (by omega), show (x * 3 + 2) / 3 = x by omega]
theorem row_w (F : Nat → Ds) {x : Nat} (h : x < 240) : (rowC F).toArray[720 + x]? = some (.bool (F x).w) := by
  rw [toArray_at]
  unfold rowC
  rw [seg_at _ (by omega)]
  unfold rowCell
  rw [if_neg (by omega), show 720 + x - 720 = x by omega]
theorem row_congr {F G : Nat → Ds} (h : ∀ x, x < 240 → F x = G x) : rowC F = rowC G := by
  refine seg_congr fun j hj => ?_
  unfold rowCell
  split
  · rw [h (j / 3) (by omega)]
  · rw [h (j - 720) (by omega)]
theorem row_setw (F : Nat → Ds) {x : Nat} (h : x < 240) (b : Bool) : (rowC F).toArray.setIfInBounds (720 + x) (.bool b) = (rowC (upd F x { F x with w := b })).toArray := by
  unfold rowC
  rw [toArray_set (seg 960 (rowCell F)), seg_set]
  refine congrArg List.toArray (seg_congr fun j hj => ?_)
  by_cases e : j = 720 + x
  · rw [e, upd_same]
    unfold rowCell
    rw [if_neg (by omega), show 720 + x - 720 = x by omega, upd_same]
  · rw [upd_ne _ _ e]
    unfold rowCell
    split
    · by_cases e2 : j / 3 = x
      · rw [e2, upd_same]
      · rw [upd_ne _ _ e2]
    · rw [upd_ne _ _ (show j - 720 ≠ x by omega)]
theorem row_set3 (F : Nat → Ds) {x : Nat} (h : x < 240) (c p : Int) (s : Bool) :
    (((rowC F).toArray.setIfInBounds (x * 3) (.int .u16 c)).setIfInBounds (x * 3 + 1) (.int .i64 p)).setIfInBounds (x * 3 + 2) (.bool s) = (rowC (upd F x ⟨c, p, s, (F x).w⟩)).toArray := by
  unfold rowC
  rw [toArray_set (seg 960 (rowCell F)), seg_set, toArray_set (seg 960 _), seg_set, toArray_set (seg 960 _), seg_set]
  refine congrArg List.toArray (seg_congr fun j hj => ?_)
  by_cases e2 : j = x * 3 + 2
  · rw [e2, upd_same]
    unfold rowCell
    rw [if_pos (by omega), if_neg (by omega), if_neg (by omega), show (x * 3 + 2) / 3 = x by omega, upd_same]
  · rw [upd_ne _ _ e2]
    by_cases e1 : j = x * 3 + 1
    · rw [e1, upd_same]
      unfold rowCell
      rw [if_pos (by omega), if_neg (by omega), if_pos (by omega), show (x * 3 + 1) / 3 = x by omega, upd_same]
    · rw [upd_ne _ _ e1]
      by_cases e0 : j = x * 3
      · rw [e0, upd_same]
        unfold rowCell
        rw [if_pos (by omega), if_pos (by omega), show x * 3 / 3 = x by omega, upd_same]
      · rw [upd_ne _ _ e0]
        unfold rowCell
        split
        · rw [upd_ne _ _ (show j / 3 ≠ x by omega)]
        · by_cases ew : j - 720 = x
          · rw [ew, upd_same]
          · rw [upd_ne _ _ ew]
/-! ### what a sprite lays -/
def acrP (s : Sc) (p : Sp) : Int := if p.mosaic then s.mos / 256 % 16 + 1 else 1
def dwnP (s : Sc) (p : Sp) : Int := if p.mosaic then s.mos / 4096 + 1 else 1
def yP (s : Sc) (p : Sp) (line : Int) : Int := max (line - line % dwnP s p) p.y - p.y
def hitV (s : Sc) (p : Sp) (line : Int) (x : Int) : Int := inBoxV s p (max (x - x % acrP s p) p.x - p.x) (yP s p line)
def stepD (s : Sc) (p : Sp) (line : Int) (x : Nat) (d : Ds) : Ds :=
  if hitV s p line x = 0 then d else if p.mode = 2 then { d with w := true }
  else if d.c = 32768 ∨ p.prio < d.p then ⟨colourV s (256 + hitV s p line x), p.prio, p.mode == 1, d.w⟩ else d
/-- A sprite's part of a line. -/
def laidD (s : Sc) (p : Sp) (line : Int) (F : Nat → Ds) : Nat → Ds := fun x => if p.x ≤ x ∧ (x : Int) < p.x + p.boxW then stepD s p line x (F x) else F x
def uptoD (s : Sc) (p : Sp) (line : Int) (F : Nat → Ds) (n : Int) : Nat → Ds := fun x => if p.x ≤ x ∧ (x : Int) < n then stepD s p line x (F x) else F x
theorem upto_step (s : Sc) (p : Sp) (line : Int) (F : Nat → Ds) {n : Nat} (h : p.x ≤ n) : upd (uptoD s p line F n) n (stepD s p line n (uptoD s p line F n n)) = uptoD s p line F ((n : Int) + 1) := by
  have e0 : uptoD s p line F n n = F n := if_neg (by omega)
  rw [e0]
  funext k
  unfold upd uptoD
  by_cases e : k = n
  · subst e; rw [if_pos rfl, if_pos (by omega)]
  · rw [if_neg e]
    by_cases g : p.x ≤ k ∧ (k : Int) < n
    · rw [if_pos g, if_pos (by omega)]
    · rw [if_neg g, if_neg (by omega)]
theorem upto_same (s : Sc) (p : Sp) (line : Int) (F : Nat → Ds) {n : Nat} (h : p.x ≤ n) (e : stepD s p line n (uptoD s p line F n n) = uptoD s p line F n n) : uptoD s p line F ((n : Int) + 1) = uptoD s p line F n := by
  rw [← upto_step s p line F h, e]
  funext k
  unfold upd
  split
  · next g => rw [g]
  · rfl
theorem upto_start (s : Sc) (p : Sp) (line : Int) (F : Nat → Ds) {n : Int} (h : n ≤ max 0 p.x) : uptoD s p line F n = F := by
  funext k
  unfold uptoD
  rw [if_neg (by omega)]
theorem upto_end (s : Sc) (p : Sp) (line : Int) (F : Nat → Ds) {n : Int} (h0 : max 0 p.x ≤ n) (h1 : min 240 (p.x + p.boxW) ≤ n) (h2 : n ≤ max (max 0 p.x) (min 240 (p.x + p.boxW))) : rowC (uptoD s p line F n) = rowC (laidD s p line F) := by
  refine row_congr fun x hx => ?_
  unfold uptoD laidD
  have e : (p.x ≤ x ∧ (x : Int) < n) ↔ (p.x ≤ x ∧ (x : Int) < p.x + p.boxW) := by omega
  by_cases g : p.x ≤ x ∧ (x : Int) < n
  · rw [if_pos g, if_pos (e.1 g)]
  · rw [if_neg g, if_neg (fun q => g (e.2 q))]
theorem acr_bd {s : Sc} (k : Sok s) (p : Sp) : 1 ≤ acrP s p ∧ acrP s p ≤ 16 := by have := k.m0; unfold acrP; split <;> omega
theorem dwn_bd {s : Sc} (k : Sok s) (p : Sp) : 1 ≤ dwnP s p ∧ dwnP s p ≤ 16 := by have := k.m0; have := k.m1; unfold dwnP; split <;> omega
theorem floor_bd {n a : Int} (n0 : 0 ≤ n) (a1 : 1 ≤ a) : 0 ≤ n % a ∧ 0 ≤ n - n % a ∧ n - n % a ≤ n := by
  have h1 := Int.emod_nonneg n (show a ≠ 0 by omega)
  have h3 : n % a ≤ n := by
    have := Int.mul_ediv_add_emod n a
    have h4 : 0 ≤ a * (n / a) := Int.mul_nonneg (by omega) (Int.ediv_nonneg n0 (by omega))
    omega
  omega
end Go.Proofs.Ythbpcenobaloaaa.Pd
