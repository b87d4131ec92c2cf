/- The sprites of a line, in plain terms, and the blocks of Draw. No program here. -/
import Derived.Test.YthbpcenobaloaaaPa
import Derived.Test.YthbpcenobaloaaaPd
namespace Go.Proofs.Ythbpcenobaloaaa.Pi
set_option linter.unusedVariables false
set_option linter.unusedSimpArgs false
open Go.RowKit Go.Proofs.Ythbpcenobaloaaa.Bt Go.Proofs.Ythbpcenobaloaaa.Wk Go.Proofs.Ythbpcenobaloaaa.Sg Go.Proofs.Ythbpcenobaloaaa.Gp Go.Proofs.Ythbpcenobaloaaa.Pp Go.Proofs.Ythbpcenobaloaaa.Pa Go.Proofs.Ythbpcenobaloaaa.Pd

/-- Does sprite i lie in the line? -/
def hits (s : Sc) (line : Int) (i : Nat) : Bool := okV s i && decide ((spV s i).y ≤ line) && decide (line < (spV s i).y + (spV s i).boxH)
/-- The sprites that are drawn, from i on, where so many cycles are left. -/
def listV (s : Sc) (line : Int) : Nat → Nat → Int → List Nat
  | 0, _, _ => []
  | f + 1, i, left => if hits s line i then (if left - costV (spV s i) < 0 then [] else i :: listV s line f (i + 1) (left - costV (spV s i))) else listV s line f (i + 1) left
def layL (s : Sc) (line : Int) : List Nat → (Nat → Ds) → Nat → Ds
  | [], F => F
  | i :: l, F => layL s line l (laidD s (spV s i) line F)
def emptyD : Nat → Ds := fun _ => ⟨32768, 0, false, false⟩
def zeroD : Nat → Ds := fun _ => ⟨0, 0, false, false⟩
def leftV (s : Sc) : Int := if s.ctl / 32 % 2 = 1 then 954 else 1210
def onV (s : Sc) (line : Int) : Prop := s.ctl / 4096 % 2 = 1 ∧ s.ctl / 128 % 2 = 0 ∧ 0 ≤ line ∧ line < 160
instance (s : Sc) (line : Int) : Decidable (onV s line) := by unfold onV; exact inferInstance
def spritesV (s : Sc) (line : Int) : List Nat := if onV s line then listV s line 128 0 (leftV s) else []
def drawF (s : Sc) (line : Int) : Nat → Ds := layL s line (spritesV s line) emptyD
theorem list_miss {s : Sc} {line : Int} {f i : Nat} {left : Int} (h : hits s line i = false) : listV s line (f + 1) i left = listV s line f (i + 1) left := by
  show (if hits s line i = true then _ else _) = _
  rw [h]; rfl
theorem list_stop {s : Sc} {line : Int} {f i : Nat} {left : Int} (h : hits s line i = true) (g : left - costV (spV s i) < 0) : listV s line (f + 1) i left = [] := by
  show (if hits s line i = true then _ else _) = _
  rw [h, if_pos rfl, if_pos g]
theorem list_hit {s : Sc} {line : Int} {f i : Nat} {left : Int} (h : hits s line i = true) (g : ¬ left - costV (spV s i) < 0) : listV s line (f + 1) i left = i :: listV s line f (i + 1) (left - costV (spV s i)) := by
  show (if hits s line i = true then _ else _) = _
  rw [h, if_pos rfl, if_neg g]
theorem cost_bd {p : Sp} (k : Pok p) : 8 ≤ costV p ∧ costV p ≤ 266 := by
  have bw := k.bw
  have pw := k.w
  unfold costV
  split <;> omega
def uptoE (n : Nat) : Nat → Ds := fun x => if x < n then ⟨32768, 0, false, false⟩ else ⟨0, 0, false, false⟩
theorem uptoE_zero : uptoE 0 = zeroD := by funext x; simp [uptoE, zeroD]
theorem uptoE_end : rowC (uptoE 240) = rowC emptyD := row_congr fun x hx => if_pos hx
theorem uptoE_set {n : Nat} : upd (uptoE n) n ⟨32768, 0, false, (uptoE n n).w⟩ = uptoE (n + 1) := by
  funext x
  unfold upd uptoE
  by_cases e : x = n
  · subst e; simp
  · have : (x < n) ↔ (x < n + 1) := by omega
    simp [e, this]
/-- While Draw goes on: the result's block is still empty, the block behind it holds the row F. -/
structure Dr (w wx : World) (F : Nat → Ds) : Prop where
  rc : wx.heap[w.heap.size]? = some (rowO zeroD)
  rw_ : wx.heap[w.heap.size + 1]? = some (rowO F)
  bl : Below w.heap.size w wx
theorem Dr.only {w wx wy : World} {F G : Nat → Ds} (h : Dr w wx F) (o : Only (w.heap.size + 1) (rowO G) wx wy) : Dr w wy G :=
  ⟨o.keep h.rc (by omega), o.at_, below_only h.bl o (by omega) h.bl.size⟩
theorem Dr.later {w wx wy : World} {F : Nat → Ds} (h : Dr w wx F) (b : Below wx.heap.size wx wy) : Dr w wy F :=
  ⟨keep b h.rc, keep b h.rw_, below_then h.bl b h.bl.size⟩
theorem Dr.to {w wx : World} {F G : Nat → Ds} (h : Dr w wx F) (e : rowC F = rowC G) : Dr w wx G := ⟨h.rc, by rw [h.rw_]; unfold rowO; rw [e], h.bl⟩
def rowVal (F : Nat → Ds) : Value := .agg (rowC F).toArray
theorem row_size (F : Nat → Ds) : (rowC F).toArray.size = 960 := by simp [rowC, seg_length]
theorem row_one (F : Nat → Ds) : (rowC F).toArray.all (·.oneCell') = true := by
  rw [Array.all_eq_true']
  intro x hx
  simp only [rowC, seg, List.mem_toArray, List.mem_map] at hx
  obtain ⟨i, _, rfl⟩ := hx
  unfold rowCell
  split
  · split
    · rfl
    · split <;> rfl
  · rfl
end Go.Proofs.Ythbpcenobaloaaa.Pi
