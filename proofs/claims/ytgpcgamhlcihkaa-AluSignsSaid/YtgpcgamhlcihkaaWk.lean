/- Blocks of memory that are known whole, in later worlds. No program here. -/
import Derived.WalkKit
import Derived.Below
import Derived.Lib.SmallJoins
namespace Go.Proofs.Ytgpcgamhlcihkaa.Wk
set_option linter.unusedVariables false
set_option linter.unusedSimpArgs false
open Go.RowKit

theorem alloc_new (w : World) (o : Obj) : (w.alloc o).heap[w.heap.size]? = some o := (MapKept.heap_alloc w o).1
theorem alloc_old {w : World} {b : Nat} {x : Obj} (o : Obj) (h : w.heap[b]? = some x) : (w.alloc o).heap[b]? = some x := by
  have hlt : b < w.heap.size := (Array.getElem?_eq_some_iff.1 h).1
  rw [(MapKept.heap_alloc w o).2 b hlt, h]
theorem keep {W w : World} {b : Nat} {x : Obj} (hb : Below W.heap.size W w) (h : W.heap[b]? = some x) : w.heap[b]? = some x := by
  rw [hb.block b (Array.getElem?_eq_some_iff.1 h).1]; exact h
theorem sizeAt {w : World} {b : Nat} {x : Obj} (h : w.heap[b]? = some x) : b < w.heap.size := (Array.getElem?_eq_some_iff.1 h).1
theorem cellsAt {w : World} {b : Nat} {cs : Array Value} {t : TypeId} {fr : Nat × Nat} (h : w.heap[b]? = some (.cells cs t fr)) : ∀ j, w.cell? ⟨b, j, none⟩ = cs[j]? := fun j => by simp [World.cell?, h]
theorem freeAt {w : World} {b : Nat} {cs : Array Value} {t : TypeId} (h : w.heap[b]? = some (.cells cs t (0, 0))) : ∀ j, w.frozen? ⟨b, j, none⟩ = false := fun j => by simp [World.frozen?, h]
theorem drew_heap {w : World} {b : Nat} {x : Obj} (h : w.heap[b]? = some x) : w.drew.heap[b]? = some x := h
theorem drewN_heap {w : World} {b : Nat} {x : Obj} (n : Nat) (h : w.heap[b]? = some x) : (w.drewN n).heap[b]? = some x := h
theorem set_at {w : World} {b j : Nat} {cs : Array Value} {t : TypeId} {fr : Nat × Nat} (v : Value) (h : w.heap[b]? = some (.cells cs t fr)) : (w.setCell ⟨b, j, none⟩ v).heap[b]? = some (.cells (cs.setIfInBounds j v) t fr) := Joins.block_setCell h v
theorem set_ne {w : World} {b c j : Nat} {x : Obj} (v : Value) (hne : b ≠ c) (h : w.heap[b]? = some x) : (w.setCell ⟨c, j, none⟩ v).heap[b]? = some x := by
  rw [← h]
  simp [World.setCell, Array.getElem?_modify, Ne.symm hne]
theorem below_d1 {b : Nat} {w W : World} (h : Below b w W) : Below b w W.drew := ⟨h.os, h.tape, h.output, h.size, h.block⟩
theorem below_dn {b : Nat} {w W : World} (h : Below b w W) (n : Nat) : Below b w (W.drewN n) := ⟨h.os, h.tape, h.output, h.size, h.block⟩
/-- A callee's end behind ours. -/
theorem below_then {b : Nat} {w W w2 : World} (h : Below b w W) (h2 : Below W.heap.size W w2) (hb : b ≤ W.heap.size) : Below b w w2 := h.trans (h2.mono hb)
end Go.Proofs.Ytgpcgamhlcihkaa.Wk
