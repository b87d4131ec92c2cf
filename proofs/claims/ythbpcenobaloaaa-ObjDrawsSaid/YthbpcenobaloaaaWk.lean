/- Blocks of memory that are known whole, in later worlds. No program here. -/
import Derived.WalkKit
import Derived.Below
import Derived.Lib.SmallJoins
import Derived.Deep.Slices
import Derived.Deep.QuietTactic
namespace Go.Proofs.Ythbpcenobaloaaa.Wk
set_option linter.unusedVariables false
set_option linter.unusedSimpArgs false
open Go.RowKit

theorem ret_b {a b : Bool} (h : a = b) : Ending.returned (.bool a) = Ending.returned (.bool b) := by rw [h]
theorem ret_i {k : IntKind} {a b : Int} (h : a = b) : Ending.returned (.int k a) = Ending.returned (.int k b) := by rw [h]
/-- A contract that keeps our name of the world, the other way round. -/
theorem flip {P : Program} {f : FuncId} {args : Array Value} {w : World} {v : Value} (h : Calls P f args w fun e w' => e = .returned v ∧ w = w') : Calls P f args w fun e w' => e = .returned v ∧ w' = w := h.mono fun _ _ k => ⟨k.1, k.2.symm⟩
/-- In a quiet region behind draws. -/
theorem quiet_add {P : Program} {f : FuncId} {args : Array Value} {w : World} {a n : Nat} {v : Value}
    (h : Calls P f args (w.drewN (a + n)) fun e w' => e = .returned v ∧ ∃ m, w' = (w.drewN (a + n)).drewN m) :
    Calls P f args (w.drewN (a + n)) fun e w'' => e = .returned v ∧ ∃ m, w'' = w.drewN (a + m) :=
  h.mono fun _ _ ⟨he, m, hm⟩ => ⟨he, n + m, by rw [hm, World.drewN_drewN, Nat.add_assoc]⟩
theorem quiet_add_same {P : Program} {f : FuncId} {args : Array Value} {w : World} {a n : Nat} {v : Value}
    (h : Calls P f args (w.drewN (a + n)) fun e w' => e = .returned v ∧ w' = w.drewN (a + n)) :
    Calls P f args (w.drewN (a + n)) fun e w'' => e = .returned v ∧ ∃ m, w'' = w.drewN (a + m) :=
  h.mono fun _ _ ⟨he, hm⟩ => ⟨he, n, hm⟩
theorem alloc_new (w : World) (o : Obj) : (w.alloc o).heap[w.heap.size]? = some o := (MapKept.heap_alloc w o).1
theorem alloc_old {w : World} {b : Nat} {x : Obj} (o : Obj) (h : w.heap[b]? = some x) : (w.alloc o).heap[b]? = some x := by
  have hlt : b < w.heap.size := (Array.getElem?_eq_some_iff.1 h).1
  rw [(MapKept.heap_alloc w o).2 b hlt, h]
theorem keep {W w : World} {b : Nat} {x : Obj} (hb : Below W.heap.size W w) (h : W.heap[b]? = some x) : w.heap[b]? = some x := by
  rw [hb.block b (Array.getElem?_eq_some_iff.1 h).1]; exact h
theorem sizeAt {w : World} {b : Nat} {x : Obj} (h : w.heap[b]? = some x) : b < w.heap.size := (Array.getElem?_eq_some_iff.1 h).1
theorem cellsAt {w : World} {b : Nat} {cs : Array Value} {t : TypeId} {fr : Nat × Nat} (h : w.heap[b]? = some (.cells cs t fr)) : ∀ j, w.cell? ⟨b, j, none⟩ = cs[j]? := fun j => by simp [World.cell?, h]
theorem freeAt {w : World} {b : Nat} {cs : Array Value} {t : TypeId} (h : w.heap[b]? = some (.cells cs t (0, 0))) : ∀ j, w.frozen? ⟨b, j, none⟩ = false := fun j => by simp [World.frozen?, h]
theorem drew_heap {w : World} {b : Nat} {x : Obj} (h : w.heap[b]? = some x) : w.drew.heap[b]? = some x := h
theorem drewN_heap {w : World} {b : Nat} {x : Obj} (n : Nat) (h : w.heap[b]? = some x) : (w.drewN n).heap[b]? = some x := h
theorem set_at {w : World} {b j : Nat} {cs : Array Value} {t : TypeId} {fr : Nat × Nat} (v : Value) (h : w.heap[b]? = some (.cells cs t fr)) : (w.setCell ⟨b, j, none⟩ v).heap[b]? = some (.cells (cs.setIfInBounds j v) t fr) := Joins.block_setCell h v
theorem set_ne {w : World} {b c j : Nat} {x : Obj} (v : Value) (hne : b ≠ c) (h : w.heap[b]? = some x) : (w.setCell ⟨c, j, none⟩ v).heap[b]? = some x := by
  rw [← h]
  simp [World.setCell, Array.getElem?_modify, Ne.symm hne]
theorem below_d1 {b : Nat} {w W : World} (h : Below b w W) : Below b w W.drew := ⟨h.os, h.tape, h.output, h.size, h.block⟩
theorem below_dn {b : Nat} {w W : World} (h : Below b w W) (n : Nat) : Below b w (W.drewN n) := ⟨h.os, h.tape, h.output, h.size, h.block⟩
/-- A callee's end behind ours. -/
theorem below_then {b : Nat} {w W w2 : World} (h : Below b w W) (h2 : Below W.heap.size W w2) (hb : b ≤ W.heap.size) : Below b w w2 := h.trans (h2.mono hb)
/-- Block b holds o now; every other block that was there is as it was. -/
structure Only (b : Nat) (o : Obj) (w w' : World) : Prop where
  at_ : w'.heap[b]? = some o
  os : w'.os = w.os
  tape : w'.tape = w.tape
  output : w'.output = w.output
  size : w.heap.size ≤ w'.heap.size
  block : ∀ k, k < w.heap.size → k ≠ b → w'.heap[k]? = w.heap[k]?
theorem Only.refl {b : Nat} {o : Obj} {w : World} (h : w.heap[b]? = some o) : Only b o w w := ⟨h, rfl, rfl, rfl, Nat.le_refl _, fun _ _ _ => rfl⟩
theorem Only.trans {b : Nat} {o o' : Obj} {w w' w'' : World} (h : Only b o w w') (h' : Only b o' w' w'') : Only b o' w w'' :=
  ⟨h'.at_, h'.os.trans h.os, h'.tape.trans h.tape, h'.output.trans h.output, Nat.le_trans h.size h'.size, fun k hk hn => (h'.block k (Nat.lt_of_lt_of_le hk h.size) hn).trans (h.block k hk hn)⟩
theorem Only.drew {b : Nat} {o : Obj} {w w' : World} (h : Only b o w w') : Only b o w w'.drew := ⟨h.at_, h.os, h.tape, h.output, h.size, h.block⟩
theorem Only.drewN {b : Nat} {o : Obj} {w w' : World} (n : Nat) (h : Only b o w w') : Only b o w (w'.drewN n) := ⟨h.at_, h.os, h.tape, h.output, h.size, h.block⟩
theorem Only.alloc {b : Nat} {o : Obj} {w w' : World} (h : Only b o w w') (p : Obj) : Only b o w (w'.alloc p) :=
  ⟨alloc_old p h.at_, h.os, h.tape, h.output, by have := h.size; simp; omega, fun k hk hn => by
    rw [(MapKept.heap_alloc w' p).2 k (Nat.lt_of_lt_of_le hk h.size)]; exact h.block k hk hn⟩
theorem Only.set {b j : Nat} {cs : Array Value} {t : TypeId} {fr : Nat × Nat} {w w' : World} (h : Only b (.cells cs t fr) w w') (v : Value) : Only b (.cells (cs.setIfInBounds j v) t fr) w (w'.setCell ⟨b, j, none⟩ v) :=
  ⟨set_at v h.at_, h.os, h.tape, h.output, by simpa [World.setCell] using h.size, fun k hk hn => by
    rw [← h.block k hk hn]; simp [World.setCell, Array.getElem?_modify, Ne.symm hn]⟩
theorem Only.below {b : Nat} {o : Obj} {w w' w'' : World} (h : Only b o w w') (h' : Below w'.heap.size w' w'') : Only b o w w'' :=
  ⟨keep h' h.at_, h'.os.trans h.os, h'.tape.trans h.tape, h'.output.trans h.output, Nat.le_trans h.size h'.size, fun k hk hn => (h'.block k (Nat.lt_of_lt_of_le hk h.size)).trans (h.block k hk hn)⟩
theorem Only.keep {b c : Nat} {o x : Obj} {w w' : World} (h : Only b o w w') (hc : w.heap[c]? = some x) (hn : c ≠ b) : w'.heap[c]? = some x := by
  rw [h.block c (sizeAt hc) hn]; exact hc
theorem Only.to {b : Nat} {o p : Obj} {w w' : World} (h : Only b o w w') (e : o = p) : Only b p w w' := e ▸ h
/-- A block that is none of the caller's. -/
theorem below_only {B b : Nat} {o : Obj} {w W W' : World} (h : Below B w W) (h' : Only b o W W') (hb : B ≤ b) (hB : B ≤ W.heap.size) : Below B w W' :=
  ⟨h'.os.trans h.os, h'.tape.trans h.tape, h'.output.trans h.output, Nat.le_trans h.size h'.size, fun k hk => (h'.block k (by omega) (by omega)).trans (h.block k hk)⟩
/-! ### what a slice that came in reads as -/
theorem cell_lt {w : World} {a : Addr} {v : Value} (h : w.cell? a = some v) : a.block < w.heap.size := by
  rcases Nat.lt_or_ge a.block w.heap.size with hl | hg
  · exact hl
  · simp [World.cell?, Array.getElem?_eq_none hg] at h
theorem add_block (a : Addr) (i : Nat) : (a.add i).block = a.block := by unfold Addr.add; split <;> rfl
/-- n elements of sz cells each from A on: element i's cells are F i. -/
def Elts (w : World) (A : Option Addr) (n sz : Nat) (F : Nat → List Value) : Prop :=
  ∀ i, i < n → ∃ a, A = some a ∧ a.block < w.heap.size ∧ ∀ j, j < sz → w.cell? (a.add (i * sz + j)) = (F i)[j]?
theorem elts_of {W : World} {a : Addr} {n C : Nat} {F : Nat → List Value} (h0 : 0 < C) (h : ∀ i, i < n → ∃ cs', W.cells? 0 (a.add (i * C)) C = some cs' ∧ cs' = F i) : Elts W (some a) n C F := by
  intro i hi
  obtain ⟨cs, hc, rfl⟩ := h i hi
  obtain ⟨_, hl, hat⟩ := World.cells?_some hc
  refine ⟨a, rfl, ?_, fun j hj => by rw [← Go.Deep.add_add]; exact hat j hj⟩
  have h1 := hat 0 h0
  rw [List.getElem?_eq_getElem (by omega)] at h1
  have := cell_lt h1
  rwa [add_block, add_block] at this
theorem Elts.keep {w w' : World} {A : Option Addr} {n sz : Nat} {F : Nat → List Value} (h : Elts w A n sz F) (hb : Below w.heap.size w w') : Elts w' A n sz F := fun i hi => by
  obtain ⟨a, e, hl, hc⟩ := h i hi
  refine ⟨a, e, Nat.lt_of_lt_of_le hl hb.size, fun j hj => ?_⟩
  have := hc j hj
  rw [← this]
  exact hb.cell (by rw [add_block]; exact hl)
/-- The address of cell j behind p, as the walk spells it. -/
def cellAt (p : Addr) : Nat → Addr
  | 0 => p
  | j + 1 => ⟨p.block, p.off + (j + 1), none⟩
theorem add_cellAt (p : Addr) (j : Nat) : p.add j = cellAt p j := by
  cases j with
  | zero => simp [Addr.add, cellAt]
  | succ j => simp [Addr.add, cellAt]
/-- Element i in a later world. -/
theorem Elts.cells {w w' : World} {A : Option Addr} {n sz : Nat} {F : Nat → List Value} (h : Elts w A n sz F) (hb : Below w.heap.size w w') {i : Nat} (hi : i < n) :
    ∃ a, A = some a ∧ (a.add (i * sz)).block < w.heap.size ∧ ∀ j, j < sz → w'.cell? (cellAt (a.add (i * sz)) j) = (F i)[j]? := by
  obtain ⟨a, e, hl, hc⟩ := h.keep hb i hi
  obtain ⟨a', e', hl', _⟩ := h i hi
  obtain rfl : a = a' := Option.some.inj (e.symm.trans e')
  refine ⟨a, e, by rw [add_block]; exact hl', fun j hj => ?_⟩
  rw [← add_cellAt, Go.Deep.add_add]
  exact hc j hj
end Go.Proofs.Ythbpcenobaloaaa.Wk
