/- BusGoesOn, walked. -/
import Derived.Test.YtneiolibkclkoaaBf
import Derived.MapKept
namespace Go.Proofs.Ytneiolibkclkoaa.Bj
set_option linter.unusedVariables false
set_option linter.unusedSimpArgs false
open Go.RowKit Go.Proofs.Ytneiolibkclkoaa.Bt Go.Proofs.Ytneiolibkclkoaa.Wk Go.Proofs.Ytneiolibkclkoaa.Ba Go.Proofs.Ytneiolibkclkoaa.Bc Go.Proofs.Ytneiolibkclkoaa.Bd Go.Proofs.Ytneiolibkclkoaa.Be Go.Proofs.Ytneiolibkclkoaa.Bf

theorem set_new (w : World) (o o' : Obj) : (w.alloc o).heap.setIfInBounds w.heap.size o' = w.heap.push o' := by
  show (w.heap.push o).setIfInBounds w.heap.size o' = w.heap.push o'
  rw [Array.setIfInBounds, dif_pos (by simp), Array.set_push]; simp
/-! ### a map that the call makes out of literals -/
theorem run_insert {P : Program} (mty kt et : TypeId) (hm : P.underlying mty = some (.map kt et)) (hk : P.underlying kt = some (.int .i64)) (w : World) (es : Array MapEntry) (c : Nat) (k : Int) (v : Value)
    (hf : Instr.findNow (.int .i64) (.int .i64 k) es.toList 0 = some none) :
    (Instr.mapUpdate mty (.map (some w.heap.size)) (.int .i64 k) v).run P (w.alloc (.map es c)) = .ok () (w.alloc (.map (es.push ⟨.int .i64 k, v, c⟩) (c + 1))) := by
  have hb : (w.alloc (.map es c)).heap[w.heap.size]? = some (.map es c) := (MapKept.heap_alloc w _).1
  have hc : (Instr.checkKey false 10000 kt (.int .i64 k)).run P (w.alloc (.map es c)) = .ok () (w.alloc (.map es c)) := MapKept.run_checkKey (k := .int .i64 k) hk (by simp [MapKept.IsKey]) false 9999
  simp [Instr.mapUpdate, run_underlying hm, MapKept.run_getObj_map hb, hc, MapKept.run_findKey hk hf, MapKept.run_setObj_map _ hb, Result.andThen]
  exact congrArg (fun h => ({ w with heap := h } : World)) (set_new w _ _)
theorem run_look {P : Program} (mty kt et : TypeId) (hm : P.underlying mty = some (.map kt et)) (hk : P.underlying kt = some (.int .i64)) (w : World) (es : Array MapEntry) (c i : Nat) (k : Int) (v : Value)
    (hf : Instr.findNow (.int .i64) (.int .i64 k) es.toList 0 = some (some (i, v))) :
    (Instr.lookup mty (.map (some w.heap.size)) (.int .i64 k) false).run P (w.alloc (.map es c)) = .ok v (w.alloc (.map es c)) := by
  have hb : (w.alloc (.map es c)).heap[w.heap.size]? = some (.map es c) := (MapKept.heap_alloc w _).1
  have hc : (Instr.checkKey es.isEmpty 10000 kt (.int .i64 k)).run P (w.alloc (.map es c)) = .ok () (w.alloc (.map es c)) := MapKept.run_checkKey (k := .int .i64 k) hk (by simp [MapKept.IsKey]) _ 9999
  simp [Instr.lookup, run_underlying hm, MapKept.run_getObj_map hb, hc, MapKept.run_findKey hk hf, Result.andThen]

set_option maxHeartbeats 4000000 in
theorem walkA (addr q r size : Int) (w : World)
    (A0 : Hid (∀ w, Calls Try.prog 7 #[] w fun e w' => e = .returned (.bool true) ∧ Below w.heap.size w w'))
    (M1 : Hid (∀ w, Calls Try.prog 8 #[.int .u32 addr] w fun e w' => e = .returned (.tuple #[.int .i64 r, .int .i64 q]) ∧ w = w'))
    (hr : (r = 9 ∧ size = 16384) ∨ (r = 3 ∧ size = 1024) ∨ (r = 0 ∧ size = 1) ∨ (r = 7 ∧ size = 33554432))
    (q0 : 0 ≤ q) (q1 : q < size) :
    Calls Try.prog 4 #[.int .u32 addr] w fun e w' => e = .returned (.bool true) ∧ Below w.heap.size w w' := by
  have hmm := @run_makeMap Try.prog
  have d0 : decide (q < 0) = false := by simpa using q0
  have d1 : decide (size ≤ q) = false := by simpa using q1
  clear q0 q1
  have i0 : ∀ w : World, (Instr.mapUpdate 37 (.map (some w.heap.size)) (.int .i64 9) (.int .i64 16384)).run Try.prog (w.alloc (.map #[] 0)) = .ok () (w.alloc (.map #[⟨.int .i64 9, .int .i64 16384, 0⟩] 1)) := fun w => run_insert 37 3 3 Try.underlying37 Try.underlying3 w #[] 0 9 _ rfl
  have i1 : ∀ w : World, (Instr.mapUpdate 37 (.map (some w.heap.size)) (.int .i64 1) (.int .i64 262144)).run Try.prog (w.alloc (.map #[⟨.int .i64 9, .int .i64 16384, 0⟩] 1)) = .ok () (w.alloc (.map #[⟨.int .i64 9, .int .i64 16384, 0⟩, ⟨.int .i64 1, .int .i64 262144, 1⟩] 2)) := fun w => run_insert 37 3 3 Try.underlying37 Try.underlying3 w #[⟨.int .i64 9, .int .i64 16384, 0⟩] 1 1 _ rfl
  have i2 : ∀ w : World, (Instr.mapUpdate 37 (.map (some w.heap.size)) (.int .i64 2) (.int .i64 32768)).run Try.prog (w.alloc (.map #[⟨.int .i64 9, .int .i64 16384, 0⟩, ⟨.int .i64 1, .int .i64 262144, 1⟩] 2)) = .ok () (w.alloc (.map #[⟨.int .i64 9, .int .i64 16384, 0⟩, ⟨.int .i64 1, .int .i64 262144, 1⟩, ⟨.int .i64 2, .int .i64 32768, 2⟩] 3)) := fun w => run_insert 37 3 3 Try.underlying37 Try.underlying3 w #[⟨.int .i64 9, .int .i64 16384, 0⟩, ⟨.int .i64 1, .int .i64 262144, 1⟩] 2 2 _ rfl
  have i3 : ∀ w : World, (Instr.mapUpdate 37 (.map (some w.heap.size)) (.int .i64 3) (.int .i64 1024)).run Try.prog (w.alloc (.map #[⟨.int .i64 9, .int .i64 16384, 0⟩, ⟨.int .i64 1, .int .i64 262144, 1⟩, ⟨.int .i64 2, .int .i64 32768, 2⟩] 3)) = .ok () (w.alloc (.map #[⟨.int .i64 9, .int .i64 16384, 0⟩, ⟨.int .i64 1, .int .i64 262144, 1⟩, ⟨.int .i64 2, .int .i64 32768, 2⟩, ⟨.int .i64 3, .int .i64 1024, 3⟩] 4)) := fun w => run_insert 37 3 3 Try.underlying37 Try.underlying3 w #[⟨.int .i64 9, .int .i64 16384, 0⟩, ⟨.int .i64 1, .int .i64 262144, 1⟩, ⟨.int .i64 2, .int .i64 32768, 2⟩] 3 3 _ rfl
  have i4 : ∀ w : World, (Instr.mapUpdate 37 (.map (some w.heap.size)) (.int .i64 4) (.int .i64 1024)).run Try.prog (w.alloc (.map #[⟨.int .i64 9, .int .i64 16384, 0⟩, ⟨.int .i64 1, .int .i64 262144, 1⟩, ⟨.int .i64 2, .int .i64 32768, 2⟩, ⟨.int .i64 3, .int .i64 1024, 3⟩] 4)) = .ok () (w.alloc (.map #[⟨.int .i64 9, .int .i64 16384, 0⟩, ⟨.int .i64 1, .int .i64 262144, 1⟩, ⟨.int .i64 2, .int .i64 32768, 2⟩, ⟨.int .i64 3, .int .i64 1024, 3⟩, ⟨.int .i64 4, .int .i64 1024, 4⟩] 5)) := fun w => run_insert 37 3 3 Try.underlying37 Try.underlying3 w #[⟨.int .i64 9, .int .i64 16384, 0⟩, ⟨.int .i64 1, .int .i64 262144, 1⟩, ⟨.int .i64 2, .int .i64 32768, 2⟩, ⟨.int .i64 3, .int .i64 1024, 3⟩] 4 4 _ rfl
  have i5 : ∀ w : World, (Instr.mapUpdate 37 (.map (some w.heap.size)) (.int .i64 5) (.int .i64 98304)).run Try.prog (w.alloc (.map #[⟨.int .i64 9, .int .i64 16384, 0⟩, ⟨.int .i64 1, .int .i64 262144, 1⟩, ⟨.int .i64 2, .int .i64 32768, 2⟩, ⟨.int .i64 3, .int .i64 1024, 3⟩, ⟨.int .i64 4, .int .i64 1024, 4⟩] 5)) = .ok () (w.alloc (.map #[⟨.int .i64 9, .int .i64 16384, 0⟩, ⟨.int .i64 1, .int .i64 262144, 1⟩, ⟨.int .i64 2, .int .i64 32768, 2⟩, ⟨.int .i64 3, .int .i64 1024, 3⟩, ⟨.int .i64 4, .int .i64 1024, 4⟩, ⟨.int .i64 5, .int .i64 98304, 5⟩] 6)) := fun w => run_insert 37 3 3 Try.underlying37 Try.underlying3 w #[⟨.int .i64 9, .int .i64 16384, 0⟩, ⟨.int .i64 1, .int .i64 262144, 1⟩, ⟨.int .i64 2, .int .i64 32768, 2⟩, ⟨.int .i64 3, .int .i64 1024, 3⟩, ⟨.int .i64 4, .int .i64 1024, 4⟩] 5 5 _ rfl
  have i6 : ∀ w : World, (Instr.mapUpdate 37 (.map (some w.heap.size)) (.int .i64 6) (.int .i64 1024)).run Try.prog (w.alloc (.map #[⟨.int .i64 9, .int .i64 16384, 0⟩, ⟨.int .i64 1, .int .i64 262144, 1⟩, ⟨.int .i64 2, .int .i64 32768, 2⟩, ⟨.int .i64 3, .int .i64 1024, 3⟩, ⟨.int .i64 4, .int .i64 1024, 4⟩, ⟨.int .i64 5, .int .i64 98304, 5⟩] 6)) = .ok () (w.alloc (.map #[⟨.int .i64 9, .int .i64 16384, 0⟩, ⟨.int .i64 1, .int .i64 262144, 1⟩, ⟨.int .i64 2, .int .i64 32768, 2⟩, ⟨.int .i64 3, .int .i64 1024, 3⟩, ⟨.int .i64 4, .int .i64 1024, 4⟩, ⟨.int .i64 5, .int .i64 98304, 5⟩, ⟨.int .i64 6, .int .i64 1024, 6⟩] 7)) := fun w => run_insert 37 3 3 Try.underlying37 Try.underlying3 w #[⟨.int .i64 9, .int .i64 16384, 0⟩, ⟨.int .i64 1, .int .i64 262144, 1⟩, ⟨.int .i64 2, .int .i64 32768, 2⟩, ⟨.int .i64 3, .int .i64 1024, 3⟩, ⟨.int .i64 4, .int .i64 1024, 4⟩, ⟨.int .i64 5, .int .i64 98304, 5⟩] 6 6 _ rfl
  have i7 : ∀ w : World, (Instr.mapUpdate 37 (.map (some w.heap.size)) (.int .i64 7) (.int .i64 33554432)).run Try.prog (w.alloc (.map #[⟨.int .i64 9, .int .i64 16384, 0⟩, ⟨.int .i64 1, .int .i64 262144, 1⟩, ⟨.int .i64 2, .int .i64 32768, 2⟩, ⟨.int .i64 3, .int .i64 1024, 3⟩, ⟨.int .i64 4, .int .i64 1024, 4⟩, ⟨.int .i64 5, .int .i64 98304, 5⟩, ⟨.int .i64 6, .int .i64 1024, 6⟩] 7)) = .ok () (w.alloc (.map #[⟨.int .i64 9, .int .i64 16384, 0⟩, ⟨.int .i64 1, .int .i64 262144, 1⟩, ⟨.int .i64 2, .int .i64 32768, 2⟩, ⟨.int .i64 3, .int .i64 1024, 3⟩, ⟨.int .i64 4, .int .i64 1024, 4⟩, ⟨.int .i64 5, .int .i64 98304, 5⟩, ⟨.int .i64 6, .int .i64 1024, 6⟩, ⟨.int .i64 7, .int .i64 33554432, 7⟩] 8)) := fun w => run_insert 37 3 3 Try.underlying37 Try.underlying3 w #[⟨.int .i64 9, .int .i64 16384, 0⟩, ⟨.int .i64 1, .int .i64 262144, 1⟩, ⟨.int .i64 2, .int .i64 32768, 2⟩, ⟨.int .i64 3, .int .i64 1024, 3⟩, ⟨.int .i64 4, .int .i64 1024, 4⟩, ⟨.int .i64 5, .int .i64 98304, 5⟩, ⟨.int .i64 6, .int .i64 1024, 6⟩] 7 7 _ rfl
  have i8 : ∀ w : World, (Instr.mapUpdate 37 (.map (some w.heap.size)) (.int .i64 8) (.int .i64 65536)).run Try.prog (w.alloc (.map #[⟨.int .i64 9, .int .i64 16384, 0⟩, ⟨.int .i64 1, .int .i64 262144, 1⟩, ⟨.int .i64 2, .int .i64 32768, 2⟩, ⟨.int .i64 3, .int .i64 1024, 3⟩, ⟨.int .i64 4, .int .i64 1024, 4⟩, ⟨.int .i64 5, .int .i64 98304, 5⟩, ⟨.int .i64 6, .int .i64 1024, 6⟩, ⟨.int .i64 7, .int .i64 33554432, 7⟩] 8)) = .ok () (w.alloc (.map #[⟨.int .i64 9, .int .i64 16384, 0⟩, ⟨.int .i64 1, .int .i64 262144, 1⟩, ⟨.int .i64 2, .int .i64 32768, 2⟩, ⟨.int .i64 3, .int .i64 1024, 3⟩, ⟨.int .i64 4, .int .i64 1024, 4⟩, ⟨.int .i64 5, .int .i64 98304, 5⟩, ⟨.int .i64 6, .int .i64 1024, 6⟩, ⟨.int .i64 7, .int .i64 33554432, 7⟩, ⟨.int .i64 8, .int .i64 65536, 8⟩] 9)) := fun w => run_insert 37 3 3 Try.underlying37 Try.underlying3 w #[⟨.int .i64 9, .int .i64 16384, 0⟩, ⟨.int .i64 1, .int .i64 262144, 1⟩, ⟨.int .i64 2, .int .i64 32768, 2⟩, ⟨.int .i64 3, .int .i64 1024, 3⟩, ⟨.int .i64 4, .int .i64 1024, 4⟩, ⟨.int .i64 5, .int .i64 98304, 5⟩, ⟨.int .i64 6, .int .i64 1024, 6⟩, ⟨.int .i64 7, .int .i64 33554432, 7⟩] 8 8 _ rfl
  have i9 : ∀ w : World, (Instr.mapUpdate 37 (.map (some w.heap.size)) (.int .i64 0) (.int .i64 1)).run Try.prog (w.alloc (.map #[⟨.int .i64 9, .int .i64 16384, 0⟩, ⟨.int .i64 1, .int .i64 262144, 1⟩, ⟨.int .i64 2, .int .i64 32768, 2⟩, ⟨.int .i64 3, .int .i64 1024, 3⟩, ⟨.int .i64 4, .int .i64 1024, 4⟩, ⟨.int .i64 5, .int .i64 98304, 5⟩, ⟨.int .i64 6, .int .i64 1024, 6⟩, ⟨.int .i64 7, .int .i64 33554432, 7⟩, ⟨.int .i64 8, .int .i64 65536, 8⟩] 9)) = .ok () (w.alloc (.map #[⟨.int .i64 9, .int .i64 16384, 0⟩, ⟨.int .i64 1, .int .i64 262144, 1⟩, ⟨.int .i64 2, .int .i64 32768, 2⟩, ⟨.int .i64 3, .int .i64 1024, 3⟩, ⟨.int .i64 4, .int .i64 1024, 4⟩, ⟨.int .i64 5, .int .i64 98304, 5⟩, ⟨.int .i64 6, .int .i64 1024, 6⟩, ⟨.int .i64 7, .int .i64 33554432, 7⟩, ⟨.int .i64 8, .int .i64 65536, 8⟩, ⟨.int .i64 0, .int .i64 1, 9⟩] 10)) := fun w => run_insert 37 3 3 Try.underlying37 Try.underlying3 w #[⟨.int .i64 9, .int .i64 16384, 0⟩, ⟨.int .i64 1, .int .i64 262144, 1⟩, ⟨.int .i64 2, .int .i64 32768, 2⟩, ⟨.int .i64 3, .int .i64 1024, 3⟩, ⟨.int .i64 4, .int .i64 1024, 4⟩, ⟨.int .i64 5, .int .i64 98304, 5⟩, ⟨.int .i64 6, .int .i64 1024, 6⟩, ⟨.int .i64 7, .int .i64 33554432, 7⟩, ⟨.int .i64 8, .int .i64 65536, 8⟩] 9 0 _ rfl
  have lk : ∀ w : World, (Instr.lookup 37 (.map (some w.heap.size)) (.int .i64 r) false).run Try.prog (w.alloc (.map #[⟨.int .i64 9, .int .i64 16384, 0⟩, ⟨.int .i64 1, .int .i64 262144, 1⟩, ⟨.int .i64 2, .int .i64 32768, 2⟩, ⟨.int .i64 3, .int .i64 1024, 3⟩, ⟨.int .i64 4, .int .i64 1024, 4⟩, ⟨.int .i64 5, .int .i64 98304, 5⟩, ⟨.int .i64 6, .int .i64 1024, 6⟩, ⟨.int .i64 7, .int .i64 33554432, 7⟩, ⟨.int .i64 8, .int .i64 65536, 8⟩, ⟨.int .i64 0, .int .i64 1, 9⟩] 10)) = .ok (.int .i64 size) (w.alloc (.map #[⟨.int .i64 9, .int .i64 16384, 0⟩, ⟨.int .i64 1, .int .i64 262144, 1⟩, ⟨.int .i64 2, .int .i64 32768, 2⟩, ⟨.int .i64 3, .int .i64 1024, 3⟩, ⟨.int .i64 4, .int .i64 1024, 4⟩, ⟨.int .i64 5, .int .i64 98304, 5⟩, ⟨.int .i64 6, .int .i64 1024, 6⟩, ⟨.int .i64 7, .int .i64 33554432, 7⟩, ⟨.int .i64 8, .int .i64 65536, 8⟩, ⟨.int .i64 0, .int .i64 1, 9⟩] 10)) := by
    intro w
    rcases hr with ⟨rfl, rfl⟩ | ⟨rfl, rfl⟩ | ⟨rfl, rfl⟩ | ⟨rfl, rfl⟩
    · exact run_look 37 3 3 Try.underlying37 Try.underlying3 w #[⟨.int .i64 9, .int .i64 16384, 0⟩, ⟨.int .i64 1, .int .i64 262144, 1⟩, ⟨.int .i64 2, .int .i64 32768, 2⟩, ⟨.int .i64 3, .int .i64 1024, 3⟩, ⟨.int .i64 4, .int .i64 1024, 4⟩, ⟨.int .i64 5, .int .i64 98304, 5⟩, ⟨.int .i64 6, .int .i64 1024, 6⟩, ⟨.int .i64 7, .int .i64 33554432, 7⟩, ⟨.int .i64 8, .int .i64 65536, 8⟩, ⟨.int .i64 0, .int .i64 1, 9⟩] 10 0 9 _ rfl
    · exact run_look 37 3 3 Try.underlying37 Try.underlying3 w #[⟨.int .i64 9, .int .i64 16384, 0⟩, ⟨.int .i64 1, .int .i64 262144, 1⟩, ⟨.int .i64 2, .int .i64 32768, 2⟩, ⟨.int .i64 3, .int .i64 1024, 3⟩, ⟨.int .i64 4, .int .i64 1024, 4⟩, ⟨.int .i64 5, .int .i64 98304, 5⟩, ⟨.int .i64 6, .int .i64 1024, 6⟩, ⟨.int .i64 7, .int .i64 33554432, 7⟩, ⟨.int .i64 8, .int .i64 65536, 8⟩, ⟨.int .i64 0, .int .i64 1, 9⟩] 10 3 3 _ rfl
    · exact run_look 37 3 3 Try.underlying37 Try.underlying3 w #[⟨.int .i64 9, .int .i64 16384, 0⟩, ⟨.int .i64 1, .int .i64 262144, 1⟩, ⟨.int .i64 2, .int .i64 32768, 2⟩, ⟨.int .i64 3, .int .i64 1024, 3⟩, ⟨.int .i64 4, .int .i64 1024, 4⟩, ⟨.int .i64 5, .int .i64 98304, 5⟩, ⟨.int .i64 6, .int .i64 1024, 6⟩, ⟨.int .i64 7, .int .i64 33554432, 7⟩, ⟨.int .i64 8, .int .i64 65536, 8⟩, ⟨.int .i64 0, .int .i64 1, 9⟩] 10 9 0 _ rfl
    · exact run_look 37 3 3 Try.underlying37 Try.underlying3 w #[⟨.int .i64 9, .int .i64 16384, 0⟩, ⟨.int .i64 1, .int .i64 262144, 1⟩, ⟨.int .i64 2, .int .i64 32768, 2⟩, ⟨.int .i64 3, .int .i64 1024, 3⟩, ⟨.int .i64 4, .int .i64 1024, 4⟩, ⟨.int .i64 5, .int .i64 98304, 5⟩, ⟨.int .i64 6, .int .i64 1024, 6⟩, ⟨.int .i64 7, .int .i64 33554432, 7⟩, ⟨.int .i64 8, .int .i64 65536, 8⟩, ⟨.int .i64 0, .int .i64 1, 9⟩] 10 7 7 _ rfl
  have lkH := Lib.hid lk
  clear lk
  have EQ : ∀ w : World, (w.alloc (.map #[⟨.int .i64 9, .int .i64 16384, 0⟩, ⟨.int .i64 1, .int .i64 262144, 1⟩, ⟨.int .i64 2, .int .i64 32768, 2⟩, ⟨.int .i64 3, .int .i64 1024, 3⟩, ⟨.int .i64 4, .int .i64 1024, 4⟩, ⟨.int .i64 5, .int .i64 98304, 5⟩, ⟨.int .i64 6, .int .i64 1024, 6⟩, ⟨.int .i64 7, .int .i64 33554432, 7⟩, ⟨.int .i64 8, .int .i64 65536, 8⟩, ⟨.int .i64 0, .int .i64 1, 9⟩] 10)).heap.size = w.heap.size + 1 := fun w => by simp
  rcases hr with ⟨rfl, rfl⟩ | ⟨rfl, rfl⟩ | ⟨rfl, rfl⟩ | ⟨rfl, rfl⟩
  all_goals
      have lk := lkH.out
      clear lkH
      go_enter Try.func4, Try.ntmps4
      go_wp2_with fail
      refine (A0.out _).mono ?_
      rintro e w1 ⟨rfl, hb1⟩
      go_wp2_with fail
      refine (M1.out _).mono ?_
      rintro e w1' ⟨rfl, rfl⟩
      go_wp2_with fail
      go_ret
      exact ⟨rfl, Below.alloc hb1 hb1.size _⟩
set_option maxHeartbeats 4000000 in
theorem walkB (addr q r size st : Int) (w : World)
    (A0 : Hid (∀ w, Calls Try.prog 7 #[] w fun e w' => e = .returned (.bool true) ∧ Below w.heap.size w w'))
    (M1 : Hid (∀ w, Calls Try.prog 8 #[.int .u32 addr] w fun e w' => e = .returned (.tuple #[.int .i64 r, .int .i64 q]) ∧ w = w'))
    (hr : (r = 1 ∧ size = 262144 ∧ st = 262144) ∨ (r = 2 ∧ size = 32768 ∧ st = 32768) ∨ (r = 4 ∧ size = 1024 ∧ st = 1024) ∨ (r = 5 ∧ size = 98304 ∧ st = 131072) ∨ (r = 6 ∧ size = 1024 ∧ st = 1024) ∨ (r = 8 ∧ size = 65536 ∧ st = 65536))
    (q0 : 0 ≤ q) (q1 : q < size)
    (hn : ((addr + st) % 4294967296 / 16777216 != addr / 16777216) = true ∨ ((addr + st) % 4294967296 / 16777216 != addr / 16777216) = false ∧ Hid (∀ w, Calls Try.prog 8 #[.int .u32 ((addr + st) % 4294967296)] w fun e w' => e = .returned (.tuple #[.int .i64 r, .int .i64 q]) ∧ w = w')) :
    Calls Try.prog 4 #[.int .u32 addr] w fun e w' => e = .returned (.bool true) ∧ Below w.heap.size w w' := by
  have hmm := @run_makeMap Try.prog
  have d0 : decide (q < 0) = false := by simpa using q0
  have d1 : decide (size ≤ q) = false := by simpa using q1
  clear q0 q1
  have i0 : ∀ w : World, (Instr.mapUpdate 37 (.map (some w.heap.size)) (.int .i64 9) (.int .i64 16384)).run Try.prog (w.alloc (.map #[] 0)) = .ok () (w.alloc (.map #[⟨.int .i64 9, .int .i64 16384, 0⟩] 1)) := fun w => run_insert 37 3 3 Try.underlying37 Try.underlying3 w #[] 0 9 _ rfl
  have i1 : ∀ w : World, (Instr.mapUpdate 37 (.map (some w.heap.size)) (.int .i64 1) (.int .i64 262144)).run Try.prog (w.alloc (.map #[⟨.int .i64 9, .int .i64 16384, 0⟩] 1)) = .ok () (w.alloc (.map #[⟨.int .i64 9, .int .i64 16384, 0⟩, ⟨.int .i64 1, .int .i64 262144, 1⟩] 2)) := fun w => run_insert 37 3 3 Try.underlying37 Try.underlying3 w #[⟨.int .i64 9, .int .i64 16384, 0⟩] 1 1 _ rfl
  have i2 : ∀ w : World, (Instr.mapUpdate 37 (.map (some w.heap.size)) (.int .i64 2) (.int .i64 32768)).run Try.prog (w.alloc (.map #[⟨.int .i64 9, .int .i64 16384, 0⟩, ⟨.int .i64 1, .int .i64 262144, 1⟩] 2)) = .ok () (w.alloc (.map #[⟨.int .i64 9, .int .i64 16384, 0⟩, ⟨.int .i64 1, .int .i64 262144, 1⟩, ⟨.int .i64 2, .int .i64 32768, 2⟩] 3)) := fun w => run_insert 37 3 3 Try.underlying37 Try.underlying3 w #[⟨.int .i64 9, .int .i64 16384, 0⟩, ⟨.int .i64 1, .int .i64 262144, 1⟩] 2 2 _ rfl
  have i3 : ∀ w : World, (Instr.mapUpdate 37 (.map (some w.heap.size)) (.int .i64 3) (.int .i64 1024)).run Try.prog (w.alloc (.map #[⟨.int .i64 9, .int .i64 16384, 0⟩, ⟨.int .i64 1, .int .i64 262144, 1⟩, ⟨.int .i64 2, .int .i64 32768, 2⟩] 3)) = .ok () (w.alloc (.map #[⟨.int .i64 9, .int .i64 16384, 0⟩, ⟨.int .i64 1, .int .i64 262144, 1⟩, ⟨.int .i64 2, .int .i64 32768, 2⟩, ⟨.int .i64 3, .int .i64 1024, 3⟩] 4)) := fun w => run_insert 37 3 3 Try.underlying37 Try.underlying3 w #[⟨.int .i64 9, .int .i64 16384, 0⟩, ⟨.int .i64 1, .int .i64 262144, 1⟩, ⟨.int .i64 2, .int .i64 32768, 2⟩] 3 3 _ rfl
  have i4 : ∀ w : World, (Instr.mapUpdate 37 (.map (some w.heap.size)) (.int .i64 4) (.int .i64 1024)).run Try.prog (w.alloc (.map #[⟨.int .i64 9, .int .i64 16384, 0⟩, ⟨.int .i64 1, .int .i64 262144, 1⟩, ⟨.int .i64 2, .int .i64 32768, 2⟩, ⟨.int .i64 3, .int .i64 1024, 3⟩] 4)) = .ok () (w.alloc (.map #[⟨.int .i64 9, .int .i64 16384, 0⟩, ⟨.int .i64 1, .int .i64 262144, 1⟩, ⟨.int .i64 2, .int .i64 32768, 2⟩, ⟨.int .i64 3, .int .i64 1024, 3⟩, ⟨.int .i64 4, .int .i64 1024, 4⟩] 5)) := fun w => run_insert 37 3 3 Try.underlying37 Try.underlying3 w #[⟨.int .i64 9, .int .i64 16384, 0⟩, ⟨.int .i64 1, .int .i64 262144, 1⟩, ⟨.int .i64 2, .int .i64 32768, 2⟩, ⟨.int .i64 3, .int .i64 1024, 3⟩] 4 4 _ rfl
  have i5 : ∀ w : World, (Instr.mapUpdate 37 (.map (some w.heap.size)) (.int .i64 5) (.int .i64 98304)).run Try.prog (w.alloc (.map #[⟨.int .i64 9, .int .i64 16384, 0⟩, ⟨.int .i64 1, .int .i64 262144, 1⟩, ⟨.int .i64 2, .int .i64 32768, 2⟩, ⟨.int .i64 3, .int .i64 1024, 3⟩, ⟨.int .i64 4, .int .i64 1024, 4⟩] 5)) = .ok () (w.alloc (.map #[⟨.int .i64 9, .int .i64 16384, 0⟩, ⟨.int .i64 1, .int .i64 262144, 1⟩, ⟨.int .i64 2, .int .i64 32768, 2⟩, ⟨.int .i64 3, .int .i64 1024, 3⟩, ⟨.int .i64 4, .int .i64 1024, 4⟩, ⟨.int .i64 5, .int .i64 98304, 5⟩] 6)) := fun w => run_insert 37 3 3 Try.underlying37 Try.underlying3 w #[⟨.int .i64 9, .int .i64 16384, 0⟩, ⟨.int .i64 1, .int .i64 262144, 1⟩, ⟨.int .i64 2, .int .i64 32768, 2⟩, ⟨.int .i64 3, .int .i64 1024, 3⟩, ⟨.int .i64 4, .int .i64 1024, 4⟩] 5 5 _ rfl
  have i6 : ∀ w : World, (Instr.mapUpdate 37 (.map (some w.heap.size)) (.int .i64 6) (.int .i64 1024)).run Try.prog (w.alloc (.map #[⟨.int .i64 9, .int .i64 16384, 0⟩, ⟨.int .i64 1, .int .i64 262144, 1⟩, ⟨.int .i64 2, .int .i64 32768, 2⟩, ⟨.int .i64 3, .int .i64 1024, 3⟩, ⟨.int .i64 4, .int .i64 1024, 4⟩, ⟨.int .i64 5, .int .i64 98304, 5⟩] 6)) = .ok () (w.alloc (.map #[⟨.int .i64 9, .int .i64 16384, 0⟩, ⟨.int .i64 1, .int .i64 262144, 1⟩, ⟨.int .i64 2, .int .i64 32768, 2⟩, ⟨.int .i64 3, .int .i64 1024, 3⟩, ⟨.int .i64 4, .int .i64 1024, 4⟩, ⟨.int .i64 5, .int .i64 98304, 5⟩, ⟨.int .i64 6, .int .i64 1024, 6⟩] 7)) := fun w => run_insert 37 3 3 Try.underlying37 Try.underlying3 w #[⟨.int .i64 9, .int .i64 16384, 0⟩, ⟨.int .i64 1, .int .i64 262144, 1⟩, ⟨.int .i64 2, .int .i64 32768, 2⟩, ⟨.int .i64 3, .int .i64 1024, 3⟩, ⟨.int .i64 4, .int .i64 1024, 4⟩, ⟨.int .i64 5, .int .i64 98304, 5⟩] 6 6 _ rfl
  have i7 : ∀ w : World, (Instr.mapUpdate 37 (.map (some w.heap.size)) (.int .i64 7) (.int .i64 33554432)).run Try.prog (w.alloc (.map #[⟨.int .i64 9, .int .i64 16384, 0⟩, ⟨.int .i64 1, .int .i64 262144, 1⟩, ⟨.int .i64 2, .int .i64 32768, 2⟩, ⟨.int .i64 3, .int .i64 1024, 3⟩, ⟨.int .i64 4, .int .i64 1024, 4⟩, ⟨.int .i64 5, .int .i64 98304, 5⟩, ⟨.int .i64 6, .int .i64 1024, 6⟩] 7)) = .ok () (w.alloc (.map #[⟨.int .i64 9, .int .i64 16384, 0⟩, ⟨.int .i64 1, .int .i64 262144, 1⟩, ⟨.int .i64 2, .int .i64 32768, 2⟩, ⟨.int .i64 3, .int .i64 1024, 3⟩, ⟨.int .i64 4, .int .i64 1024, 4⟩, ⟨.int .i64 5, .int .i64 98304, 5⟩, ⟨.int .i64 6, .int .i64 1024, 6⟩, ⟨.int .i64 7, .int .i64 33554432, 7⟩] 8)) := fun w => run_insert 37 3 3 Try.underlying37 Try.underlying3 w #[⟨.int .i64 9, .int .i64 16384, 0⟩, ⟨.int .i64 1, .int .i64 262144, 1⟩, ⟨.int .i64 2, .int .i64 32768, 2⟩, ⟨.int .i64 3, .int .i64 1024, 3⟩, ⟨.int .i64 4, .int .i64 1024, 4⟩, ⟨.int .i64 5, .int .i64 98304, 5⟩, ⟨.int .i64 6, .int .i64 1024, 6⟩] 7 7 _ rfl
  have i8 : ∀ w : World, (Instr.mapUpdate 37 (.map (some w.heap.size)) (.int .i64 8) (.int .i64 65536)).run Try.prog (w.alloc (.map #[⟨.int .i64 9, .int .i64 16384, 0⟩, ⟨.int .i64 1, .int .i64 262144, 1⟩, ⟨.int .i64 2, .int .i64 32768, 2⟩, ⟨.int .i64 3, .int .i64 1024, 3⟩, ⟨.int .i64 4, .int .i64 1024, 4⟩, ⟨.int .i64 5, .int .i64 98304, 5⟩, ⟨.int .i64 6, .int .i64 1024, 6⟩, ⟨.int .i64 7, .int .i64 33554432, 7⟩] 8)) = .ok () (w.alloc (.map #[⟨.int .i64 9, .int .i64 16384, 0⟩, ⟨.int .i64 1, .int .i64 262144, 1⟩, ⟨.int .i64 2, .int .i64 32768, 2⟩, ⟨.int .i64 3, .int .i64 1024, 3⟩, ⟨.int .i64 4, .int .i64 1024, 4⟩, ⟨.int .i64 5, .int .i64 98304, 5⟩, ⟨.int .i64 6, .int .i64 1024, 6⟩, ⟨.int .i64 7, .int .i64 33554432, 7⟩, ⟨.int .i64 8, .int .i64 65536, 8⟩] 9)) := fun w => run_insert 37 3 3 Try.underlying37 Try.underlying3 w #[⟨.int .i64 9, .int .i64 16384, 0⟩, ⟨.int .i64 1, .int .i64 262144, 1⟩, ⟨.int .i64 2, .int .i64 32768, 2⟩, ⟨.int .i64 3, .int .i64 1024, 3⟩, ⟨.int .i64 4, .int .i64 1024, 4⟩, ⟨.int .i64 5, .int .i64 98304, 5⟩, ⟨.int .i64 6, .int .i64 1024, 6⟩, ⟨.int .i64 7, .int .i64 33554432, 7⟩] 8 8 _ rfl
  have i9 : ∀ w : World, (Instr.mapUpdate 37 (.map (some w.heap.size)) (.int .i64 0) (.int .i64 1)).run Try.prog (w.alloc (.map #[⟨.int .i64 9, .int .i64 16384, 0⟩, ⟨.int .i64 1, .int .i64 262144, 1⟩, ⟨.int .i64 2, .int .i64 32768, 2⟩, ⟨.int .i64 3, .int .i64 1024, 3⟩, ⟨.int .i64 4, .int .i64 1024, 4⟩, ⟨.int .i64 5, .int .i64 98304, 5⟩, ⟨.int .i64 6, .int .i64 1024, 6⟩, ⟨.int .i64 7, .int .i64 33554432, 7⟩, ⟨.int .i64 8, .int .i64 65536, 8⟩] 9)) = .ok () (w.alloc (.map #[⟨.int .i64 9, .int .i64 16384, 0⟩, ⟨.int .i64 1, .int .i64 262144, 1⟩, ⟨.int .i64 2, .int .i64 32768, 2⟩, ⟨.int .i64 3, .int .i64 1024, 3⟩, ⟨.int .i64 4, .int .i64 1024, 4⟩, ⟨.int .i64 5, .int .i64 98304, 5⟩, ⟨.int .i64 6, .int .i64 1024, 6⟩, ⟨.int .i64 7, .int .i64 33554432, 7⟩, ⟨.int .i64 8, .int .i64 65536, 8⟩, ⟨.int .i64 0, .int .i64 1, 9⟩] 10)) := fun w => run_insert 37 3 3 Try.underlying37 Try.underlying3 w #[⟨.int .i64 9, .int .i64 16384, 0⟩, ⟨.int .i64 1, .int .i64 262144, 1⟩, ⟨.int .i64 2, .int .i64 32768, 2⟩, ⟨.int .i64 3, .int .i64 1024, 3⟩, ⟨.int .i64 4, .int .i64 1024, 4⟩, ⟨.int .i64 5, .int .i64 98304, 5⟩, ⟨.int .i64 6, .int .i64 1024, 6⟩, ⟨.int .i64 7, .int .i64 33554432, 7⟩, ⟨.int .i64 8, .int .i64 65536, 8⟩] 9 0 _ rfl
  have lk : ∀ w : World, (Instr.lookup 37 (.map (some w.heap.size)) (.int .i64 r) false).run Try.prog (w.alloc (.map #[⟨.int .i64 9, .int .i64 16384, 0⟩, ⟨.int .i64 1, .int .i64 262144, 1⟩, ⟨.int .i64 2, .int .i64 32768, 2⟩, ⟨.int .i64 3, .int .i64 1024, 3⟩, ⟨.int .i64 4, .int .i64 1024, 4⟩, ⟨.int .i64 5, .int .i64 98304, 5⟩, ⟨.int .i64 6, .int .i64 1024, 6⟩, ⟨.int .i64 7, .int .i64 33554432, 7⟩, ⟨.int .i64 8, .int .i64 65536, 8⟩, ⟨.int .i64 0, .int .i64 1, 9⟩] 10)) = .ok (.int .i64 size) (w.alloc (.map #[⟨.int .i64 9, .int .i64 16384, 0⟩, ⟨.int .i64 1, .int .i64 262144, 1⟩, ⟨.int .i64 2, .int .i64 32768, 2⟩, ⟨.int .i64 3, .int .i64 1024, 3⟩, ⟨.int .i64 4, .int .i64 1024, 4⟩, ⟨.int .i64 5, .int .i64 98304, 5⟩, ⟨.int .i64 6, .int .i64 1024, 6⟩, ⟨.int .i64 7, .int .i64 33554432, 7⟩, ⟨.int .i64 8, .int .i64 65536, 8⟩, ⟨.int .i64 0, .int .i64 1, 9⟩] 10)) := by
    intro w
    rcases hr with ⟨rfl, rfl, rfl⟩ | ⟨rfl, rfl, rfl⟩ | ⟨rfl, rfl, rfl⟩ | ⟨rfl, rfl, rfl⟩ | ⟨rfl, rfl, rfl⟩ | ⟨rfl, rfl, rfl⟩
    · exact run_look 37 3 3 Try.underlying37 Try.underlying3 w #[⟨.int .i64 9, .int .i64 16384, 0⟩, ⟨.int .i64 1, .int .i64 262144, 1⟩, ⟨.int .i64 2, .int .i64 32768, 2⟩, ⟨.int .i64 3, .int .i64 1024, 3⟩, ⟨.int .i64 4, .int .i64 1024, 4⟩, ⟨.int .i64 5, .int .i64 98304, 5⟩, ⟨.int .i64 6, .int .i64 1024, 6⟩, ⟨.int .i64 7, .int .i64 33554432, 7⟩, ⟨.int .i64 8, .int .i64 65536, 8⟩, ⟨.int .i64 0, .int .i64 1, 9⟩] 10 1 1 _ rfl
    · exact run_look 37 3 3 Try.underlying37 Try.underlying3 w #[⟨.int .i64 9, .int .i64 16384, 0⟩, ⟨.int .i64 1, .int .i64 262144, 1⟩, ⟨.int .i64 2, .int .i64 32768, 2⟩, ⟨.int .i64 3, .int .i64 1024, 3⟩, ⟨.int .i64 4, .int .i64 1024, 4⟩, ⟨.int .i64 5, .int .i64 98304, 5⟩, ⟨.int .i64 6, .int .i64 1024, 6⟩, ⟨.int .i64 7, .int .i64 33554432, 7⟩, ⟨.int .i64 8, .int .i64 65536, 8⟩, ⟨.int .i64 0, .int .i64 1, 9⟩] 10 2 2 _ rfl
    · exact run_look 37 3 3 Try.underlying37 Try.underlying3 w #[⟨.int .i64 9, .int .i64 16384, 0⟩, ⟨.int .i64 1, .int .i64 262144, 1⟩, ⟨.int .i64 2, .int .i64 32768, 2⟩, ⟨.int .i64 3, .int .i64 1024, 3⟩, ⟨.int .i64 4, .int .i64 1024, 4⟩, ⟨.int .i64 5, .int .i64 98304, 5⟩, ⟨.int .i64 6, .int .i64 1024, 6⟩, ⟨.int .i64 7, .int .i64 33554432, 7⟩, ⟨.int .i64 8, .int .i64 65536, 8⟩, ⟨.int .i64 0, .int .i64 1, 9⟩] 10 4 4 _ rfl
    · exact run_look 37 3 3 Try.underlying37 Try.underlying3 w #[⟨.int .i64 9, .int .i64 16384, 0⟩, ⟨.int .i64 1, .int .i64 262144, 1⟩, ⟨.int .i64 2, .int .i64 32768, 2⟩, ⟨.int .i64 3, .int .i64 1024, 3⟩, ⟨.int .i64 4, .int .i64 1024, 4⟩, ⟨.int .i64 5, .int .i64 98304, 5⟩, ⟨.int .i64 6, .int .i64 1024, 6⟩, ⟨.int .i64 7, .int .i64 33554432, 7⟩, ⟨.int .i64 8, .int .i64 65536, 8⟩, ⟨.int .i64 0, .int .i64 1, 9⟩] 10 5 5 _ rfl
    · exact run_look 37 3 3 Try.underlying37 Try.underlying3 w #[⟨.int .i64 9, .int .i64 16384, 0⟩, ⟨.int .i64 1, .int .i64 262144, 1⟩, ⟨.int .i64 2, .int .i64 32768, 2⟩, ⟨.int .i64 3, .int .i64 1024, 3⟩, ⟨.int .i64 4, .int .i64 1024, 4⟩, ⟨.int .i64 5, .int .i64 98304, 5⟩, ⟨.int .i64 6, .int .i64 1024, 6⟩, ⟨.int .i64 7, .int .i64 33554432, 7⟩, ⟨.int .i64 8, .int .i64 65536, 8⟩, ⟨.int .i64 0, .int .i64 1, 9⟩] 10 6 6 _ rfl
    · exact run_look 37 3 3 Try.underlying37 Try.underlying3 w #[⟨.int .i64 9, .int .i64 16384, 0⟩, ⟨.int .i64 1, .int .i64 262144, 1⟩, ⟨.int .i64 2, .int .i64 32768, 2⟩, ⟨.int .i64 3, .int .i64 1024, 3⟩, ⟨.int .i64 4, .int .i64 1024, 4⟩, ⟨.int .i64 5, .int .i64 98304, 5⟩, ⟨.int .i64 6, .int .i64 1024, 6⟩, ⟨.int .i64 7, .int .i64 33554432, 7⟩, ⟨.int .i64 8, .int .i64 65536, 8⟩, ⟨.int .i64 0, .int .i64 1, 9⟩] 10 8 8 _ rfl
  have lkH := Lib.hid lk
  clear lk
  have EQ : ∀ w : World, (w.alloc (.map #[⟨.int .i64 9, .int .i64 16384, 0⟩, ⟨.int .i64 1, .int .i64 262144, 1⟩, ⟨.int .i64 2, .int .i64 32768, 2⟩, ⟨.int .i64 3, .int .i64 1024, 3⟩, ⟨.int .i64 4, .int .i64 1024, 4⟩, ⟨.int .i64 5, .int .i64 98304, 5⟩, ⟨.int .i64 6, .int .i64 1024, 6⟩, ⟨.int .i64 7, .int .i64 33554432, 7⟩, ⟨.int .i64 8, .int .i64 65536, 8⟩, ⟨.int .i64 0, .int .i64 1, 9⟩] 10)).heap.size = w.heap.size + 1 := fun w => by simp
  rcases hr with ⟨rfl, rfl, rfl⟩ | ⟨rfl, rfl, rfl⟩ | ⟨rfl, rfl, rfl⟩ | ⟨rfl, rfl, rfl⟩ | ⟨rfl, rfl, rfl⟩ | ⟨rfl, rfl, rfl⟩
  all_goals
    rcases hn with hn | ⟨hn, M2⟩
    · have lk := lkH.out
      clear lkH
      go_enter Try.func4, Try.ntmps4
      go_wp2_with fail
      refine (A0.out _).mono ?_
      rintro e w1 ⟨rfl, hb1⟩
      go_wp2_with fail
      refine (M1.out _).mono ?_
      rintro e w1' ⟨rfl, rfl⟩
      go_wp2_with fail
      go_ret
      exact ⟨rfl, Below.alloc hb1 hb1.size _⟩
    · have lk := lkH.out
      clear lkH
      go_enter Try.func4, Try.ntmps4
      go_wp2_with fail
      refine (A0.out _).mono ?_
      rintro e w1 ⟨rfl, hb1⟩
      go_wp2_with fail
      refine (M1.out _).mono ?_
      rintro e w1' ⟨rfl, rfl⟩
      go_wp2_with fail
      refine (M2.out _).mono ?_
      rintro e w1' ⟨rfl, rfl⟩
      go_wp2
      go_ret
      exact ⟨rfl, Below.alloc hb1 hb1.size _⟩
theorem nx {addr st : Int} (h0 : 0 ≤ addr) (h1 : addr < 4294967296) (a : 0 < st) (b : st < 16777216) (c : (addr + st) % 4294967296 / 16777216 = addr / 16777216) : (addr + st) % 4294967296 % 16777216 = addr % 16777216 + st := by omega
theorem same {addr st top : Int} (h0 : 0 ≤ addr) (h1 : addr < 4294967296) (a : 0 < st) (b : st < 16777216) (ht : addr / 16777216 = top) (f : ∀ l x y, mp top (l + st) x = mp top l y) (c : (addr + st) % 4294967296 / 16777216 = addr / 16777216) :
    mapped ((addr + st) % 4294967296) = mapped addr := by
  have e := nx h0 h1 a b c
  unfold mapped
  rw [c, e, ht]
  exact f _ _ _
theorem goeson_law (addr : Int) (wf : (Lit.int .u32 addr).wf = true) (w : World) :
    Calls Try.prog 4 #[.int .u32 addr] w fun e w' => e = .returned (.bool true) ∧ Below w.heap.size w w' := by
  obtain ⟨h0, h1⟩ := bounds_u32 wf
  have A0 := Lib.hid (fun w => awake_any w)
  have goA : ∀ r size : Int, (mapped addr).1 = r → ((r = 9 ∧ size = 16384) ∨ (r = 3 ∧ size = 1024) ∨ (r = 0 ∧ size = 1) ∨ (r = 7 ∧ size = 33554432)) → 0 ≤ (mapped addr).2 → (mapped addr).2 < size → Calls Try.prog 4 #[.int .u32 addr] w fun e w' => e = .returned (.bool true) ∧ Below w.heap.size w w' := by
    intro r size e hr q0 q1
    have M1 := fun w => map_any addr h0 (by omega) w
    rw [e] at M1
    exact walkA addr _ r size w A0 (Lib.hid M1) hr q0 q1
  have goB : ∀ r size st top : Int, (mapped addr).1 = r → addr / 16777216 = top → ((r = 1 ∧ size = 262144 ∧ st = 262144) ∨ (r = 2 ∧ size = 32768 ∧ st = 32768) ∨ (r = 4 ∧ size = 1024 ∧ st = 1024) ∨ (r = 5 ∧ size = 98304 ∧ st = 131072) ∨ (r = 6 ∧ size = 1024 ∧ st = 1024) ∨ (r = 8 ∧ size = 65536 ∧ st = 65536)) → 0 ≤ (mapped addr).2 → (mapped addr).2 < size → (∀ l x y, mp top (l + st) x = mp top l y) → Calls Try.prog 4 #[.int .u32 addr] w fun e w' => e = .returned (.bool true) ∧ Below w.heap.size w w' := by
    intro r size st top e ht hr q0 q1 hf
    have M1 := fun w => map_any addr h0 (by omega) w
    rw [e] at M1
    refine walkB addr _ r size st w A0 (Lib.hid M1) hr q0 q1 ?_
    by_cases c : (addr + st) % 4294967296 / 16777216 = addr / 16777216
    · right
      refine ⟨by simpa using c, ?_⟩
      have M2 := fun w => map_any ((addr + st) % 4294967296) (by omega) (by omega) w
      rw [same h0 (by omega) (by omega) (by omega) ht hf c, e] at M2
      exact Lib.hid M2
    · left
      simpa using c
  have hA : ∀ t, addr / 16777216 = t → mapped addr = mp t (addr % 16777216) addr := fun t h => by unfold mapped; rw [h]
  have l0 : 0 ≤ addr % 16777216 := by omega
  have l1 : addr % 16777216 < 16777216 := by omega
  by_cases c0 : addr / 16777216 = 0
  · have m := hA 0 c0
    by_cases d : addr % 16777216 < 16384
    · have m' : mapped addr = (9, addr % 16777216) := m.trans (if_pos d)
      exact goA 9 16384 (by rw [m']) (by simp) (by rw [m']; exact l0) (by rw [m']; exact d)
    · have m' : mapped addr = (0, 0) := m.trans (if_neg d)
      exact goA 0 1 (by rw [m']) (by simp) (by rw [m']; decide) (by rw [m']; decide)
  by_cases c4 : addr / 16777216 = 4
  · have m := hA 4 c4
    by_cases d : addr % 16777216 < 1024
    · have m' : mapped addr = (3, addr % 16777216) := m.trans (if_pos d)
      exact goA 3 1024 (by rw [m']) (by simp) (by rw [m']; exact l0) (by rw [m']; exact d)
    · have m' : mapped addr = (0, 0) := m.trans (if_neg d)
      exact goA 0 1 (by rw [m']) (by simp) (by rw [m']; decide) (by rw [m']; decide)
  by_cases c6 : addr / 16777216 = 6
  · have m := hA 6 c6
    have f : ∀ l x y, mp 6 (l + 131072) x = mp 6 l y := fun l x y => by
      show (if 98304 ≤ (l + 131072) % 131072 then ((5, (l + 131072) % 131072 - 32768) : Int × Int) else (5, (l + 131072) % 131072)) = (if 98304 ≤ l % 131072 then (5, l % 131072 - 32768) else (5, l % 131072))
      rw [show (l + 131072) % 131072 = l % 131072 by omega]
    by_cases d : 98304 ≤ addr % 16777216 % 131072
    · have m' : mapped addr = (5, addr % 16777216 % 131072 - 32768) := m.trans (if_pos d)
      exact goB 5 98304 131072 6 (by rw [m']) c6 (by simp) (by rw [m']; show 0 ≤ addr % 16777216 % 131072 - 32768; omega) (by rw [m']; show addr % 16777216 % 131072 - 32768 < 98304; omega) f
    · have m' : mapped addr = (5, addr % 16777216 % 131072) := m.trans (if_neg d)
      exact goB 5 98304 131072 6 (by rw [m']) c6 (by simp) (by rw [m']; show 0 ≤ addr % 16777216 % 131072; omega) (by rw [m']; show addr % 16777216 % 131072 < 98304; omega) f
  by_cases c2 : addr / 16777216 = 2
  · have m' : mapped addr = (1, addr % 16777216 % 262144) := hA 2 c2
    exact goB 1 262144 262144 2 (by rw [m']) c2 (by simp) (by rw [m']; show 0 ≤ addr % 16777216 % 262144; omega) (by rw [m']; show addr % 16777216 % 262144 < 262144; omega) (fun l x y => by show ((1, (l + 262144) % 262144) : Int × Int) = (1, l % 262144); rw [show (l + 262144) % 262144 = l % 262144 by omega])
  by_cases c3 : addr / 16777216 = 3
  · have m' : mapped addr = (2, addr % 16777216 % 32768) := hA 3 c3
    exact goB 2 32768 32768 3 (by rw [m']) c3 (by simp) (by rw [m']; show 0 ≤ addr % 16777216 % 32768; omega) (by rw [m']; show addr % 16777216 % 32768 < 32768; omega) (fun l x y => by show ((2, (l + 32768) % 32768) : Int × Int) = (2, l % 32768); rw [show (l + 32768) % 32768 = l % 32768 by omega])
  by_cases c5 : addr / 16777216 = 5
  · have m' : mapped addr = (4, addr % 16777216 % 1024) := hA 5 c5
    exact goB 4 1024 1024 5 (by rw [m']) c5 (by simp) (by rw [m']; show 0 ≤ addr % 16777216 % 1024; omega) (by rw [m']; show addr % 16777216 % 1024 < 1024; omega) (fun l x y => by show ((4, (l + 1024) % 1024) : Int × Int) = (4, l % 1024); rw [show (l + 1024) % 1024 = l % 1024 by omega])
  by_cases c7 : addr / 16777216 = 7
  · have m' : mapped addr = (6, addr % 16777216 % 1024) := hA 7 c7
    exact goB 6 1024 1024 7 (by rw [m']) c7 (by simp) (by rw [m']; show 0 ≤ addr % 16777216 % 1024; omega) (by rw [m']; show addr % 16777216 % 1024 < 1024; omega) (fun l x y => by show ((6, (l + 1024) % 1024) : Int × Int) = (6, l % 1024); rw [show (l + 1024) % 1024 = l % 1024 by omega])
  by_cases c14 : addr / 16777216 = 14
  · have m' : mapped addr = (8, addr % 16777216 % 65536) := hA 14 c14
    exact goB 8 65536 65536 14 (by rw [m']) c14 (by simp) (by rw [m']; show 0 ≤ addr % 16777216 % 65536; omega) (by rw [m']; show addr % 16777216 % 65536 < 65536; omega) (fun l x y => by show ((8, (l + 65536) % 65536) : Int × Int) = (8, l % 65536); rw [show (l + 65536) % 65536 = l % 65536 by omega])
  by_cases c15 : addr / 16777216 = 15
  · have m' : mapped addr = (8, addr % 16777216 % 65536) := hA 15 c15
    exact goB 8 65536 65536 15 (by rw [m']) c15 (by simp) (by rw [m']; show 0 ≤ addr % 16777216 % 65536; omega) (by rw [m']; show addr % 16777216 % 65536 < 65536; omega) (fun l x y => by show ((8, (l + 65536) % 65536) : Int × Int) = (8, l % 65536); rw [show (l + 65536) % 65536 = l % 65536 by omega])
  by_cases c8 : 8 ≤ addr / 16777216 ∧ addr / 16777216 ≤ 13
  · have m' : mapped addr = (7, addr % 33554432) := by
      unfold mapped mp
      rw [if_neg c0, if_neg c2, if_neg c3, if_neg c4, if_neg c5, if_neg c6, if_neg c7, if_pos c8]
    exact goA 7 33554432 (by rw [m']) (by simp) (by rw [m']; show 0 ≤ addr % 33554432; omega) (by rw [m']; show addr % 33554432 < 33554432; omega)
  · have m' : mapped addr = (0, 0) := by
      unfold mapped mp
      rw [if_neg c0, if_neg c2, if_neg c3, if_neg c4, if_neg c5, if_neg c6, if_neg c7, if_neg c8, if_neg (by omega)]
    exact goA 0 1 (by rw [m']) (by simp) (by rw [m']; decide) (by rw [m']; decide)
end Go.Proofs.Ytneiolibkclkoaa.Bj
