/- Package obj: what read needs. -/
import Derived.Test.YthbpcenobaloaaaPc
import Derived.Test.YthbpcenobaloaaaLp
import Derived.Laws.Rows
import Derived.Laws.Tables
namespace Go.Proofs.Ythbpcenobaloaaa.Pg
set_option linter.unusedVariables false
set_option linter.unusedSimpArgs false
open Go.RowKit Go.Proofs.Ythbpcenobaloaaa.Bt Go.Proofs.Ythbpcenobaloaaa.Wk Go.Proofs.Ythbpcenobaloaaa.Sg Go.Proofs.Ythbpcenobaloaaa.Gp Go.Proofs.Ythbpcenobaloaaa.Gm Go.Proofs.Ythbpcenobaloaaa.Pp Go.Proofs.Ythbpcenobaloaaa.Pa Go.Proofs.Ythbpcenobaloaaa.Pb Go.Proofs.Ythbpcenobaloaaa.Pc Go.Proofs.Ythbpcenobaloaaa.Lp

theorem alloc_setRow (W : World) (z cs : Array Value) (t : TypeId) (fr : Nat × Nat) : (W.alloc (.cells z t fr)).setRow W.heap.size cs = W.alloc (.cells cs t fr) := by
  show ({ W with heap := _ } : World) = { W with heap := _ }
  congr 1
  show (W.heap.push (Obj.cells z t fr)).modify W.heap.size _ = W.heap.push (Obj.cells cs t fr)
  apply Array.ext
  · simp
  · intro i h1 h2
    rw [Array.getElem_modify]
    simp only [Array.size_modify, Array.size_push] at h1
    by_cases e : W.heap.size = i
    · subst e; simp
    · rw [if_neg e, Array.getElem_push_lt (by omega), Array.getElem_push_lt (by omega)]
theorem info_sp : (Try.prog.info? 62).map (·.size) = some 19 := by kernel_rfl
def z19 : Array Value := (#[.int .i64 0, .int .i64 0, .int .i64 0, .int .i64 0, .int .i64 0, .int .i64 0, .bool false, .int .i64 0, .bool false, .bool false, .bool false, .bool false, .int .i64 0, .int .i64 0, .int .i64 0, .int .i64 0, .int .i64 0, .int .i64 0, .int .i64 0] : Array Value)
theorem zeroSp (w : World) : (zeroValue 62).run Try.prog w = .ok (.agg #[.int .i64 0, .int .i64 0, .int .i64 0, .int .i64 0, .int .i64 0, .int .i64 0, .bool false, .int .i64 0, .bool false, .bool false, .bool false, .bool false, .int .i64 0, .int .i64 0, .int .i64 0, .int .i64 0, .int .i64 0, .int .i64 0, .int .i64 0]) w := by kernel_rfl
theorem info_spP (p : Sp) : (Try.prog.info? 62).map (·.size) = some (cellsP p).toArray.size := info_sp
theorem z19_size (p : Sp) : z19.size = (cellsP p).toArray.size := rfl
theorem sp_one (p : Sp) : (cellsP p).toArray.all (·.oneCell') = true := by simp [cellsP, Value.oneCell']
theorem only_row {b : Nat} {cs : Array Value} {t : TypeId} {w W : World} (h : Only b (.cells cs t (0, 0)) w W) (new : Array Value) : Only b (.cells new t (0, 0)) w (W.setRow b new) :=
  ⟨setRow_heap W b cs new t (0, 0) h.at_, h.os, h.tape, h.output, by simpa [World.setRow] using h.size, fun k hk hn => by rw [setRow_other _ _ _ _ hn]; exact h.block k hk hn⟩
theorem results_row_tmp {fn : Func} {p u : Tmp} {ty : TypeId} (h : fn.results = #[.cell p ty, .tmp u]) (tmps : Array Value) (w : World) (g : Nat) (t : TypeId) (cs : Array Value) (fr : Nat × Nat) (d : TypeDesc)
    (hp : tmps.getD p undef = .pointer (some ⟨g, 0, none⟩)) (hg : w.heap[g]? = some (.cells cs t fr))
    (hd : (match d with | .struct _ | .array _ _ => true | _ => false) = true) (hu : Try.prog.underlying ty = some d) (hi : (Try.prog.info? ty).map (·.size) = some cs.size) :
    (results fn tmps).run Try.prog w = .ok (.tuple #[.agg cs, tmps.getD u undef]) w := by
  have hp' : tmps[p]?.getD undef = .pointer (some ⟨g, 0, none⟩) := by simpa using hp
  simp [results, h, hp', asAddr, run_loadVar_row w g t ty cs fr d hg hu (by cases d <;> first | exact hd | rfl | (simp at hd)) hi]
/-- What holds while read goes on: block pb holds sprite p, the result's block is still empty. -/
structure Rs (w wx : World) (sb : Nat) (T : TypeId) (s : Sc) (pb : Nat) (p : Sp) : Prop where
  sn : Sn wx sb T s
  rc : wx.heap[w.heap.size]? = some (.cells z19 62)
  pn : wx.heap[pb]? = some (.cells (cellsP p).toArray 62)
  bl : Below w.heap.size w wx
  lt : w.heap.size < pb
  src : Sn w sb T s
theorem Rs.set {w wx : World} {sb : Nat} {T : TypeId} {s : Sc} {pb : Nat} {p p' : Sp} {j : Nat} {v : Value} (h : Rs w wx sb T s pb p) (e : (cellsP p).toArray.setIfInBounds j v = (cellsP p').toArray) : Rs w (wx.setCell ⟨pb, j, none⟩ v) sb T s pb p' := by
  have O := (Only.refl h.pn).set (j := j) v
  have lt := h.lt
  have B := below_only h.bl O (by omega) h.bl.size
  exact ⟨h.src.later B, set_ne v (by omega) h.rc, by rw [set_at v h.pn, e], B, lt, h.src⟩
theorem Rs.drewN {w wx : World} {sb : Nat} {T : TypeId} {s : Sc} {pb : Nat} {p : Sp} (h : Rs w wx sb T s pb p) (n : Nat) : Rs w (wx.drewN n) sb T s pb p :=
  ⟨h.sn.drewN n, drewN_heap n h.rc, drewN_heap n h.pn, below_dn h.bl n, h.lt, h.src⟩
/-- How read ends. -/
def ROut (w : World) (s : Sc) (i : Nat) (e : Ending) (w' : World) : Prop :=
  Below w.heap.size w w' ∧ (okV s i = true → e = .returned (.tuple #[.agg (cellsP (spV s i)).toArray, .bool true])) ∧ (okV s i = false → ∃ p, e = .returned (.tuple #[.agg (cellsP p).toArray, .bool false]))
theorem Rs.out {w wx : World} {sb : Nat} {T : TypeId} {s : Sc} {pb : Nat} {p q : Sp} (h : Rs w wx sb T s pb p) : Below w.heap.size w (wx.setRow w.heap.size (cellsP q).toArray) :=
  below_only h.bl (only_row (Only.refl h.rc) _) (Nat.le_refl _) h.bl.size
theorem wrap_i16 (n : Int) : IntKind.i16.wrap n = (n + 32768) % 65536 - 32768 := by
  simp only [IntKind.wrap, IntKind.bits, IntKind.signed]
  simp
  omega
theorem wrap_i16s {n : Int} (h0 : 0 ≤ n) (h1 : n < 65536) : IntKind.i16.wrap n = sext n := by
  rw [wrap_i16]; unfold sext; split <;> omega
/-- The sprite ahead of what hangs on whether it is turned. -/
def spE (s : Sc) (i : Nat) : Sp := { spV s i with boxW := (spV s i).wide, boxH := (spV s i).high, flipX := false, flipY := false, p0 := 256, p1 := 0, p2 := 0, p3 := 256 }
theorem sp_plain {s : Sc} {i : Nat} {B : Int} (h : isTurned s i = false) (hB : wB s i = B) : (cellsP { spE s i with flipX := B / 4096 % 2 == 1 }).toArray.setIfInBounds 11 (.bool (B / 8192 % 2 == 1)) = (cellsP (spV s i)).toArray := by
  subst hB
  unfold spE spV
  rw [h]
  rfl
/-- A turned one, ahead of its numbers. -/
def spT (s : Sc) (i : Nat) : Sp := { spV s i with p0 := 256, p1 := 0, p2 := 0, p3 := 256 }
theorem sp_box0 {s : Sc} {i : Nat} (h : isTurned s i = true) (g : ¬ wA s i / 512 % 2 = 1) : spE s i = spT s i := by
  unfold spE spT spV boxM
  rw [h, if_neg g, Int.one_mul, Int.one_mul]
  rfl
theorem sp_box1 {s : Sc} {i : Nat} (h : isTurned s i = true) (g : wA s i / 512 % 2 = 1) : (cellsP { spE s i with boxW := 2 * (spV s i).wide }).toArray.setIfInBounds 5 (.int .i64 (2 * (spV s i).high)) = (cellsP (spT s i)).toArray := by
  unfold spE spT spV boxM
  rw [h, if_pos g]
  rfl
def parK (s : Sc) (i k : Nat) : Sp := { spV s i with p0 := if 0 < k then parV s i 0 else 256, p1 := if 1 < k then parV s i 1 else 0, p2 := if 2 < k then parV s i 2 else 0, p3 := if 3 < k then parV s i 3 else 256 }
theorem parK_zero (s : Sc) (i : Nat) : parK s i 0 = spT s i := rfl
theorem parK_end {s : Sc} {i : Nat} (h : isTurned s i = true) : parK s i 4 = spV s i := by
  unfold parK spV
  rw [h]
  rfl
theorem parK_at (s : Sc) (i : Nat) {k : Nat} (h : k < 4) : ∃ v, (cellsP (parK s i k)).toArray[12 + k]? = some (.int .i64 v) := by
  rcases (show k = 0 ∨ k = 1 ∨ k = 2 ∨ k = 3 by omega) with rfl | rfl | rfl | rfl <;> exact ⟨_, rfl⟩
theorem parK_set (s : Sc) (i : Nat) {k : Nat} (h : k < 4) : (cellsP (parK s i k)).toArray.setIfInBounds (12 + k) (.int .i64 (parV s i k)) = (cellsP (parK s i (k + 1))).toArray := by
  rcases (show k = 0 ∨ k = 1 ∨ k = 2 ∨ k = 3 by omega) with rfl | rfl | rfl | rfl <;> rfl
end Go.Proofs.Ythbpcenobaloaaa.Pg
