/- The document's scene. -/
import Derived.Test.YthbpcenobaloaaaGm
namespace Go.Proofs.Ythbpcenobaloaaa.Hr
set_option linter.unusedVariables false
set_option linter.unusedSimpArgs false
open Go.RowKit Go.Proofs.Ythbpcenobaloaaa.Bt Go.Proofs.Ythbpcenobaloaaa.Wk Go.Proofs.Ythbpcenobaloaaa.Sg Go.Proofs.Ythbpcenobaloaaa.Gp Go.Proofs.Ythbpcenobaloaaa.Gm

theorem cells_row (s : Sc) : (cellsS s).toArray = #[.int .u16 (s.ctl), .int .u16 (s.bg 0), .int .u16 (s.bg 1), .int .u16 (s.bg 2), .int .u16 (s.bg 3), .int .u16 (s.xs 0), .int .u16 (s.xs 1), .int .u16 (s.xs 2), .int .u16 (s.xs 3), .int .u16 (s.ys 0), .int .u16 (s.ys 1), .int .u16 (s.ys 2), .int .u16 (s.ys 3), .int .i16 (s.par 0), .int .i16 (s.par 1), .int .i16 (s.par 2), .int .i16 (s.par 3), .int .i16 (s.par 4), .int .i16 (s.par 5), .int .i16 (s.par 6), .int .i16 (s.par 7), .int .i32 (s.ref 0), .int .i32 (s.ref 1), .int .i32 (s.ref 2), .int .i32 (s.ref 3), .int .u16 (s.mos), s.vr.v, s.pa.v, s.oa.v] := rfl
set_option maxRecDepth 100000 in
set_option maxHeartbeats 8000000 in
theorem ref_any {w : World} {b : Nat} {T : TypeId} {s : Sc} (h : Sn w b T s) :
    Calls Try.prog 11 #[.pointer (some ⟨b, 0, none⟩)] w fun e w' => ∃ q, e = .returned (.pointer (some ⟨w.heap.size, 0, none⟩)) ∧ w' = (w.drewN q).alloc (.cells (cellsS s).toArray 68) := by
  have lt := h.lt
  have C0 : w.cell? ⟨b, 0, none⟩ = some (.int .u16 (s.ctl)) := h.cell (k := 0) (by decide)
  have C1 : w.cell? ⟨b, 1, none⟩ = some (.int .u16 (s.bg 0)) := h.cell (k := 1) (by decide)
  have C2 : w.cell? ⟨b, 2, none⟩ = some (.int .u16 (s.bg 1)) := h.cell (k := 2) (by decide)
  have C3 : w.cell? ⟨b, 3, none⟩ = some (.int .u16 (s.bg 2)) := h.cell (k := 3) (by decide)
  have C4 : w.cell? ⟨b, 4, none⟩ = some (.int .u16 (s.bg 3)) := h.cell (k := 4) (by decide)
  have C5 : w.cell? ⟨b, 5, none⟩ = some (.int .u16 (s.xs 0)) := h.cell (k := 5) (by decide)
  have C6 : w.cell? ⟨b, 6, none⟩ = some (.int .u16 (s.xs 1)) := h.cell (k := 6) (by decide)
  have C7 : w.cell? ⟨b, 7, none⟩ = some (.int .u16 (s.xs 2)) := h.cell (k := 7) (by decide)
  have C8 : w.cell? ⟨b, 8, none⟩ = some (.int .u16 (s.xs 3)) := h.cell (k := 8) (by decide)
  have C9 : w.cell? ⟨b, 9, none⟩ = some (.int .u16 (s.ys 0)) := h.cell (k := 9) (by decide)
  have C10 : w.cell? ⟨b, 10, none⟩ = some (.int .u16 (s.ys 1)) := h.cell (k := 10) (by decide)
  have C11 : w.cell? ⟨b, 11, none⟩ = some (.int .u16 (s.ys 2)) := h.cell (k := 11) (by decide)
  have C12 : w.cell? ⟨b, 12, none⟩ = some (.int .u16 (s.ys 3)) := h.cell (k := 12) (by decide)
  have C13 : w.cell? ⟨b, 13, none⟩ = some (.int .i16 (s.par 0)) := h.cell (k := 13) (by decide)
  have C14 : w.cell? ⟨b, 14, none⟩ = some (.int .i16 (s.par 1)) := h.cell (k := 14) (by decide)
  have C15 : w.cell? ⟨b, 15, none⟩ = some (.int .i16 (s.par 2)) := h.cell (k := 15) (by decide)
  have C16 : w.cell? ⟨b, 16, none⟩ = some (.int .i16 (s.par 3)) := h.cell (k := 16) (by decide)
  have C17 : w.cell? ⟨b, 17, none⟩ = some (.int .i16 (s.par 4)) := h.cell (k := 17) (by decide)
  have C18 : w.cell? ⟨b, 18, none⟩ = some (.int .i16 (s.par 5)) := h.cell (k := 18) (by decide)
  have C19 : w.cell? ⟨b, 19, none⟩ = some (.int .i16 (s.par 6)) := h.cell (k := 19) (by decide)
  have C20 : w.cell? ⟨b, 20, none⟩ = some (.int .i16 (s.par 7)) := h.cell (k := 20) (by decide)
  have C21 : w.cell? ⟨b, 21, none⟩ = some (.int .i32 (s.ref 0)) := h.cell (k := 21) (by decide)
  have C22 : w.cell? ⟨b, 22, none⟩ = some (.int .i32 (s.ref 1)) := h.cell (k := 22) (by decide)
  have C23 : w.cell? ⟨b, 23, none⟩ = some (.int .i32 (s.ref 2)) := h.cell (k := 23) (by decide)
  have C24 : w.cell? ⟨b, 24, none⟩ = some (.int .i32 (s.ref 3)) := h.cell (k := 24) (by decide)
  have C25 : w.cell? ⟨b, 25, none⟩ = some (.int .u16 (s.mos)) := h.cell (k := 25) (by decide)
  have C26 : w.cell? ⟨b, 26, none⟩ = some (s.vr.v) := h.cell (k := 26) (by decide)
  have C27 : w.cell? ⟨b, 27, none⟩ = some (s.pa.v) := h.cell (k := 27) (by decide)
  have C28 : w.cell? ⟨b, 28, none⟩ = some (s.oa.v) := h.cell (k := 28) (by decide)
  rw [cells_row]
  unfold Mem.v at *
  clear h
  generalize s.ctl = a0 at *
  generalize s.bg 0 = a1 at *
  generalize s.bg 1 = a2 at *
  generalize s.bg 2 = a3 at *
  generalize s.bg 3 = a4 at *
  generalize s.xs 0 = a5 at *
  generalize s.xs 1 = a6 at *
  generalize s.xs 2 = a7 at *
  generalize s.xs 3 = a8 at *
  generalize s.ys 0 = a9 at *
  generalize s.ys 1 = a10 at *
  generalize s.ys 2 = a11 at *
  generalize s.ys 3 = a12 at *
  generalize s.par 0 = a13 at *
  generalize s.par 1 = a14 at *
  generalize s.par 2 = a15 at *
  generalize s.par 3 = a16 at *
  generalize s.par 4 = a17 at *
  generalize s.par 5 = a18 at *
  generalize s.par 6 = a19 at *
  generalize s.par 7 = a20 at *
  generalize s.ref 0 = a21 at *
  generalize s.ref 1 = a22 at *
  generalize s.ref 2 = a23 at *
  generalize s.ref 3 = a24 at *
  generalize s.mos = a25 at *
  go_enter Try.func11, Try.ntmps11
  go_wp2_with fail
  go_still_tail 41, (by kernel_rfl)
  repeat still_step
  go_wp2_with fail
  go_ret
  trace_state
  exact ⟨1, rfl, rfl⟩
end Go.Proofs.Ythbpcenobaloaaa.Hr
