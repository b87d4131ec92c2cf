/- Package obj, walked: half, size, cost. -/
import Derived.Test.YthbpcenobaloaaaGm
import Derived.Test.YthbpcenobaloaaaPp
namespace Go.Proofs.Ythbpcenobaloaaa.Pa
set_option linter.unusedVariables false
set_option linter.unusedSimpArgs false
open Go.RowKit Go.Proofs.Ythbpcenobaloaaa.Bt Go.Proofs.Ythbpcenobaloaaa.Wk Go.Proofs.Ythbpcenobaloaaa.Sg Go.Proofs.Ythbpcenobaloaaa.Gp Go.Proofs.Ythbpcenobaloaaa.Gm Go.Proofs.Ythbpcenobaloaaa.Pp

set_option maxHeartbeats 2000000 in
theorem ohalf_any {w : World} {m : Mem} (h : Rd w m) (k : Mok m) (a : Int) (r0 : -9223372036854775808 ≤ a) (r1 : a ≤ 9223372036854775807) :
    Calls Try.prog 22 #[m.v, .int .i64 a] w fun e w' => e = .returned (.int .u16 (halfV m a)) ∧ ∃ n, w' = w.drewN n := by
  have hm := k.hm
  unfold maxLen at hm
  unfold Mem.v
  by_cases g : 0 ≤ a ∧ a < (m.n : Int) - 1
  · obtain ⟨j, rfl⟩ := Int.eq_ofNat_of_zero_le g.1
    obtain ⟨ad, e1, l1, c1⟩ := h.at_ (k := j) (by omega)
    obtain ⟨ad', e2, l2, c2⟩ := h.at_ (k := j + 1) (by omega)
    obtain rfl : ad = ad' := Option.some.inj (e1.symm.trans e2)
    have b1 := k.hf j (by omega)
    have b2 := k.hf (j + 1) (by omega)
    have hv : halfV m (j : Int) = m.f j + 256 * m.f (j + 1) := by unfold halfV; rw [if_pos g]; rfl
    rw [hv, e1]
    have g2 := g.2
    clear hv e1 e2 h k
    generalize m.f j = x at *
    generalize m.f (j + 1) = y at *
    generalize m.n = n at *
    obtain ⟨x0, x1⟩ := b1
    obtain ⟨y0, y1⟩ := b2
    have O := or_u16 x0 x1 y0 y1
    have i0 : (0 : Int) ≤ (j : Int) := by omega
    have i1 : (j : Int) < (n : Int) := by omega
    have i2 : (j : Int) + 1 < (n : Int) := by omega
    have i3 : (n : Int) ≤ 9223372036854775807 := by omega
    have i4 : (0 : Int) ≤ (j : Int) + 1 := by omega
    rw [add_cellAt] at c2
    simp only [cellAt] at c2
    have w1 : IntKind.i64.wrap ((j : Int) + 1) = (j : Int) + 1 := by rw [IntKind.wrap_i64]; omega
    have w2 : IntKind.u16.wrap (y * 256) = y * 256 := by rw [wrap_u16]; omega
    have w3 : IntKind.u16.wrap x = x := by rw [wrap_u16]; omega
    have w4 : IntKind.u16.wrap y = y := by rw [wrap_u16]; omega
    clear g
    go_enter Try.func22, Try.ntmps22
    go_wp2_with fail
    go_quiet (fail)
    go_wp2
    go_ret
    exact ⟨rfl, _, rfl⟩
  · have hv : halfV m a = 0 := by unfold halfV; rw [if_neg g]
    rw [hv]
    by_cases g0 : a < 0
    · clear g hv h k
      generalize m.n = n at *
      go_enter Try.func22, Try.ntmps22
      go_wp2
      go_ret
      exact ⟨rfl, 0, rfl⟩
    · have g1 : (m.n : Int) - 1 ≤ a := by omega
      have g2 : 0 ≤ a := by omega
      clear g hv h k g0
      generalize m.n = n at *
      go_enter Try.func22, Try.ntmps22
      go_wp2
      go_ret
      exact ⟨rfl, 0, rfl⟩
theorem oix (a0 a1 a2 a3 : Value) (w : World) : (Instr.index 60 (.agg #[a0, a1, a2, a3]) (.int .i64 0)).run Try.prog w = .ok a0 w ∧ (Instr.index 60 (.agg #[a0, a1, a2, a3]) (.int .i64 1)).run Try.prog w = .ok a1 w ∧ (Instr.index 60 (.agg #[a0, a1, a2, a3]) (.int .i64 2)).run Try.prog w = .ok a2 w ∧ (Instr.index 60 (.agg #[a0, a1, a2, a3]) (.int .i64 3)).run Try.prog w = .ok a3 w := ⟨by kernel_rfl, by kernel_rfl, by kernel_rfl, by kernel_rfl⟩
set_option maxHeartbeats 8000000 in
theorem size_any {w : World} (sh n : Int) (h0 : 0 ≤ sh) (h3 : sh < 3) (n0 : 0 ≤ n) (n4 : n < 4) :
    Calls Try.prog 23 #[.int .i64 sh, .int .i64 n] w fun e w' => e = .returned (.tuple #[.int .i64 (sizW sh n), .int .i64 (sizH sh n)]) ∧ ∃ q, w' = w.drewN q := by
  have I0 := fun (a0 a1 a2 a3 : Value) (w : World) => (oix a0 a1 a2 a3 w).1
  have I1 := fun (a0 a1 a2 a3 : Value) (w : World) => (oix a0 a1 a2 a3 w).2.1
  have I2 := fun (a0 a1 a2 a3 : Value) (w : World) => (oix a0 a1 a2 a3 w).2.2.1
  have I3 := fun (a0 a1 a2 a3 : Value) (w : World) => (oix a0 a1 a2 a3 w).2.2.2
  have sc : sh = 0 ∨ sh = 1 ∨ sh = 2 := by omega
  have nc : n = 0 ∨ n = 1 ∨ n = 2 ∨ n = 3 := by omega
  clear h0 h3 n0 n4
  rcases sc with rfl | rfl | rfl <;> rcases nc with rfl | rfl | rfl | rfl
  all_goals
    go_enter Try.func23, Try.ntmps23
    go_wp2_with fail
    go_quiet (fail)
    go_wp2_with fail
    try (go_quiet (fail); go_wp2_with fail)
    go_ret2
    first | exact ⟨rfl, _, rfl⟩ | exact ⟨rfl, _, World.drewN_drewN _ _ _⟩
/-- Block b holds the sprite p. -/
structure Pn (w : World) (b : Nat) (p : Sp) : Prop where
  at_ : w.heap[b]? = some (.cells (cellsP p).toArray 62 (0, 0))
theorem Pn.later {w w' : World} {b : Nat} {p : Sp} (h : Pn w b p) (hb : Below w.heap.size w w') : Pn w' b p := ⟨keep hb h.at_⟩
theorem Pn.drewN {w : World} {b : Nat} {p : Sp} (h : Pn w b p) (n : Nat) : Pn (w.drewN n) b p := ⟨h.at_⟩
theorem Pn.lt {w : World} {b : Nat} {p : Sp} (h : Pn w b p) : b < w.heap.size := sizeAt h.at_
section
variable {w : World} {b : Nat} {p : Sp}
theorem Pn.c_x (h : Pn w b p) : w.cell? ⟨b, 0, none⟩ = some (.int .i64 p.x) := cellsAt h.at_ 0
theorem Pn.c_y (h : Pn w b p) : w.cell? ⟨b, 1, none⟩ = some (.int .i64 p.y) := cellsAt h.at_ 1
theorem Pn.c_wide (h : Pn w b p) : w.cell? ⟨b, 2, none⟩ = some (.int .i64 p.wide) := cellsAt h.at_ 2
theorem Pn.c_high (h : Pn w b p) : w.cell? ⟨b, 3, none⟩ = some (.int .i64 p.high) := cellsAt h.at_ 3
theorem Pn.c_boxW (h : Pn w b p) : w.cell? ⟨b, 4, none⟩ = some (.int .i64 p.boxW) := cellsAt h.at_ 4
theorem Pn.c_boxH (h : Pn w b p) : w.cell? ⟨b, 5, none⟩ = some (.int .i64 p.boxH) := cellsAt h.at_ 5
theorem Pn.c_turned (h : Pn w b p) : w.cell? ⟨b, 6, none⟩ = some (.bool p.turned) := cellsAt h.at_ 6
theorem Pn.c_mode (h : Pn w b p) : w.cell? ⟨b, 7, none⟩ = some (.int .i64 p.mode) := cellsAt h.at_ 7
theorem Pn.c_mosaic (h : Pn w b p) : w.cell? ⟨b, 8, none⟩ = some (.bool p.mosaic) := cellsAt h.at_ 8
theorem Pn.c_many (h : Pn w b p) : w.cell? ⟨b, 9, none⟩ = some (.bool p.many) := cellsAt h.at_ 9
theorem Pn.c_flipX (h : Pn w b p) : w.cell? ⟨b, 10, none⟩ = some (.bool p.flipX) := cellsAt h.at_ 10
theorem Pn.c_flipY (h : Pn w b p) : w.cell? ⟨b, 11, none⟩ = some (.bool p.flipY) := cellsAt h.at_ 11
theorem Pn.c_p0 (h : Pn w b p) : w.cell? ⟨b, 12, none⟩ = some (.int .i64 p.p0) := cellsAt h.at_ 12
theorem Pn.c_p1 (h : Pn w b p) : w.cell? ⟨b, 13, none⟩ = some (.int .i64 p.p1) := cellsAt h.at_ 13
theorem Pn.c_p2 (h : Pn w b p) : w.cell? ⟨b, 14, none⟩ = some (.int .i64 p.p2) := cellsAt h.at_ 14
theorem Pn.c_p3 (h : Pn w b p) : w.cell? ⟨b, 15, none⟩ = some (.int .i64 p.p3) := cellsAt h.at_ 15
theorem Pn.c_tile (h : Pn w b p) : w.cell? ⟨b, 16, none⟩ = some (.int .i64 p.tile) := cellsAt h.at_ 16
theorem Pn.c_prio (h : Pn w b p) : w.cell? ⟨b, 17, none⟩ = some (.int .i64 p.prio) := cellsAt h.at_ 17
theorem Pn.c_palette (h : Pn w b p) : w.cell? ⟨b, 18, none⟩ = some (.int .i64 p.palette) := cellsAt h.at_ 18
def costV (p : Sp) : Int := if p.turned then 10 + 2 * p.boxW else p.boxW
theorem cost_any (h : Pn w b p) (k : Pok p) : Calls Try.prog 15 #[.pointer (some ⟨b, 0, none⟩)] w fun e w' => e = .returned (.int .i64 (costV p)) ∧ w = w' := by
  have C6 := h.c_turned
  have C4 := h.c_boxW
  have lt := h.lt
  have bw := k.bw
  have pw := k.w
  have b0 : 0 ≤ p.boxW := by omega
  have b1 : p.boxW ≤ 128 := by omega
  clear bw pw h k
  unfold costV
  generalize p.boxW = z at *
  generalize p.turned = t at *
  cases t
  all_goals
    go_enter Try.func15, Try.ntmps15
    go_wp2_with fail
    go_ret
    exact ⟨rfl, rfl⟩
end
end Go.Proofs.Ythbpcenobaloaaa.Pa
