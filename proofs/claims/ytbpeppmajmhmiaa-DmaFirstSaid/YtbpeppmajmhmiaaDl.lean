/- The unit and the tape together: their calls; awake walked. -/
import Derived.Test.YtbpeppmajmhmiaaDk
namespace Go.Proofs.Ytbpeppmajmhmiaa.Dl
set_option linter.unusedVariables false
set_option linter.unusedSimpArgs false
open Go.RowKit Go.Proofs.Ytbpeppmajmhmiaa.Bt Go.Proofs.Ytbpeppmajmhmiaa.Wk Go.Proofs.Ytbpeppmajmhmiaa.Sg Go.Proofs.Ytbpeppmajmhmiaa.Dp Go.Proofs.Ytbpeppmajmhmiaa.Da Go.Proofs.Ytbpeppmajmhmiaa.Db Go.Proofs.Ytbpeppmajmhmiaa.Dc Go.Proofs.Ytbpeppmajmhmiaa.Dd Go.Proofs.Ytbpeppmajmhmiaa.De Go.Proofs.Ytbpeppmajmhmiaa.Fq Go.Proofs.Ytbpeppmajmhmiaa.Df Go.Proofs.Ytbpeppmajmhmiaa.Dg Go.Proofs.Ytbpeppmajmhmiaa.Dh Go.Proofs.Ytbpeppmajmhmiaa.Di Go.Proofs.Ytbpeppmajmhmiaa.Dj Go.Proofs.Ytbpeppmajmhmiaa.Dk

def wrU (u : Nat → Ch) (i : Nat) (part x : Int) : Nat → Ch := upd u i (wrC (u i) i part x)
section
variable {w : World} {B ub tb : Nat} {pv wv : Value} {u : Nat → Ch} {ps : List Pl} {ws : List Int}
theorem write_ps (h : PS w B ub tb pv wv u ps ws) (v : Iv u) {i : Nat} (hi : i < 4) (part x : Int) (x0 : 0 ≤ x) (x1 : x < 65536) :
    Calls Try.prog 10 #[.pointer (some ⟨ub, 0, none⟩), .int .i64 i, .int .i64 part, .int .u16 x] w fun e w' => e = .returned (.tuple #[]) ∧ SEnd w w' B ub tb pv wv pv wv (wrU u i part x) ps ws := by
  refine (writeP (isU_b1 h.hu i) hi (v i hi).wf part x x0 x1).mono ?_
  rintro e w' ⟨rfl, b⟩
  exact ⟨rfl, h.store b⟩
theorem step_ps (h : PS w B ub tb pv wv u ps ws) (v : Iv u) {i : Nat} (hr : ready u = i) (hl : ws.length = ps.length) (hn : ps.length ≤ 90000) :
    Calls Try.prog 11 #[.pointer (some ⟨ub, 0, none⟩), .iface 25 (.pointer (some ⟨tb, 0, none⟩))] w fun e w' => e = .returned (.tuple #[.int .i64 i, .bool (stepD u i), .bool (stepD u i && stepA u i)]) ∧
      ∃ pv' wv', SEnd w w' B ub tb pv wv pv' wv' (stepU u i) (ps ++ [stepP u i]) (ws ++ [stepK u i]) := by
  obtain ⟨hi, hp⟩ := ready_pend hr
  exact step_any h (v i hi).wf hi hr hl hn (width (u i) i) (cls (u i)) rfl rfl
theorem moment_ps (h : PS w B ub tb pv wv u ps ws) (v : Iv u) (n : Int) :
    Calls Try.prog 15 #[.pointer (some ⟨ub, 0, none⟩), .int .i64 n] w fun e w' => e = .returned (.tuple #[]) ∧ SEnd w w' B ub tb pv wv pv wv (all u fun _ c => moment c n) ps ws := by
  refine (moment_any h.hu (fun k hk => (v k hk).wf) n).mono ?_
  rintro e w' ⟨rfl, b⟩
  exact ⟨rfl, h.store b⟩
theorem hungry_ps (h : PS w B ub tb pv wv u ps ws) (v : Iv u) (a : Int) :
    Calls Try.prog 17 #[.pointer (some ⟨ub, 0, none⟩), .int .u32 a] w fun e w' => e = .returned (.tuple #[]) ∧ SEnd w w' B ub tb pv wv pv wv (all u fun k c => hungry c k a) ps ws := by
  refine (hungry_any h.hu (fun k hk => (v k hk).wf) a).mono ?_
  rintro e w' ⟨rfl, b⟩
  exact ⟨rfl, h.store b⟩
theorem send_below {w w' W : World} {pv' wv' : Value} (h : SEnd w w' B ub tb pv wv pv' wv' u ps ws) (hb : Below B W w) (hB : B ≤ w.heap.size) (hp : ∀ g, pv.ownBlock = some g → B ≤ g) (hw : ∀ g, wv.ownBlock = some g → B ≤ g) : Below B W w' := by
  refine hb.trans ⟨h.fr.os, h.fr.tape, h.fr.output, h.fr.size, fun k hk => h.fr.block k (by omega) ?_⟩
  have h1 := h.ps.le
  have h2 := h.ps.tp.le
  rintro (e | e | e | e)
  · omega
  · omega
  · have := hp k e; omega
  · have := hw k e; omega
theorem ps_pb (h : PS w B ub tb pv wv u ps ws) : ∀ g, pv.ownBlock = some g → B ≤ g := fun g hg => (own_lt h.tp.op hg).1
theorem ps_wb (h : PS w B ub tb pv wv u ps ws) : ∀ g, wv.ownBlock = some g → B ≤ g := fun g hg => (own_lt h.tp.ow hg).1
theorem ps_bs (h : PS w B ub tb pv wv u ps ws) : B ≤ w.heap.size := by have := h.le; have := h.lt; omega
theorem ps_below {W w' : World} {pv' wv' : Value} {u' : Nat → Ch} {ps' : List Pl} {ws' : List Int} (h : PS w B ub tb pv wv u ps ws) (e : SEnd w w' B ub tb pv wv pv' wv' u' ps' ws') (hb : Below B W w) : Below B W w' := send_below e hb (ps_bs h) (ps_pb h) (ps_wb h)
theorem ps_drew (h : PS w B ub tb pv wv u ps ws) : PS w.drew B ub tb pv wv u ps ws := ((SEnd.refl h).drew).ps
theorem start_ps (w : World) : PS ((w.alloc (.cells (cells fun _ => zeroCh).toArray 62)).alloc (.cells #[.slice none 0 0, .slice none 0 0] 29)) w.heap.size w.heap.size (w.heap.size + 1) (.slice none 0 0) (.slice none 0 0) (fun _ => zeroCh) [] [] := by
  have h1 := alloc_new w (.cells (cells fun _ => zeroCh).toArray 62)
  have h2 := alloc_new (w.alloc (.cells (cells fun _ => zeroCh).toArray 62)) (.cells #[.slice none 0 0, .slice none 0 0] 29)
  simp only [World.size_alloc] at h2
  exact ⟨alloc_old _ h1, ⟨h2, ⟨rfl, .inl ⟨rfl, rfl⟩⟩, ⟨rfl, .inl ⟨rfl, rfl⟩⟩, by simp [Value.ownBlock], by simp [Value.ownBlock], by simp [Value.ownBlock], by omega⟩, by omega, by simp [Value.ownBlock], by simp [Value.ownBlock], Nat.le_refl _⟩
theorem start_bl (w : World) : Below w.heap.size w ((w.alloc (.cells (cells fun _ => zeroCh).toArray 62)).alloc (.cells #[.slice none 0 0, .slice none 0 0] 29)) := bl2 (bl w _) _
/-- A plan's cells. -/
theorem plan_at (h : PS w B ub tb pv wv u ps ws) {i : Nat} (hi : i < ps.length) : ∃ g cap, pv = .slice (some ⟨g, 0, none⟩) ps.length cap ∧ ∀ j, j < 6 → w.cell? ⟨g, i * 6 + j, none⟩ = (encP ps[i])[j]? := by
  obtain ⟨g, cap, cur, rfl, hB, hg, hc, hm, hs, ht⟩ := own_some h.tp.op (by omega)
  exact ⟨g, cap, rfl, fun j hj => own_cell (s := 6) (fun _ => rfl) hg ht hi hj⟩
theorem wrote_at (h : PS w B ub tb pv wv u ps ws) {i : Nat} (hi : i < ws.length) : ∃ g cap, wv = .slice (some ⟨g, 0, none⟩) ws.length cap ∧ w.cell? ⟨g, i, none⟩ = some (.int .u32 ws[i]) := by
  obtain ⟨g, cap, cur, rfl, hB, hg, hc, hm, hs, ht⟩ := own_some h.tp.ow (by omega)
  refine ⟨g, cap, rfl, ?_⟩
  have := own_cell (s := 1) (fun _ => rfl) hg ht hi (j := 0) (by decide)
  simpa [encW] using this
theorem tape0 (h : PS w B ub tb pv wv u ps ws) : w.cell? ⟨tb, 0, none⟩ = some pv := cellsAt h.tp.blk 0
theorem tape1 (h : PS w B ub tb pv wv u ps ws) : w.cell? ⟨tb, 1, none⟩ = some wv := cellsAt h.tp.blk 1
end
def uA : Nat → Ch := wrU (wrU (wrU (wrU (fun _ => zeroCh) 0 1 512) 0 3 768) 0 4 2) 0 5 32768
theorem iv_wrU {u : Nat → Ch} {i : Nat} {part x : Int} (h : Iv u) (hi : i < 4) (x0 : 0 ≤ x) (x1 : x < 65536) : Iv (wrU u i part x) := iv_wr h hi x0 x1
theorem uA_ready : ready uA = (0 : Nat) := by kernel_rfl
theorem uA_d : stepD uA 0 = false := by kernel_rfl
theorem uB_ready : ready (stepU uA 0) = (0 : Nat) := by kernel_rfl
theorem uB_d : stepD (stepU uA 0) 0 = true := by kernel_rfl
theorem uB_p : stepP (stepU uA 0) 0 = ⟨0, true, 33554434, 50331650, 2, 1⟩ := by kernel_rfl
theorem uC_ctl : (stepU (stepU uA 0) 0 0).ctl = 0 := by kernel_rfl
end Go.Proofs.Ytbpeppmajmhmiaa.Dl
