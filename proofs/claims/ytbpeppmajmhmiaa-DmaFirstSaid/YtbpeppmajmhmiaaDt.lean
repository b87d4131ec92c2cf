/- A unit and a tape, made in w1, as they stand now; their calls. -/
import Derived.Test.YtbpeppmajmhmiaaDm
namespace Go.Proofs.Ytbpeppmajmhmiaa.Dt
set_option linter.unusedVariables false
set_option linter.unusedSimpArgs false
open Go.RowKit Go.Proofs.Ytbpeppmajmhmiaa.Bt Go.Proofs.Ytbpeppmajmhmiaa.Wk Go.Proofs.Ytbpeppmajmhmiaa.Sg Go.Proofs.Ytbpeppmajmhmiaa.Dp Go.Proofs.Ytbpeppmajmhmiaa.Da Go.Proofs.Ytbpeppmajmhmiaa.Db Go.Proofs.Ytbpeppmajmhmiaa.Dc Go.Proofs.Ytbpeppmajmhmiaa.Dd Go.Proofs.Ytbpeppmajmhmiaa.De Go.Proofs.Ytbpeppmajmhmiaa.Fq Go.Proofs.Ytbpeppmajmhmiaa.Df Go.Proofs.Ytbpeppmajmhmiaa.Dg Go.Proofs.Ytbpeppmajmhmiaa.Dh Go.Proofs.Ytbpeppmajmhmiaa.Di Go.Proofs.Ytbpeppmajmhmiaa.Dj Go.Proofs.Ytbpeppmajmhmiaa.Dk Go.Proofs.Ytbpeppmajmhmiaa.Dl Go.Proofs.Ytbpeppmajmhmiaa.Dm

/-- Made in w1, the unit holds u and the tape ps, ws. -/
def Cfg (w1 wr : World) (u : Nat → Ch) (ps : List Pl) (ws : List Int) : Prop :=
  ∃ pv wv, PS wr w1.heap.size w1.heap.size (w1.heap.size + 1) pv wv u ps ws ∧ Iv u ∧ Below w1.heap.size w1 wr
section
variable {w1 wr : World} {u : Nat → Ch} {ps : List Pl} {ws : List Int}
theorem cfg_start (w1 : World) : Cfg w1 ((w1.alloc (.cells (cells fun _ => zeroCh).toArray 62)).alloc (.cells #[.slice none 0 0, .slice none 0 0] 29)) (fun _ => zeroCh) [] [] := ⟨_, _, start_ps w1, iv_zero, start_bl w1⟩
theorem cfg_write (h : Cfg w1 wr u ps ws) {i : Nat} (hi : i < 4) (part x : Int) (x0 : 0 ≤ x) (x1 : x < 65536) :
    Calls Try.prog 10 #[.pointer (some ⟨w1.heap.size, 0, none⟩), .int .i64 i, .int .i64 part, .int .u16 x] wr fun e w' => e = .returned (.tuple #[]) ∧ Cfg w1 w' (wrU u i part x) ps ws := by
  obtain ⟨pv, wv, P, V, L⟩ := h
  refine (write_ps P V hi part x x0 x1).mono ?_
  rintro e w' ⟨rfl, S⟩
  exact ⟨rfl, pv, wv, S.ps, iv_wrU V hi x0 x1, ps_below P S L⟩
theorem cfg_step (h : Cfg w1 wr u ps ws) {i : Nat} (hr : ready u = i) (hl : ws.length = ps.length) (hn : ps.length ≤ 90000) :
    Calls Try.prog 11 #[.pointer (some ⟨w1.heap.size, 0, none⟩), .iface 25 (.pointer (some ⟨w1.heap.size + 1, 0, none⟩))] wr fun e w' => e = .returned (.tuple #[.int .i64 i, .bool (stepD u i), .bool (stepD u i && stepA u i)]) ∧ Cfg w1 w' (stepU u i) (ps ++ [stepP u i]) (ws ++ [stepK u i]) := by
  obtain ⟨pv, wv, P, V, L⟩ := h
  refine (step_ps P V hr hl hn).mono ?_
  rintro e w' ⟨rfl, pv', wv', S⟩
  exact ⟨rfl, pv', wv', S.ps, iv_step V hr, ps_below P S L⟩
theorem cfg_moment (h : Cfg w1 wr u ps ws) (n : Int) :
    Calls Try.prog 15 #[.pointer (some ⟨w1.heap.size, 0, none⟩), .int .i64 n] wr fun e w' => e = .returned (.tuple #[]) ∧ Cfg w1 w' (all u fun _ c => moment c n) ps ws := by
  obtain ⟨pv, wv, P, V, L⟩ := h
  refine (moment_ps P V n).mono ?_
  rintro e w' ⟨rfl, S⟩
  exact ⟨rfl, pv, wv, S.ps, iv_moment V, ps_below P S L⟩
theorem cfg_hungry (h : Cfg w1 wr u ps ws) (a : Int) :
    Calls Try.prog 17 #[.pointer (some ⟨w1.heap.size, 0, none⟩), .int .u32 a] wr fun e w' => e = .returned (.tuple #[]) ∧ Cfg w1 w' (all u fun k c => hungry c k a) ps ws := by
  obtain ⟨pv, wv, P, V, L⟩ := h
  refine (hungry_ps P V a).mono ?_
  rintro e w' ⟨rfl, S⟩
  exact ⟨rfl, pv, wv, S.ps, iv_hungry V, ps_below P S L⟩
theorem cfg_ready (h : Cfg w1 wr u ps ws) : Calls Try.prog 13 #[.pointer (some ⟨w1.heap.size, 0, none⟩)] wr fun e w' => e = .returned (.int .i64 (ready u)) ∧ wr = w' := by
  obtain ⟨pv, wv, P, V, L⟩ := h
  exact ready_any P.hu
theorem cfg_control (h : Cfg w1 wr u ps ws) {i : Nat} (hi : i < 4) : Calls Try.prog 14 #[.pointer (some ⟨w1.heap.size, 0, none⟩), .int .i64 i] wr fun e w' => e = .returned (.int .u16 (u i).ctl) ∧ wr = w' := by
  obtain ⟨pv, wv, P, V, L⟩ := h
  exact control_any P.hu hi
theorem cfg_below (h : Cfg w1 wr u ps ws) : Below w1.heap.size w1 wr := by
  obtain ⟨pv, wv, P, V, L⟩ := h
  exact L
/-- What is newly made beside them. -/
theorem cfg_later {w' : World} (h : Cfg w1 wr u ps ws) (hb : Below wr.heap.size wr w') : Cfg w1 w' u ps ws := by
  obtain ⟨pv, wv, P, V, L⟩ := h
  have F : Fr (fun _ => False) wr w' := Fr.of_below hb
  refine ⟨pv, wv, ⟨F.keep P.hu (fun e => e), P.tp.keep F (fun _ _ e => e), P.ne, P.np, P.nw, P.le⟩, V, below_then L hb (by have := P.le; have := P.lt; omega)⟩
theorem cfg_drew (h : Cfg w1 wr u ps ws) : Cfg w1 wr.drew u ps ws := cfg_later h (bd wr)
theorem cfg_lt (h : Cfg w1 wr u ps ws) : w1.heap.size + 1 < wr.heap.size := by
  obtain ⟨pv, wv, P, V, L⟩ := h
  exact P.tp.lt
/-- The tape's plans. -/
theorem cfg_plans (h : Cfg w1 wr u ps ws) : ∃ a cap, wr.cell? ⟨w1.heap.size + 1, 0, none⟩ = some (.slice a ps.length cap) ∧ ∀ i, i < ps.length → ∃ g, a = some ⟨g, 0, none⟩ ∧ g < wr.heap.size ∧ ∀ j, j < 6 → wr.cell? ⟨g, i * 6 + j, none⟩ = (encP (ps.getD i ⟨0, false, 0, 0, 0, 0⟩))[j]? := by
  obtain ⟨pv, wv, P, V, L⟩ := h
  obtain ⟨a, cap, hq⟩ := own_form P.tp.op
  refine ⟨a, cap, by rw [← hq]; exact tape0 P, fun i hi => ?_⟩
  obtain ⟨g, cap', hp, hc⟩ := plan_at P hi
  rw [hq] at hp
  injection hp with hp1 hp2 hp3
  refine ⟨g, hp1, ?_, fun j hj => ?_⟩
  · have := hc 0 (by decide)
    exact cell_lt this
  · rw [hc j hj, List.getD_eq_getElem?_getD, List.getElem?_eq_getElem hi]; rfl
theorem cfg_wrote (h : Cfg w1 wr u ps ws) : ∃ a cap, wr.cell? ⟨w1.heap.size + 1, 1, none⟩ = some (.slice a ws.length cap) ∧ ∀ i, i < ws.length → ∃ g, a = some ⟨g, 0, none⟩ ∧ g < wr.heap.size ∧ wr.cell? ⟨g, i, none⟩ = some (.int .u32 (ws.getD i 0)) := by
  obtain ⟨pv, wv, P, V, L⟩ := h
  obtain ⟨a, cap, hq⟩ := own_form P.tp.ow
  refine ⟨a, cap, by rw [← hq]; exact tape1 P, fun i hi => ?_⟩
  obtain ⟨g, cap', hp, hc⟩ := wrote_at P hi
  rw [hq] at hp
  injection hp with hp1 hp2 hp3
  refine ⟨g, hp1, cell_lt hc, ?_⟩
  rw [hc, List.getD_eq_getElem?_getD, List.getElem?_eq_getElem hi]; rfl
end
end Go.Proofs.Ytbpeppmajmhmiaa.Dt
