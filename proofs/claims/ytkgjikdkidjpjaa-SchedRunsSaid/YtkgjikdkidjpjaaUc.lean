/- The document's clock, walked: Due. -/
import Derived.Test.YtkgjikdkidjpjaaUb
import Derived.Deep.DeepCutAuto
namespace Go.Proofs.Ytkgjikdkidjpjaa.Uc
set_option linter.unusedVariables false
set_option linter.unusedSimpArgs false
open Go.RowKit Go.Proofs.Ytkgjikdkidjpjaa.Wk Go.Proofs.Ytkgjikdkidjpjaa.Sp Go.Proofs.Ytkgjikdkidjpjaa.Sa Go.Proofs.Ytkgjikdkidjpjaa.Sb Go.Proofs.Ytkgjikdkidjpjaa.Sc Go.Proofs.Ytkgjikdkidjpjaa.Sd Go.Proofs.Ytkgjikdkidjpjaa.Sk Go.Proofs.Ytkgjikdkidjpjaa.Up Go.Proofs.Ytkgjikdkidjpjaa.Ua Go.Proofs.Ytkgjikdkidjpjaa.Ub

set_option maxHeartbeats 2000000 in
theorem mdue_none {w : World} {B mb : Nat} {now : Int} {v : Value} (h : RepM w B mb now v []) : Calls Try.prog 18 #[.pointer (some ⟨mb, 0, none⟩)] w fun e w' => e = .returned (.tuple #[.agg #[.int .i64 0, .int .i64 0], .bool false]) ∧ Below w.heap.size w w' := by
  have A0 := alloc_new w (.cells #[.int .i64 0, .int .i64 0] 28)
  have B0 := bl w (.cells #[.int .i64 0, .int .i64 0] 28)
  have F := first_any (h.below B0)
  rw [show firstGo ([] : List Ev) ([] : List Ev).length = -1 from rfl] at F
  have FH := Lib.hid F
  have zz : w.heap.size ≤ w.heap.size := Nat.le_refl _
  clear F h
  go_enter Try.func18, Try.ntmps18
  go_wp2_with fail
  generalize w.alloc (.cells #[.int .i64 0, .int .i64 0] 28) = W at *
  refine FH.out.mono ?_
  rintro e w1 ⟨rfl, hb⟩
  have A1 := keep hb A0
  have C := cellsAt A1
  have Fz := freeAt A1
  have sz := sizeAt A1
  have B1 := Lib.hid (below_then B0 hb B0.size)
  have A1H := Lib.hid A1
  clear A0 B0 hb A1
  go_wp2
  go_quiet (fail)
  go_wp2
  exact bodyPost_ret (v := .tuple #[.agg #[.int .i64 0, .int .i64 0], .bool false]) (by simp [results, Try.results18, go_sem, C]) rfl ⟨rfl, ((below_dn B1.out _).setCell (by simp) _).setCell (by simp) _⟩
theorem due_facts {w W w1 : World} {B mb : Nat} {now : Int} {v : Value} {E : List Ev} (h : RepM w B mb now v E) (B0 : Below w.heap.size w W) (hb : Below W.heap.size W w1) {j : Nat} (hj : j < E.length) :
    ∃ g cap, v = .slice (some ⟨g, 0, none⟩) E.length cap ∧ E.length ≤ cap ∧ cap ≤ maxLen ∧ w1.cell? ⟨mb, 1, none⟩ = some (.slice (some ⟨g, 0, none⟩) E.length cap) ∧ w1.cell? ⟨mb, 0, none⟩ = some (.int .i64 now) ∧
      w1.cell? ⟨g, j * 2, none⟩ = some (.int .i64 (at2 E j).1) ∧ w1.cell? ⟨g, j * 2 + 1, none⟩ = some (.int .i64 (at2 E j).2) ∧ mb < w1.heap.size ∧ g < w1.heap.size := by
  have R := (h.below B0).below hb
  obtain ⟨g, cap, cur, rfl, hB, hg, hn, hm, hs, ht⟩ := own2_some R.own (by omega)
  obtain ⟨a0, a1⟩ := own2_cell hg ht hj
  exact ⟨g, cap, rfl, hn, hm, cellsAt R.blk 1, cellsAt R.blk 0, a0, a1, sizeAt R.blk, sizeAt hg⟩
set_option maxHeartbeats 4000000 in
theorem mdue_later {w : World} {B mb : Nat} {now : Int} {v : Value} {E : List Ev} (h : RepM w B mb now v E) (j : Nat) (hj : j < E.length) (hf : firstGo E E.length = j) (hn : now < (at2 E j).1) :
    Calls Try.prog 18 #[.pointer (some ⟨mb, 0, none⟩)] w fun e w' => e = .returned (.tuple #[.agg #[.int .i64 0, .int .i64 0], .bool false]) ∧ Below w.heap.size w w' := by
  have A0 := alloc_new w (.cells #[.int .i64 0, .int .i64 0] 28)
  have B0 := bl w (.cells #[.int .i64 0, .int .i64 0] 28)
  have F := first_any (h.below B0)
  rw [hf] at F
  have FH := Lib.hid F
  have HH := Lib.hid h
  have e16 := h.len
  have t : decide ((j : Int) < 0) = false := decide_eq_false (by omega)
  have t2 : decide (now < (at2 E j).1) = true := decide_eq_true hn
  have jl : (j : Int) < (E.length : Int) := by omega
  have j0 : (0 : Int) ≤ (j : Int) := by omega
  clear F h hf
  go_enter Try.func18, Try.ntmps18
  go_wp2_with fail
  generalize w.alloc (.cells #[.int .i64 0, .int .i64 0] 28) = W at *
  refine FH.out.mono ?_
  rintro e w1 ⟨rfl, hb⟩
  obtain ⟨g, cap, rfl, hnc, hm, C1, C0, a0, a1, sm, sg⟩ := due_facts HH.out B0 hb hj
  have A1 := keep hb A0
  have C := cellsAt A1
  have Fz := freeAt A1
  have sz := sizeAt A1
  have B1 := Lib.hid (below_then B0 hb B0.size)
  clear A0 B0 hb A1 hm
  generalize (at2 E j).1 = x1 at *
  generalize (at2 E j).2 = x2 at *
  go_wp2
  go_quiet (fail)
  go_wp2
  exact bodyPost_ret (v := .tuple #[.agg #[.int .i64 0, .int .i64 0], .bool false]) (by simp [results, Try.results18, go_sem, C]) rfl ⟨rfl, ((below_dn B1.out _).setCell (by simp) _).setCell (by simp) _⟩
end Go.Proofs.Ytkgjikdkidjpjaa.Uc
