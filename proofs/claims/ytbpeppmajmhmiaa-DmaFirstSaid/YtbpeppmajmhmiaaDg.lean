/- The tape, walked: Store behind Load, and alone. -/
import Derived.Test.YtbpeppmajmhmiaaDf
namespace Go.Proofs.Ytbpeppmajmhmiaa.Dg
set_option linter.unusedVariables false
set_option linter.unusedSimpArgs false
open Go.RowKit Go.Proofs.Ytbpeppmajmhmiaa.Bt Go.Proofs.Ytbpeppmajmhmiaa.Wk Go.Proofs.Ytbpeppmajmhmiaa.Sg Go.Proofs.Ytbpeppmajmhmiaa.Dp Go.Proofs.Ytbpeppmajmhmiaa.Fq Go.Proofs.Ytbpeppmajmhmiaa.Df

set_option maxHeartbeats 8000000 in
theorem store_to {w : World} {B tb : Nat} {pv wv : Value} {qs : List Pl} {r : Bool} {f t : Int} {ws : List Int} (ch a wd cl x : Int) (h : Tp w B tb pv wv (qs ++ [⟨ch, r, f, t, wd, cl⟩]) ws) (hl : ws.length = qs.length) (hn : qs.length ≤ 100000) :
    Calls Try.prog 51 #[.pointer (some ⟨tb, 0, none⟩), .int .i64 ch, .int .u32 a, .int .i64 wd, .int .i64 cl, .int .u32 x] w fun e w' => e = .returned (.tuple #[]) ∧ ∃ wv', TEnd w w' B tb pv wv pv wv' (qs ++ [⟨ch, r, f, a, wd, cl⟩]) (ws ++ [x]) := by
  obtain ⟨g, cap, cur, rfl, hB, hg, hc, hm, hs, ht⟩ := own_some h.op (by simp)
  obtain ⟨q, c, rfl⟩ := own_form h.ow
  have hl1 : (qs ++ [(⟨ch, r, f, t, wd, cl⟩ : Pl)]).length = qs.length + 1 := by simp
  have hlast : (qs ++ [(⟨ch, r, f, t, wd, cl⟩ : Pl)])[qs.length]'(by simp) = ⟨ch, r, f, t, wd, cl⟩ := by simp
  have c0 := own_cell (s := 6) (fun _ => rfl) hg ht (i := qs.length) (j := 0) (by simp) (by decide)
  have c4 := own_cell (s := 6) (fun _ => rfl) hg ht (i := qs.length) (j := 4) (by simp) (by decide)
  have c5 := own_cell (s := 6) (fun _ => rfl) hg ht (i := qs.length) (j := 5) (by simp) (by decide)
  have c3 := own_cell (s := 6) (fun _ => rfl) hg ht (i := qs.length) (j := 3) (by simp) (by decide)
  rw [hlast] at c0 c3 c4 c5
  clear hlast
  rw [hl1] at hc h
  have hq : qs.length = qs.length := rfl
  generalize hk : qs.length = n at *
  rw [hl] at h
  have E1 := to_close (a := a) h hk
  obtain ⟨i0, hi, hz0, hz1, hz2⟩ := info_parts info34
  have O := Lib.hid (E1.tape.ow.alloc (.cells #[.int .u32 x] 34))
  have N := (alloc_new (w.setCell ⟨g, n * 6 + 3, none⟩ (.int .u32 a)) (.cells #[.int .u32 x] 34))
  have A1 := alloc_old (.cells #[.int .u32 x] 34) E1.tape.blk
  have sz := h.lt
  have sg := sizeAt hg
  have C0 : w.cell? ⟨tb, 0, none⟩ = some (.slice (some ⟨g, 0, none⟩) (n + 1) cap) := cellsAt h.blk 0
  have C1 : w.cell? ⟨tb, 1, none⟩ = some (.slice q n c) := cellsAt h.blk 1
  have Fg := freeAt hg (n * 6 + 3)
  have D1 := cellsAt E1.tape.blk 1
  have G1 := freeAt E1.tape.blk 1
  have P1 := Lib.hid (cellsAt A1 1)
  have P2 := Lib.hid (freeAt A1 1)
  have hsz : (w.setCell ⟨g, n * 6 + 3, none⟩ (.int .u32 a)).heap.size = w.heap.size := by simp
  rw [hsz] at N
  have HE := Lib.hid E1
  have NH := Lib.hid N
  have HS := Lib.hid hsz
  have Z0 := Lib.hid hz0
  have Z1 := Lib.hid hz1
  have Z2 := Lib.hid hz2
  have HI := Lib.hid hi
  have mx : n + 1 ≤ maxLen := by unfold maxLen; omega
  have MX := Lib.hid mx
  have c1 : n + 1 ≤ cap := hc
  have c2 : (n : Int) < (cap : Int) := by omega
  have cm : cap ≤ 9223372036854775807 := by unfold maxLen at hm; exact hm
  have t0 : decide ((n : Int) < (n : Int) + 1) = true := decide_eq_true (by omega)
  have HK := Lib.hid hk
  clear h hg ht hs hB hm hc hl1 hq hz0 hz1 hz2 hi mx A1 E1 hk N hsz
  have d0 : w.cell? ⟨g, n * 6, none⟩ = some (.int .i64 ch) := c0
  have d4 : w.cell? ⟨g, n * 6 + 4, none⟩ = some (.int .i64 wd) := c4
  have d5 : w.cell? ⟨g, n * 6 + 5, none⟩ = some (.int .i64 cl) := c5
  have d3 : w.cell? ⟨g, n * 6 + 3, none⟩ = some (.int .u32 t) := c3
  clear c0 c3 c4 c5
  go_enter Try.func51, Try.ntmps51
  go_wp2_with (first | (at_builtin; go_loud (
    refine wpList_append_own_at _ rfl _ _ 27 rfl B 34 i0 _ 1 4 Try.underlying27 HI.out Z0.out Z1.out Z2.out rfl (by decide) (.slice q n c) n (flat encW ws) rfl (by have := O.out; rw [hl] at this; exact this) ⟨w.heap.size, 0, none⟩ 1 1 [.int .u32 x] rfl rfl (World.news_of_block NH.out) (by simp [Value.oneCell']) MX.out (by omega) (by have := HE.out.tape.le; simp; omega) ?_
    intro v' w1 hown1 hgrow hnil hat
    obtain ⟨q', c', rfl⟩ := rows_form hown1
    have S1 := (hgrow.cell_far ⟨tb, 1, none⟩ (by simp; omega) (fun e => HE.out.tape.nw e.symm)).trans P1.out
    have S2 := (hgrow.frozen_far ⟨tb, 1, none⟩ (by simp; omega) (fun e => HE.out.tape.nw e.symm)).trans P2.out
    have E := Lib.hid (HE.out.trans (wrote_close (x := x) (H := w.heap.size + 1) HE.out.tape (bl _ _) (by rw [HS.out]; exact Nat.le_succ _) hgrow (by rw [hl]; exact hown1) (by simpa using hat)))
    clear hown1 hgrow hat hnil)))
  go_end0
  refine ⟨rfl, ?_⟩
  rw [HK.out]
  exact ⟨_, E.out⟩
set_option maxHeartbeats 8000000 in
theorem store_add {w : World} {B tb : Nat} {pv wv : Value} {ps : List Pl} {ws : List Int} (ch a wd cl x : Int) (h : Tp w B tb pv wv ps ws) (hl : ws.length = ps.length) (hn : ps.length ≤ 100000) :
    Calls Try.prog 51 #[.pointer (some ⟨tb, 0, none⟩), .int .i64 ch, .int .u32 a, .int .i64 wd, .int .i64 cl, .int .u32 x] w fun e w' => e = .returned (.tuple #[]) ∧ ∃ pv' wv', TEnd w w' B tb pv wv pv' wv' (ps ++ [⟨ch, false, 0, a, wd, cl⟩]) (ws ++ [x]) := by
  obtain ⟨p, d, hp⟩ := own_form h.op
  obtain ⟨q, c, hq⟩ := own_form h.ow
  generalize hk : ps.length = n at *
  rw [hl] at hq
  subst hp
  subst hq
  obtain ⟨i0, hi, hz0, hz1, hz2⟩ := info_parts info36
  obtain ⟨j0, hj, hy0, hy1, hy2⟩ := info_parts info34
  have R := Lib.hid h
  have HK := Lib.hid hk
  have HL := Lib.hid hl
  have Z0 := Lib.hid hz0
  have Z1 := Lib.hid hz1
  have Z2 := Lib.hid hz2
  have HI := Lib.hid hi
  have Y0 := Lib.hid hy0
  have Y1 := Lib.hid hy1
  have Y2 := Lib.hid hy2
  have HJ := Lib.hid hj
  have mx : n + 1 ≤ maxLen := by unfold maxLen; omega
  have MX := Lib.hid mx
  have hlt : B ≤ w.heap.size := by have := h.le; have := h.lt; omega
  have C0 : w.cell? ⟨tb, 0, none⟩ = some (.slice p n d) := cellsAt h.blk 0
  have C1 : w.cell? ⟨tb, 1, none⟩ = some (.slice q n c) := cellsAt h.blk 1
  have t0 : decide ((n : Int) < (n : Int)) = false := decide_eq_false (by omega)
  have sz := h.lt
  have A2 := alloc_old (.cells #[.int .i64 ch, .bool false, .int .u32 0, .int .u32 a, .int .i64 wd, .int .i64 cl] 36) h.blk
  have P1 := Lib.hid (cellsAt A2 0)
  have P2 := Lib.hid (freeAt A2 0)
  have P3 := Lib.hid (cellsAt A2 1)
  have O := Lib.hid (h.op.alloc (.cells #[.int .i64 ch, .bool false, .int .u32 0, .int .u32 a, .int .i64 wd, .int .i64 cl] 36))
  have N := Lib.hid (alloc_new w (.cells #[.int .i64 ch, .bool false, .int .u32 0, .int .u32 a, .int .i64 wd, .int .i64 cl] 36))
  clear h hk hl hz0 hz1 hz2 hi hy0 hy1 hy2 hj mx A2
  go_enter Try.func51, Try.ntmps51
  go_wp2_with (first
    | (at_builtin; (
      refine wpList_append_own_at _ rfl _ _ 26 rfl B 36 i0 _ 6 40 Try.underlying26 HI.out Z0.out Z1.out Z2.out rfl (by decide) (.slice p n d) n (flat encP ps) rfl (by have := O.out; rw [HK.out] at this; exact this) ⟨w.heap.size, 0, none⟩ 1 1 [.int .i64 ch, .bool false, .int .u32 0, .int .u32 a, .int .i64 wd, .int .i64 cl] rfl rfl (World.news_of_block N.out) (by simp [Value.oneCell']) MX.out (by omega) (by simp; omega) ?_
      intro v' w1 hown1 hgrow hnil hat
      obtain ⟨q', c', rfl⟩ := rows_form hown1
      have S1 := (hgrow.cell_far ⟨tb, 0, none⟩ (by simp; omega) (fun e => R.out.np e.symm)).trans P1.out
      have S2 := (hgrow.frozen_far ⟨tb, 0, none⟩ (by simp; omega) (fun e => R.out.np e.symm)).trans P2.out
      have S3 := (hgrow.cell_far ⟨tb, 1, none⟩ (by simp; omega) (fun e => R.out.np e.symm)).trans P3.out
      have E := Lib.hid (load_close (p := ⟨ch, false, 0, a, wd, cl⟩) (H := w.heap.size + 1) R.out (bl _ _) (Nat.le_succ _) hgrow (by rw [HK.out]; exact hown1) (by simpa using hat))
      have s1 : w.heap.size ≤ w1.heap.size := by have := E.out.fr.size; simpa using this
      clear hown1 hgrow hat hnil C0 C1))
    | (at_builtin; go_loud (
      refine wpList_append_own_at _ rfl _ _ 27 rfl B 34 j0 _ 1 4 Try.underlying27 HJ.out Y0.out Y1.out Y2.out rfl (by decide) (.slice q n c) n (flat encW ws) rfl (by have := E.out.tape.ow.alloc (.cells #[.int .u32 x] 34); rw [HL.out] at this; exact this) ⟨w1.heap.size, 0, none⟩ 1 1 [.int .u32 x] rfl rfl (World.news_of_block (by simpa using alloc_new (w1.setCell ⟨tb, 0, none⟩ (.slice q' (n + 1) c')) (.cells #[.int .u32 x] 34))) (by simp [Value.oneCell']) MX.out (by omega) (by simp; omega) ?_
      intro v' w2 hown1 hgrow hnil hat
      obtain ⟨q2, c2, rfl⟩ := rows_form hown1
      have A3 := alloc_old (.cells #[.int .u32 x] 34) E.out.tape.blk
      have T1 := (hgrow.cell_far ⟨tb, 1, none⟩ (by simp; omega) (fun e => E.out.tape.nw e.symm)).trans (cellsAt A3 1)
      have T2 := (hgrow.frozen_far ⟨tb, 1, none⟩ (by simp; omega) (fun e => E.out.tape.nw e.symm)).trans (freeAt A3 1)
      have E2 := Lib.hid (E.out.trans (wrote_close (x := x) (H := w1.heap.size + 1) E.out.tape (bl _ _) (by simp) hgrow (by rw [HL.out]; exact hown1) (by simpa using hat)))
      clear hown1 hgrow hat hnil A3)))
  go_end0
  exact ⟨rfl, _, _, E2.out⟩
end Go.Proofs.Ytbpeppmajmhmiaa.Dg
