/- The document's clock, walked: Due, what is due. -/
import Derived.Test.YtkgjikdkidjpjaaUc
namespace Go.Proofs.Ytkgjikdkidjpjaa.Ud
set_option linter.unusedVariables false
set_option linter.unusedSimpArgs false
open Go.RowKit Go.Proofs.Ytkgjikdkidjpjaa.Wk Go.Proofs.Ytkgjikdkidjpjaa.Sp Go.Proofs.Ytkgjikdkidjpjaa.Sa Go.Proofs.Ytkgjikdkidjpjaa.Sb Go.Proofs.Ytkgjikdkidjpjaa.Sc Go.Proofs.Ytkgjikdkidjpjaa.Sd Go.Proofs.Ytkgjikdkidjpjaa.Sk Go.Proofs.Ytkgjikdkidjpjaa.Up Go.Proofs.Ytkgjikdkidjpjaa.Ua Go.Proofs.Ytkgjikdkidjpjaa.Ub Go.Proofs.Ytkgjikdkidjpjaa.Uc

theorem flat2_one : ∀ (l : List Ev) (u : Value), u ∈ flat2 l → u.oneCell' = true
  | [], u, h => by simp [flat2] at h
  | e :: r, u, h => by
    simp only [flat2, List.mem_cons] at h
    rcases h with rfl | rfl | h
    · rfl
    · rfl
    · exact flat2_one r u h
/-- The cells of the first j events, and of those behind j. -/
theorem cells_take {w : World} {g : Nat} {cur : Array Value} {l : List Ev} (hg : w.heap[g]? = some (.cells cur 28 (0, 0))) (ht : cur.toList.take (l.length * 2) = flat2 l) (j : Nat) :
    ∀ i u, (flat2 (l.take j))[i]? = some u → w.cell? ((⟨g, 0, none⟩ : Addr).add i) = some u := fun i u hu => by
  have e : (⟨g, 0, none⟩ : Addr).add i = ⟨g, i, none⟩ := by unfold Addr.add; split <;> simp_all
  rw [e, cellsAt hg]
  rw [flat2_take, ← ht, List.take_take, List.getElem?_take] at hu
  split at hu
  · simpa using hu
  · cases hu
theorem cells_drop {w : World} {g : Nat} {cur : Array Value} {l : List Ev} (hg : w.heap[g]? = some (.cells cur 28 (0, 0))) (ht : cur.toList.take (l.length * 2) = flat2 l) (j : Nat) (h0 : 0 < j) :
    ∀ i u, (flat2 (l.drop j))[i]? = some u → w.cell? ((⟨g, j * 2, none⟩ : Addr).add i) = some u := fun i u hu => by
  have e : (⟨g, j * 2, none⟩ : Addr).add i = ⟨g, j * 2 + i, none⟩ := by
    unfold Addr.add
    split <;> simp_all
  rw [e, cellsAt hg]
  rw [flat2_drop, ← ht, List.getElem?_drop, List.getElem?_take] at hu
  split at hu
  · simpa using hu
  · cases hu
/-- Behind the two appends, and the store. -/
theorem due_close {w W w1 w2 : World} {B mb : Nat} {now : Int} {v v2 : Value} {E E' : List Ev} {q : Option Addr} {n1 c1 : Nat} (R : RepM w B mb now v E) (BW : Below w.heap.size w W)
    (g1 : W.drew.grownBy w1 (Value.slice none 0 0).ownBlock) (o1 : (Value.slice q n1 c1).ownBlock = (Value.slice none 0 0).ownBlock ∨ (Value.slice q n1 c1).ownBlock = some W.heap.size)
    (g2 : w1.grownBy w2 (Value.slice q n1 c1).ownBlock) (o2 : v2.ownBlock = (Value.slice q n1 c1).ownBlock ∨ v2.ownBlock = some w1.heap.size)
    (hown : own2 w2 B v2 E') (hl : E'.length ≤ 16) : (RepM (w2.setCell ⟨mb, 1, none⟩ v2) B mb now v2 E' ∧ StepM w mb v (w2.setCell ⟨mb, 1, none⟩ v2) v2) ∧ (∀ g, v2.ownBlock = some g → W.heap.size ≤ g) ∧ ∀ k, k < W.heap.size → k ≠ mb → (w2.setCell ⟨mb, 1, none⟩ v2).heap[k]? = W.heap[k]? := by
  have F1 : Fr (fun _ => False) W w1 := ⟨g1.os, g1.tape, g1.output, g1.size, fun k hk _ => g1.block k hk (by simp [Value.ownBlock])⟩
  have far : ∀ g, (Value.slice q n1 c1).ownBlock = some g → W.heap.size ≤ g := fun g hg => by
    rcases o1 with e | e
    · rw [hg] at e; cases e
    · rw [hg] at e; cases e; exact Nat.le_refl _
  have F2 : Fr (fun k => W.heap.size ≤ k) w1 w2 := (Fr.of_grown g2).mono fun k hk _ => far k hk.symm
  have F12 : Fr (fun _ => False) W w2 := ⟨g2.os.trans F1.os, g2.tape.trans F1.tape, g2.output.trans F1.output, Nat.le_trans F1.size g2.size, fun k hk _ => (F2.block k (Nat.lt_of_lt_of_le hk F1.size) (by omega)).trans (F1.block k hk fun e => e)⟩
  have far2 : ∀ g, v2.ownBlock = some g → W.heap.size ≤ g := fun g hg => by
    have s1 := F1.size
    rcases o2 with e | e
    · rw [hg] at e; exact far g e.symm
    · rw [hg] at e; cases e; exact s1
  have hm := R.lt
  have bm := keep BW R.blk
  have h2 : w2.heap[mb]? = some (.cells #[.int .i64 now, v] 43 (0, 0)) := F12.keep bm fun e => e
  refine ⟨lay_close (E := E) R ((Fr.of_below BW).trans F12 fun k hk _ => hk.elim) h2 hown (fun g hg => .inr (Nat.le_trans BW.size (far2 g hg))) hl, far2, fun k hk hn => ?_⟩
  · have O := (Only.refl h2).set (j := 1) v2
    rw [O.block k (Nat.lt_of_lt_of_le hk F12.size) hn]
    exact F12.block k hk fun e => e
set_option maxHeartbeats 1000000 in
theorem mdue_some {w : World} {B mb : Nat} {now : Int} {v : Value} {E : List Ev} (h : RepM w B mb now v E) (j : Nat) (hj : j < E.length) (hf : firstGo E E.length = j) (hn : (at2 E j).1 ≤ now) :
    Calls Try.prog 18 #[.pointer (some ⟨mb, 0, none⟩)] w fun e w' => e = .returned (.tuple #[.agg #[.int .i64 (at2 E j).1, .int .i64 (at2 E j).2], .bool true]) ∧ MEnd w B mb now v (E.take j ++ E.drop (j + 1)) w' := by
  have A0 := alloc_new w (.cells #[.int .i64 0, .int .i64 0] 28)
  have B0 := bl w (.cells #[.int .i64 0, .int .i64 0] 28)
  have F := first_any (h.below B0)
  rw [hf] at F
  have FH := Lib.hid F
  have HH := Lib.hid h
  have e16 := h.len
  have t : decide ((j : Int) < 0) = false := decide_eq_false (by omega)
  have t2 : decide (now < (at2 E j).1) = false := decide_eq_false (by omega)
  have jl : (j : Int) < (E.length : Int) := by omega
  have j0 : (0 : Int) ≤ (j : Int) := by omega
  have rm : w.heap.size ≠ mb := by have := h.lt; omega
  clear F h hf
  obtain ⟨i0, hi, hz0, hz1, hz2⟩ := info_parts info28
  have Z0 := Lib.hid hz0
  have Z1 := Lib.hid hz1
  have Z2 := Lib.hid hz2
  have HI := Lib.hid hi
  clear hi hz0 hz1 hz2
  go_enter Try.func18, Try.ntmps18
  go_wp2_with fail
  generalize w.alloc (.cells #[.int .i64 0, .int .i64 0] 28) = W at *
  refine FH.out.mono ?_
  rintro e w1 ⟨rfl, hb⟩
  obtain ⟨g, cap, hv, hnc, hm, C1, C0, a0, a1, sm, sg⟩ := due_facts HH.out B0 hb hj
  have A1 := keep hb A0
  have B1 := below_then B0 hb B0.size
  have HV := Lib.hid hv
  have sr := sizeAt A1
  have cm : cap ≤ 9223372036854775807 := by unfold maxLen at hm; exact hm
  have A1H := Lib.hid A1
  have B1H := Lib.hid B1
  clear A0 B0 hb hm hv A1 B1
  obtain ⟨x1, hx1⟩ : ∃ x, (at2 E j).1 = x := ⟨_, rfl⟩
  obtain ⟨x2, hx2⟩ : ∃ x, (at2 E j).2 = x := ⟨_, rfl⟩
  rw [hx1] at a0 t2 hn
  rw [hx2] at a1
  have X1 := Lib.hid hx1
  have X2 := Lib.hid hx2
  clear hx1 hx2
  go_wp2
  go_quiet (fail)
  have D1 : (w1.drewN nq).cell? ⟨mb, 1, none⟩ = some (.slice (some ⟨g, 0, none⟩) E.length cap) := C1
  have D2 : (w1.drewN nq).cell? ⟨g, j * 2, none⟩ = some (.int .i64 x1) := a0
  have D3 : (w1.drewN nq).cell? ⟨g, j * 2 + 1, none⟩ = some (.int .i64 x2) := a1
  have D4 : mb < (w1.drewN nq).heap.size := sm
  have D5 : g < (w1.drewN nq).heap.size := sg
  have D6 := Lib.hid (drewN_heap nq A1H.out)
  have D7 := Lib.hid (below_dn B1H.out nq)
  clear C1 C0 a0 a1 sm sg sr A1H B1H
  generalize w1.drewN nq = u at *
  go_upto_region 5 with fail
  have R5 := HH.out.below (bl2 D7.out (.cells #[.int .i64 x1, .int .i64 x2] 28))
  have B5 := bl2 D7.out (.cells #[.int .i64 x1, .int .i64 x2] 28)
  have A5 := alloc_old (.cells #[.int .i64 x1, .int .i64 x2] 28) D6.out
  have T5 := alloc_new u (.cells #[.int .i64 x1, .int .i64 x2] 28)
  have u5 : u.heap.size ≠ mb := by omega
  have u6 : w.heap.size < u.heap.size := sizeAt D6.out
  clear D1 D2 D3 D4 D5 D6 D7
  generalize u.alloc (.cells #[.int .i64 x1, .int .i64 x2] 28) = Wn at *
  generalize u.heap.size = bt at *
  obtain ⟨g', cap', cur, hv', hB, hg, hnn, hm, hs, ht⟩ := own2_some R5.own (by omega)
  rw [HV.out] at hv'
  obtain ⟨rfl, rfl⟩ : g = g' ∧ cap = cap' := by simpa using hv'
  have K1 : Wn.cell? ⟨mb, 1, none⟩ = some (.slice (some ⟨g, 0, none⟩) E.length cap) := by rw [cellsAt R5.blk 1]; simp [HV.out]
  have K2 := Lib.hid (freeAt R5.blk 1)
  have K3 := sizeAt R5.blk
  have TK := Lib.hid (cells_take (drew_heap hg) ht j)
  have GH := Lib.hid hg
  have TH := Lib.hid ht
  have RH := Lib.hid R5
  have BH := Lib.hid B5
  have AH := Lib.hid A5
  have TT := Lib.hid T5
  have VV := HV.out
  have MX : Hid (0 + j ≤ maxLen) := Lib.hid (by unfold maxLen; omega)
  have BB : B ≤ Wn.heap.size := by have := R5.le; omega
  have q1' : IntKind.i64.wrap ((j : Int) + 1) = (j : Int) + 1 := by rw [IntKind.wrap_i64]; omega
  have q2' : (0 : Int) ≤ (j : Int) + 1 := by omega
  have q3' : (j : Int) + 1 ≤ (E.length : Int) := by omega
  have q4' : (j : Int) ≤ (cap : Int) := by omega
  have q5' : (E.length : Int) ≤ (cap : Int) := by omega
  clear R5 B5 A5 T5 hv' hB hg hm hs ht HV
  by_cases hc : cap = j + 1
  · have MY : Hid (j + 0 ≤ maxLen) := Lib.hid (by unfold maxLen; omega)
    have EL : Hid (E.length = j + 1) := Lib.hid (by omega)
    have EZ : E.length - (j + 1) = 0 := by omega
    have DZ : Hid (flat2 (E.drop (j + 1)) = []) := Lib.hid (by rw [List.drop_of_length_le (by omega)]; rfl)
    have EZH := Lib.hid EZ
    clear EZ
    subst hc
    have q6' : (j : Int) ≤ (j : Int) + 1 := by omega
    have q7' : (j : Int) + 1 ≤ (j : Int) + 1 := by omega
    have q8' : (E.length : Int) ≤ (j : Int) + 1 := by omega
    go_region_law (first
      | (refine step_append_any (by rfl) _ _ _ (by rfl) B 28 i0 _ 2 16 Try.underlying36 HI.out Z0.out Z1.out Z2.out rfl (by decide) (.slice none 0 0) 0 [] (by rfl) (World.ownsRow_nil _ _ _ _) ⟨g, 0, none⟩ j (j + 1) (flat2 (E.take j)) (by rfl) (by rw [flat2_length]; simp; omega) TK.out (flat2_one _) MX.out (by omega) (by simpa using BB) Wn.heap.size (by simp) ?_; intro v1 w3 hown1 hg1 hat1; simp only [Nat.zero_add, List.nil_append] at hown1; obtain ⟨s1, c1, rfl⟩ := rows_form hown1; have S1 : w3.cell? ⟨mb, 1, none⟩ = some (.slice (some ⟨g, 0, none⟩) E.length (j + 1)) := (hg1.cell_far ⟨mb, 1, none⟩ (by simpa using K3) (by simp [Value.ownBlock])).trans K1; have S2 := (hg1.frozen_far ⟨mb, 1, none⟩ (by simpa using K3) (by simp [Value.ownBlock])).trans K2.out; have S3 : w3.heap[g]? = some (.cells cur 28 (0, 0)) := by rw [hg1.block g (by simpa using sizeAt GH.out) (by simp [Value.ownBlock])]; exact GH.out)
      | (refine step_append_any (by rfl) _ _ _ (by rfl) B 28 i0 _ 2 16 Try.underlying36 HI.out Z0.out Z1.out Z2.out rfl (by decide) (.slice s1 j c1) j (flat2 (E.take j)) (by rfl) (by exact hown1) ⟨g, 0, none⟩ 0 0 [] (by rfl) (by rfl) (fun i u hu => by simp at hu) (fun u hu => by simp at hu) (MY.out) (by omega) (Nat.le_trans BB hg1.size) w3.heap.size rfl ?_; intro v2 w4 hown2 hg2 hat2; simp only [Nat.add_zero, List.append_nil] at hown2; obtain ⟨s2, c2, rfl⟩ := rows_form hown2; have ne2 : (Value.slice s1 j c1).ownBlock ≠ some mb := (fun e => by rcases hat1 with f | f; (rw [e] at f; cases f); (rw [e] at f; cases f; omega)); have T1 := (hg2.cell_far ⟨mb, 1, none⟩ (Nat.lt_of_lt_of_le K3 hg1.size) (fun e => ne2 e.symm)).trans S1; have T2 := (hg2.frozen_far ⟨mb, 1, none⟩ (Nat.lt_of_lt_of_le K3 hg1.size) (fun e => ne2 e.symm)).trans S2))
    all_goals
      have P := due_close (E := E) (E' := E.take j ++ E.drop (j + 1)) (v2 := .slice s2 j c2) HH.out BH.out hg1 hat1 hg2 hat2 (by unfold own2; rw [flat2_append, List.length_append, DZ.out, List.append_nil, List.length_take, List.length_drop, EZH.out, Nat.add_zero, Nat.min_eq_left (by omega)]; exact hown2) (by simp; omega)
      have K8 := Lib.hid ((P.2.2 bt (sizeAt TT.out) (fun e => u5 e)).trans TT.out)
      have K9 := Lib.hid ((P.2.2 w.heap.size (sizeAt AH.out) rm).trans AH.out)
      have P1 := Lib.hid P
      clear P T1 T2 S1 S2
      generalize w4.setCell ⟨mb, 1, none⟩ (.slice s2 j c2) = w5 at *
      have C8 := cellsAt K8.out
      have C9 := cellsAt K9.out
      have F9 := freeAt K9.out
      have O := ((Only.refl K9.out).set (j := 0) (.int .i64 x1)).set (j := 1) (.int .i64 x2)
      have CO := Lib.hid (cellsAt O.at_)
      have lw := Lib.hid (sizeAt AH.out)
      have ME : Hid (MEnd w B mb now v (E.take j ++ E.drop (j + 1)) _) := Lib.hid ⟨_, P1.out.1.1.keep (Fr.of_only O) (fun e => rm e.symm) (fun g hg e => by have := P1.out.2.1 g hg; have := lw.out; omega), P1.out.1.2.fr.trans (Fr.of_only O) fun k hk hlt => by omega, P1.out.1.2.own⟩
      clear O
      go_wp2
      have CO := CO.out
      rw [X1.out, X2.out]
      exact bodyPost_ret (v := .tuple #[.agg #[.int .i64 x1, .int .i64 x2], .bool true]) (by simp [results, Try.results18, go_sem, CO]) rfl ⟨rfl, ME.out⟩
  · have MY : Hid (j + (E.length - (j + 1)) ≤ maxLen) := Lib.hid (by unfold maxLen; omega)
    have hc' : ¬ (cap : Int) = (j : Int) + 1 := by omega
    go_region_law (first
      | (refine step_append_any (by rfl) _ _ _ (by rfl) B 28 i0 _ 2 16 Try.underlying36 HI.out Z0.out Z1.out Z2.out rfl (by decide) (.slice none 0 0) 0 [] (by rfl) (World.ownsRow_nil _ _ _ _) ⟨g, 0, none⟩ j cap (flat2 (E.take j)) (by rfl) (by rw [flat2_length]; simp; omega) TK.out (flat2_one _) MX.out (by omega) (by simpa using BB) Wn.heap.size (by simp) ?_; intro v1 w3 hown1 hg1 hat1; simp only [Nat.zero_add, List.nil_append] at hown1; obtain ⟨s1, c1, rfl⟩ := rows_form hown1; have S1 : w3.cell? ⟨mb, 1, none⟩ = some (.slice (some ⟨g, 0, none⟩) E.length cap) := (hg1.cell_far ⟨mb, 1, none⟩ (by simpa using K3) (by simp [Value.ownBlock])).trans K1; have S2 := (hg1.frozen_far ⟨mb, 1, none⟩ (by simpa using K3) (by simp [Value.ownBlock])).trans K2.out; have S3 : w3.heap[g]? = some (.cells cur 28 (0, 0)) := by rw [hg1.block g (by simpa using sizeAt GH.out) (by simp [Value.ownBlock])]; exact GH.out)
      | (refine step_append_any (by rfl) _ _ _ (by rfl) B 28 i0 _ 2 16 Try.underlying36 HI.out Z0.out Z1.out Z2.out rfl (by decide) (.slice s1 j c1) j (flat2 (E.take j)) (by rfl) (by exact hown1) ⟨g, (j + 1) * 2, none⟩ (E.length - (j + 1)) (cap - (j + 1)) (flat2 (E.drop (j + 1))) (by rfl) (by rw [flat2_length]; simp) (by exact cells_drop S3 TH.out (j + 1) (by omega)) (flat2_one _) (MY.out) (by omega) (Nat.le_trans BB hg1.size) w3.heap.size rfl ?_; intro v2 w4 hown2 hg2 hat2; obtain ⟨s2, c2, rfl⟩ := rows_form hown2; have ne2 : (Value.slice s1 j c1).ownBlock ≠ some mb := (fun e => by rcases hat1 with f | f; (rw [e] at f; cases f); (rw [e] at f; cases f; omega)); have T1 := (hg2.cell_far ⟨mb, 1, none⟩ (Nat.lt_of_lt_of_le K3 hg1.size) (fun e => ne2 e.symm)).trans S1; have T2 := (hg2.frozen_far ⟨mb, 1, none⟩ (Nat.lt_of_lt_of_le K3 hg1.size) (fun e => ne2 e.symm)).trans S2))
    all_goals
      have P := due_close (E := E) (E' := E.take j ++ E.drop (j + 1)) (v2 := .slice s2 (j + (E.length - (j + 1))) c2) HH.out BH.out hg1 hat1 hg2 hat2 (by unfold own2; rw [flat2_append, List.length_append, List.length_take, List.length_drop, Nat.min_eq_left (by omega)]; exact hown2) (by simp; omega)
      have K8 := Lib.hid ((P.2.2 bt (sizeAt TT.out) (fun e => u5 e)).trans TT.out)
      have K9 := Lib.hid ((P.2.2 w.heap.size (sizeAt AH.out) rm).trans AH.out)
      have P1 := Lib.hid P
      clear P T1 T2 S1 S2
      generalize w4.setCell ⟨mb, 1, none⟩ (.slice s2 (j + (E.length - (j + 1))) c2) = w5 at *
      have C8 := cellsAt K8.out
      have C9 := cellsAt K9.out
      have F9 := freeAt K9.out
      have O := ((Only.refl K9.out).set (j := 0) (.int .i64 x1)).set (j := 1) (.int .i64 x2)
      have CO := Lib.hid (cellsAt O.at_)
      have lw := Lib.hid (sizeAt AH.out)
      have ME : Hid (MEnd w B mb now v (E.take j ++ E.drop (j + 1)) _) := Lib.hid ⟨_, P1.out.1.1.keep (Fr.of_only O) (fun e => rm e.symm) (fun g hg e => by have := P1.out.2.1 g hg; have := lw.out; omega), P1.out.1.2.fr.trans (Fr.of_only O) fun k hk hlt => by omega, P1.out.1.2.own⟩
      clear O
      go_wp2
      have CO := CO.out
      rw [X1.out, X2.out]
      exact bodyPost_ret (v := .tuple #[.agg #[.int .i64 x1, .int .i64 x2], .bool true]) (by simp [results, Try.results18, go_sem, CO]) rfl ⟨rfl, ME.out⟩
end Go.Proofs.Ytkgjikdkidjpjaa.Ud
