/- same, walked. -/
import Derived.Test.YthbpcenobaloaaaHr
import Derived.Test.YthbpcenobaloaaaNg
import Derived.Test.YthbpcenobaloaaaPj
import Derived.Laws.StructEq
namespace Go.Proofs.Ythbpcenobaloaaa.Nh
set_option linter.unusedVariables false
set_option linter.unusedSimpArgs false
open Go.RowKit Go.Proofs.Ythbpcenobaloaaa.Bt Go.Proofs.Ythbpcenobaloaaa.Wk Go.Proofs.Ythbpcenobaloaaa.Sg Go.Proofs.Ythbpcenobaloaaa.Gp Go.Proofs.Ythbpcenobaloaaa.Gm Go.Proofs.Ythbpcenobaloaaa.Pp Go.Proofs.Ythbpcenobaloaaa.Pd Go.Proofs.Ythbpcenobaloaaa.Pg Go.Proofs.Ythbpcenobaloaaa.Pi Go.Proofs.Ythbpcenobaloaaa.Pj Go.Proofs.Ythbpcenobaloaaa.Hr Go.Proofs.Ythbpcenobaloaaa.Nd Go.Proofs.Ythbpcenobaloaaa.Ng Go.Proofs.Ythbpcenobaloaaa.Lp

theorem neq_dot (c p : Int) (s : Bool) (w : World) : (binOp .neq 45 (.agg #[.int .u16 c, .int .i64 p, .bool s]) (.agg #[.int .u16 c, .int .i64 p, .bool s])).run Try.prog w = .ok (.bool false) w := by
  go_simp
theorem list_mem (s : Sc) (line : Int) : ∀ (f i : Nat) (left : Int) (j : Nat), j ∈ listV s line f i left → hits s line j = true
  | 0, _, _, j, h => absurd h (by simp [listV])
  | f + 1, i, left, j, h => by
    cases hh : hits s line i
    · rw [list_miss hh] at h
      exact list_mem s line f _ _ j h
    · by_cases g : left - Pa.costV (spV s i) < 0
      · rw [list_stop hh g] at h
        exact absurd h (by simp)
      · rw [list_hit hh g] at h
        rcases List.mem_cons.1 h with e | e
        · rw [e]; exact hh
        · exact list_mem s line f _ _ j e
theorem list_len (s : Sc) (line : Int) : ∀ (f i : Nat) (left : Int), (listV s line f i left).length ≤ f
  | 0, _, _ => by simp [listV]
  | f + 1, i, left => by
    cases hh : hits s line i
    · rw [list_miss hh]
      have := list_len s line f (i + 1) left
      omega
    · by_cases g : left - Pa.costV (spV s i) < 0
      · rw [list_stop hh g]; simp
      · rw [list_hit hh g]
        have := list_len s line f (i + 1) (left - Pa.costV (spV s i))
        simp; omega
theorem sprites_mem {s : Sc} {line : Int} {i : Nat} (h : i ∈ spritesV s line) : hits s line i = true ∧ 0 ≤ line ∧ line < 160 := by
  unfold spritesV at h
  by_cases ho : onV s line
  · rw [if_pos ho] at h
    exact ⟨list_mem s line _ _ _ i h, ho.2.2.1, ho.2.2.2⟩
  · rw [if_neg ho] at h
    exact absurd h (by simp)
theorem sprites_len (s : Sc) (line : Int) : (spritesV s line).length ≤ 128 := by
  unfold spritesV
  split
  · exact list_len s line 128 0 _
  · simp
set_option maxRecDepth 1000000 in
set_option maxHeartbeats 16000000 in
theorem same_any {w : World} {sb : Nat} {T : TypeId} {s : Sc} (h : Sn w sb T s) (k : Sok s) (line : Int) :
    Calls Try.prog 8 #[.pointer (some ⟨sb, 0, none⟩), .int .i64 line] w fun e w' => e = .returned (.bool true) ∧ Below w.heap.size w w' := by
  have KH := Lib.hid k
  have SH := Lib.hid h
  clear h k
  go_enter Try.func8, Try.ntmps8
  go_wp2_with fail
  refine (ref_any SH.out).mono ?_
  rintro e w1 ⟨q, rfl, rfl⟩
  have S1 : Hid (Sn ((w.drewN q).alloc (.cells (cellsS s).toArray 68)) sb T s) := Lib.hid ((SH.out.drewN q).later ((Below.refl _ _).alloc (Nat.le_refl _) _))
  have M1 : Hid (Sn ((w.drewN q).alloc (.cells (cellsS s).toArray 68)) w.heap.size 68 s) := Lib.hid ⟨alloc_new (w.drewN q) _, S1.out.vr, S1.out.pa, S1.out.oa⟩
  have B1 : Hid (Below w.heap.size w ((w.drewN q).alloc (.cells (cellsS s).toArray 68))) := Lib.hid ((below_dn (Below.refl _ _) q).alloc (Nat.le_refl _) _)
  generalize (w.drewN q).alloc (.cells (cellsS s).toArray 68) = w1 at *
  go_wp2_with fail
  refine (draw_any (.inr ⟨sb, rfl, S1.out, KH.out⟩) line).mono ?_
  rintro e w2 ⟨rfl, hb2⟩
  have S2 := Lib.hid (S1.out.later hb2)
  have M2 := Lib.hid (M1.out.later hb2)
  have B2 := Lib.hid (below_then B1.out hb2 B1.out.size)
  clear hb2 S1 M1 B1
  go_wp2_with fail
  refine (ref_any S2.out).mono ?_
  rintro e w3 ⟨q, rfl, rfl⟩
  have b3 : Below w2.heap.size w2 ((w2.drewN q).alloc (.cells (cellsS s).toArray 68)) := (below_dn (Below.refl _ _) q).alloc (Nat.le_refl _) _
  have M3 : Hid (Sn ((w2.drewN q).alloc (.cells (cellsS s).toArray 68)) w.heap.size 68 s) := Lib.hid (M2.out.later b3)
  have X3 : Hid (Sn ((w2.drewN q).alloc (.cells (cellsS s).toArray 68)) w2.heap.size 68 s) := Lib.hid ⟨alloc_new (w2.drewN q) _, M3.out.vr, M3.out.pa, M3.out.oa⟩
  have B3 := Lib.hid (below_then B2.out b3 B2.out.size)
  clear b3 S2 M2 B2
  generalize (w2.drewN q).alloc (.cells (cellsS s).toArray 68) = w3 at *
  generalize w2.heap.size = xb at *
  go_wp2_with fail
  refine (list_any X3.out KH.out line).mono ?_
  rintro e w4 ⟨hb4, lv, rfl, ow⟩
  have M4 := Lib.hid (M3.out.later hb4)
  have B4 := Lib.hid (below_then B3.out hb4 B3.out.size)
  have O4 := Lib.hid ow
  clear hb4 ow X3 M3 B3
  obtain ⟨F, hF⟩ : ∃ F, drawF s line = F := ⟨_, rfl⟩
  have AT : Hid (∀ n, atV s line n (spritesV s line) = F n) := Lib.hid fun n => by rw [← hF, draw_at]
  rw [show nilV (some ⟨sb, 0, none⟩) s line = F from hF]
  clear hF
  unfold rowVal
  have ZL := zeroRow
  go_upto_block 0 with (refine wpList_store_row rfl 49 (.tmp 6) (.tmp 15) rfl w4.heap.size (rowC F).toArray rfl rfl 49 (rowC zeroD).toArray (alloc_new _ _) (info_rowC F) (by rw [row_size, row_size]) (row_one _) ?_; rw [alloc_setRow])
  clear ZL
  have b5 : Below w4.heap.size w4 (w4.alloc (rowO F)) := (Below.refl _ _).alloc (Nat.le_refl _) _
  have M5 := Lib.hid (M4.out.later b5)
  have B5 := Lib.hid (below_then B4.out b5 B4.out.size)
  have O5 := Lib.hid (own9_later O4.out b5)
  have R5 := Lib.hid (alloc_new w4 (rowO F))
  clear b5 M4 B4 O4
  generalize w4.alloc (rowO F) = w5 at *
  generalize w4.heap.size = rb at *
  have LM := Lib.hid (sprites_len s line)
  go_wp2_with fail
  go_loopw [20] (fun iv wr => ∃ (n : Nat), iv = .int .i64 n ∧ n ≤ 240 ∧ Below w5.heap.size w5 wr) (fun iv _ => 240 - (intOf iv).toNat)
  case atStart => exact ⟨0, rfl, by omega, Below.refl _ _⟩
  case round =>
    obtain ⟨n, rfl, hn, hb⟩ := hrel
    by_cases hlt : n < 240
    · have tt : decide ((n : Int) < 240) = true := by simp; omega
      have n0 : (0 : Int) ≤ (n : Int) := by omega
      have n1 : (n : Int) < 240 := by omega
      have HA := Lib.hid (at_any (M5.out.later hb) KH.out (own9_later O5.out hb) (fun i hi => sprites_mem hi) LM.out hlt)
      have HBH := Lib.hid hb
      clear hb hlt
      have ZL := zeroDt
      have EQ := Lib.hid (AT.out n)
      go_upto_region 7 with (first | (go_at_call 13; ((with_reducible refine HA.out.mono ?_); rintro e w6 ⟨rfl, hb6⟩; rw [EQ.out])) | (refine wpList_store_row rfl 56 (.tmp 9) (.tmp 29) rfl w6.heap.size (dotC (F n)).toArray rfl rfl 56 _ (alloc_new _ _) (info_d _) (d_size zeroDot _) (d_one _) ?_; rw [alloc_setRow]))
      clear ZL
      have b6 : Below w5.heap.size w5 (w6.alloc (dotO (F n))) := (below_then HBH.out hb6 HBH.out.size).alloc (below_then HBH.out hb6 HBH.out.size).size _
      have RR := keep b6 R5.out
      have D6 := alloc_new w6 (dotO (F n))
      have B6 := Lib.hid b6
      have hlt : n < 240 := by omega
      clear b6 hb6 HA HBH EQ AT
      generalize w6.alloc (dotO (F n)) = w7 at *
      generalize w6.heap.size = db at *
      have CCc := (cellsAt RR (n * 3)).trans (row_c F hlt)
      have CCp := (cellsAt RR (n * 3 + 1)).trans (row_p F hlt)
      have CCs := (cellsAt RR (n * 3 + 2)).trans (row_s F hlt)
      have CCw := (cellsAt RR (720 + n)).trans (row_w F hlt)
      have lr := sizeAt RR
      have D0 : w7.cell? ⟨db, 0, none⟩ = some (.int .u16 (F n).c) := cellsAt D6 0
      have D1 : w7.cell? ⟨db, 1, none⟩ = some (.int .i64 (F n).p) := cellsAt D6 1
      have D2 : w7.cell? ⟨db, 2, none⟩ = some (.bool (F n).s) := cellsAt D6 2
      have ld := sizeAt D6
      clear RR D6 hlt
      generalize F n = D at *
      obtain ⟨dc, dp, ds, dw⟩ := D
      dsimp only at CCc CCp CCs CCw D0 D1 D2 ⊢
      have NQ := fun w => neq_dot dc dp ds w
      go_quiet (fail)
      have B7 := Lib.hid (fun m => below_dn (below_dn B6.out nq) m)
      have B70 := Lib.hid (below_dn B6.out nq)
      generalize w7.drewN nq = w8 at *
      go_wp2_with fail
      exact ⟨⟨n + 1, by go_num, by omega, B70.out⟩, by simp [intOf]; omega⟩
    · have nn : n = 240 := by omega
      have tt : decide ((n : Int) < 240) = false := by simp; omega
      have HB := Lib.hid (below_then B5.out hb B5.out.size)
      clear nn hb hlt
      go_wp2_with fail
      go_ret
      exact ⟨rfl, HB.out⟩
end Go.Proofs.Ythbpcenobaloaaa.Nh
