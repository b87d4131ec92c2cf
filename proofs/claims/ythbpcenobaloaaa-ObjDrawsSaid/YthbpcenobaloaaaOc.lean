/- awake, walked. -/
import Derived.Test.YthbpcenobaloaaaOb
import Derived.Test.YthbpcenobaloaaaOa
import Derived.Test.YthbpcenobaloaaaNh
namespace Go.Proofs.Ythbpcenobaloaaa.Oc
set_option linter.unusedVariables false
set_option linter.unusedSimpArgs false
open Go.RowKit Go.Proofs.Ythbpcenobaloaaa.Bt Go.Proofs.Ythbpcenobaloaaa.Wk Go.Proofs.Ythbpcenobaloaaa.Sg Go.Proofs.Ythbpcenobaloaaa.Gp Go.Proofs.Ythbpcenobaloaaa.Gm Go.Proofs.Ythbpcenobaloaaa.Pp Go.Proofs.Ythbpcenobaloaaa.Pd Go.Proofs.Ythbpcenobaloaaa.Pg Go.Proofs.Ythbpcenobaloaaa.Pi Go.Proofs.Ythbpcenobaloaaa.Pj Go.Proofs.Ythbpcenobaloaaa.Hf Go.Proofs.Ythbpcenobaloaaa.Hl Go.Proofs.Ythbpcenobaloaaa.Oa Go.Proofs.Ythbpcenobaloaaa.Ob Go.Proofs.Ythbpcenobaloaaa.Nh

theorem eql_dot (c p c' p' : Int) (s s' : Bool) (w : World) (h : (c == c') = true) (h2 : (p == p') = true) (h3 : (s == s') = true) : (binOp .eql 45 (.agg #[.int .u16 c, .int .i64 p, .bool s]) (.agg #[.int .u16 c', .int .i64 p', .bool s'])).run Try.prog w = .ok (.bool true) w := by
  go_simp
theorem look_zero : ((cellsS sZ) ++ [Value.int .u32 0, Value.slice none dZ.N 0, Value.slice none dZ.M 0]).toArray = #[.int .u16 0, .int .u16 0, .int .u16 0, .int .u16 0, .int .u16 0, .int .u16 0, .int .u16 0, .int .u16 0, .int .u16 0, .int .u16 0, .int .u16 0, .int .u16 0, .int .u16 0, .int .i16 0, .int .i16 0, .int .i16 0, .int .i16 0, .int .i16 0, .int .i16 0, .int .i16 0, .int .i16 0, .int .i32 0, .int .i32 0, .int .i32 0, .int .i32 0, .int .u16 0, .slice none 0 0, .slice none 0 0, .slice none 0 0, .int .u32 0, .slice none 0 0, .slice none 0 0] := rfl
theorem lo_zero (w : World) : Lo w none none dZ := ⟨Nat.zero_le _, Nat.zero_le _, fun i hi => absurd hi (Nat.not_lt_zero _), fun i hi => absurd hi (Nat.not_lt_zero _), fun i hi => absurd hi (Nat.not_lt_zero _), fun i hi => absurd hi (Nat.not_lt_zero _)⟩
set_option maxRecDepth 1000000 in
set_option maxHeartbeats 8000000 in
theorem awake_any (w : World) : Calls Try.prog 7 #[] w fun e w' => e = .returned (.bool true) ∧ Below w.heap.size w w' := by
  go_enter Try.func7, Try.ntmps7
  go_wp2_with fail
  have FA := filled_any (w := w) sZ_ok 0 ⟨by decide, by decide⟩ none none 0 0 dZ _ rfl (lo_zero w)
  rw [look_zero] at FA
  refine FA.mono ?_
  clear FA
  rintro e w1 ⟨sb, bv, bq, bo, rfl, F⟩
  generalize ((cellsS sZ) ++ [Value.int .u32 0, Value.slice none dZ.N 0, Value.slice none dZ.M 0]) = L at F
  have BV := Lib.hid (bd_upto (bd_vrO 0) bd_zero 98304)
  have BQ := Lib.hid (bd_upto (bd_palF (x := 0) (by decide) (by decide)) bd_zero 1024)
  generalize uptoN (vrO 0) (fun _ => 0) 98304 = fv0 at F BV
  generalize uptoN (palF 0) (fun _ => 0) 1024 = fq0 at F BQ
  have C0 : w1.cell? ⟨sb, 0, none⟩ = some (.int .u16 0) := cellsAt F.at_ 0
  have FR := freeAt F.at_ 0
  have LS := sizeAt F.at_
  have F2 : Hid (Fil w L sb bv bq bo { sZ with ctl := 4096 } fv0 fq0 (oaU dZ 128) (w1.setCell ⟨sb, 0, none⟩ (.int .u16 4096))) := Lib.hid (Fil.set F rfl)
  clear F
  go_upto_region 3 with fail
  clear C0 FR LS
  generalize w1.setCell ⟨sb, 0, none⟩ (.int .u16 4096) = w2 at *
  have CO : w2.cell? ⟨sb, 28, none⟩ = some (.slice (some ⟨bo, 0, none⟩) 1024 1024) := cellsAt F2.out.at_ 28
  have LS := sizeAt F2.out.at_
  have LO := sizeAt F2.out.o
  have FR := freeAt F2.out.o 1
  have C1 : w2.cell? ⟨bo, 1, none⟩ = some (.int .u8 (oaU dZ 128 1)) := by rw [cellsAt F2.out.o]; exact bytes_at _ (by decide)
  have F3 : Hid (Fil w L sb bv bq bo { sZ with ctl := 4096 } fv0 fq0 oA (w2.setCell ⟨bo, 1, none⟩ (.int .u8 0))) := by
    have := F2.out.oam 1 0
    rw [oa_awake] at this
    exact Lib.hid this
  clear F2
  generalize oaU dZ 128 1 = x1 at *
  go_upto_block 0 with fail
  clear CO LS LO FR C1
  generalize w2.setCell ⟨bo, 1, none⟩ (.int .u8 0) = w3 at *
  have F30 : Hid (∃ fv, Fil w L sb bv bq bo { sZ with ctl := 4096 } fv fq0 oA w3 ∧ (∀ i, i < 0 → fv (65536 + i) = 17) ∧ Bd fv) := Lib.hid ⟨fv0, F3.out, fun i hi => absurd hi (Nat.not_lt_zero _), BV.out⟩
  clear F3
  go_cut [] (fun wx => Hid (∃ fv, Fil w L sb bv bq bo { sZ with ctl := 4096 } fv fq0 oA wx ∧ (∀ i, i < 32 → fv (65536 + i) = 17) ∧ Bd fv))
  case first =>
    go_wp2_with fail
    go_loopw [14] (fun iv wr => ∃ (n : Nat) (fv : Nat → Int), iv = .int .i64 n ∧ n ≤ 32 ∧ Fil w L sb bv bq bo { sZ with ctl := 4096 } fv fq0 oA wr ∧ (∀ i, i < n → fv (65536 + i) = 17) ∧ Bd fv) (fun iv _ => 32 - (intOf iv).toNat)
    case atStart =>
      obtain ⟨fv, F, h, b⟩ := F30.out
      exact ⟨0, fv, rfl, by omega, F, h, b⟩
    case round =>
      obtain ⟨n, fv, rfl, hn, F, hf, hbd⟩ := hrel
      clear F30
      by_cases hlt : n < 32
      · have tt : (n : Int) < 32 := by omega
        have n0 : (0 : Int) ≤ (n : Int) := by omega
        have CV : wr.cell? ⟨sb, 26, none⟩ = some (.slice (some ⟨bv, 0, none⟩) 98304 98304) := cellsAt F.at_ 26
        have LS := sizeAt F.at_
        have LV := sizeAt F.v
        have FR := freeAt F.v (65536 + n)
        have CC : wr.cell? ⟨bv, 65536 + n, none⟩ = some (.int .u8 (fv (65536 + n))) := by rw [cellsAt F.v]; exact bytes_at _ (by omega)
        have FN : Hid (Fil w L sb bv bq bo { sZ with ctl := 4096 } (upd fv (65536 + n) 17) fq0 oA (wr.setCell ⟨bv, 65536 + n, none⟩ (.int .u8 17))) := Lib.hid (F.vra (65536 + n) 17)
        have HN : Hid (∀ i, i < n + 1 → upd fv (65536 + n) 17 (65536 + i) = 17) := Lib.hid fun i hi => by
          by_cases e : i = n
          · rw [e, upd_same]
          · rw [upd_ne _ _ (by omega)]; exact hf i (by omega)
        have BN := Lib.hid (bd_upd hbd (65536 + n) (v := 17) (by decide) (by decide))
        clear F hf hlt hbd
        generalize fv (65536 + n) = x1 at *
        go_wp2_with fail
        exact ⟨⟨n + 1, _, by go_num, by omega, FN.out, HN.out, BN.out⟩, by simp [intOf]; omega⟩
      · have nn : n = 32 := by omega
        have tt : (32 : Int) ≤ (n : Int) := by omega
        have FE : Hid (∃ fv, Fil w L sb bv bq bo { sZ with ctl := 4096 } fv fq0 oA wr ∧ (∀ i, i < 32 → fv (65536 + i) = 17) ∧ Bd fv) := Lib.hid ⟨fv, F, by rw [nn] at hf; exact hf, hbd⟩
        clear F hf hlt nn hbd
        go_wp2_with fail
        go_meet
        case rel => exact FE
  case rest =>
    obtain ⟨fv, F, hf, hbd⟩ := hcut.out
    have ZK := Lib.hid (show Sok (zA bv bq bo fv (upd (upd fq0 514 52) 515 18) oA) from bd_ok (s := { sZ with ctl := 4096 }) { sZ_ok with c0 := by show (0 : Int) ≤ 4096; decide, c1 := by show (4096 : Int) < 65536; decide } hbd (bd_upd (bd_upd BQ.out 514 (v := 52) (by decide) (by decide)) 515 (v := 18) (by decide) (by decide)) bd_oA bv bq bo)
    have DA := Lib.hid (draw_awake (bv := bv) (bq := bq) (bo := bo) (fv := fv) (fq := upd (upd fq0 514 52) 515 18) hf (by rw [upd_ne _ _ (by decide), upd_same]) (upd_same _ _ _))
    clear hbd
    have FH := Lib.hid F
    have HF := Lib.hid hf
    clear hcut F30 hf
    generalize wc = w4 at *
    have CP : w4.cell? ⟨sb, 27, none⟩ = some (.slice (some ⟨bq, 0, none⟩) 1024 1024) := cellsAt F.at_ 27
    have LS := sizeAt F.at_
    have LQ := sizeAt F.q
    have FR := freeAt F.q
    have C4 : w4.cell? ⟨bq, 514, none⟩ = some (.int .u8 (fq0 514)) := by rw [cellsAt F.q]; exact bytes_at _ (by decide)
    have C5 : w4.cell? ⟨bq, 515, none⟩ = some (.int .u8 (fq0 515)) := by rw [cellsAt F.q]; exact bytes_at _ (by decide)
    have sq := F.sq
    have F5 : Hid (∀ q, Fil w L sb bv bq bo { sZ with ctl := 4096 } fv (upd (upd fq0 514 52) 515 18) oA (((w4.setCell ⟨bq, 514, none⟩ (.int .u8 52)).setCell ⟨bq, 515, none⟩ (.int .u8 18)).drewN q)) := Lib.hid fun q => ((F.pal 514 52).pal 515 18).drewN q
    have FR2 : ∀ k, (w4.setCell ⟨bq, 514, none⟩ (.int .u8 52)).frozen? ⟨bq, k, none⟩ = false := freeAt ((Only.refl F.q).set (j := 514) (.int .u8 52)).at_
    clear F
    generalize fq0 514 = x1 at *
    generalize fq0 515 = x2 at *
    go_upto_region 9 with fail
    go_region
    have F6 := Lib.hid (F5.out 1)
    change Hid (Fil w L sb bv bq bo { sZ with ctl := 4096 } fv (upd (upd fq0 514 52) 515 18) oA (((w4.setCell ⟨bq, 514, none⟩ (.int .u8 52)).setCell ⟨bq, 515, none⟩ (.int .u8 18)).drew)) at F6
    clear CP LS LQ FR C4 C5 sq F5 FR2 FH HF
    generalize ((w4.setCell ⟨bq, 514, none⟩ (.int .u8 52)).setCell ⟨bq, 515, none⟩ (.int .u8 18)).drew = w5 at *
    have S5 : Hid (Sn w5 sb 31 (zA bv bq bo fv (upd (upd fq0 514 52) 515 18) oA)) := Lib.hid (Hl.Fil.sn F6.out)
    have B5 := Lib.hid F6.out.be
    generalize zA bv bq bo fv (upd (upd fq0 514 52) 515 18) oA = z at *
    clear F6
    go_wp2_with fail
    refine (draw_any (.inr ⟨sb, rfl, S5.out, ZK.out⟩) 0).mono ?_
    rintro e w6 ⟨rfl, hb6⟩
    rw [show nilV (some ⟨sb, 0, none⟩) z 0 = drawF z 0 from rfl]
    obtain ⟨d7, d8, d0⟩ := DA.out
    have B6 := Lib.hid (below_then B5.out hb6 B5.out.size)
    clear hb6 S5 B5 DA
    generalize drawF z 0 = F at *
    unfold rowVal
    have ZL := zeroRow
    go_upto_region 11 with (refine wpList_store_row rfl 49 (.tmp 3) (.tmp 36) rfl w6.heap.size (rowC F).toArray rfl rfl 49 (rowC zeroD).toArray (alloc_new _ _) (info_rowC F) (by rw [row_size, row_size]) (row_one _) ?_; rw [alloc_setRow])
    clear ZL
    have R7 := alloc_new w6 (rowO F)
    have B7 := Lib.hid (B6.out.alloc B6.out.size (rowO F))
    generalize w6.alloc (rowO F) = w7 at *
    generalize w6.heap.size = rb at *
    have C7 : w7.cell? ⟨rb, 21, none⟩ = some (.int .u16 4660) := by rw [cellsAt R7]; exact (row_c F (x := 7) (by decide)).trans (by rw [d7])
    have C8 : w7.cell? ⟨rb, 22, none⟩ = some (.int .i64 0) := by rw [cellsAt R7]; exact (row_p F (x := 7) (by decide)).trans (by rw [d7])
    have C9 : w7.cell? ⟨rb, 23, none⟩ = some (.bool false) := by rw [cellsAt R7]; exact (row_s F (x := 7) (by decide)).trans (by rw [d7])
    have CA : w7.cell? ⟨rb, 24, none⟩ = some (.int .u16 32768) := by rw [cellsAt R7]; exact (row_c F (x := 8) (by decide)).trans (by rw [d8])
    have CW : w7.cell? ⟨rb, 720, none⟩ = some (.bool false) := by rw [cellsAt R7]; exact (row_w F (x := 0) (by decide)).trans (by rw [d0])
    have LR := sizeAt R7
    have EQ := fun w => eql_dot 4660 0 4660 0 false false w rfl rfl rfl
    clear R7 d7 d8 d0
    go_wp2_with fail
    go_ret
    exact ⟨rfl, B7.out⟩
end Go.Proofs.Ythbpcenobaloaaa.Oc
