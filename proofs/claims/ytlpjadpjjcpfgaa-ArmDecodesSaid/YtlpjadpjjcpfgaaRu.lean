/- The document's Decode, walked. -/
import Derived.Test.YtlpjadpjjcpfgaaRz
import Derived.Test.YtlpjadpjjcpfgaaRv
import Derived.Deep.DeepCutAuto
namespace Go.Proofs.Ytlpjadpjjcpfgaa.Ru
set_option linter.unusedVariables false
set_option linter.unusedSimpArgs false
open Go.RowKit Go.Proofs.Ytlpjadpjjcpfgaa.Bt Go.Proofs.Ytlpjadpjjcpfgaa.Wk Go.Proofs.Ytlpjadpjjcpfgaa.Ra Go.Proofs.Ytlpjadpjjcpfgaa.Rp Go.Proofs.Ytlpjadpjjcpfgaa.Rb Go.Proofs.Ytlpjadpjjcpfgaa.Rx Go.Proofs.Ytlpjadpjjcpfgaa.Ry Go.Proofs.Ytlpjadpjjcpfgaa.Rz Go.Proofs.Ytlpjadpjjcpfgaa.Rv

theorem at_q (s : ByteArray) (i : Nat) (hi : i < s.size) (c : UInt8) : ((s[i].toNat : Int) == (c.toNat : Int)) = (s.data.toList[i]? == some c) := by
  have e : s.data.toList[i]? = some s[i] := by rw [List.getElem?_eq_getElem (by simpa using hi)]; rfl
  rw [e]
  by_cases h : s[i] = c
  · rw [h]; simp
  · rw [u8_ne h]; symm; simpa using h
set_option maxRecDepth 100000 in
set_option maxHeartbeats 40000000 in
theorem rdecode_any (x : Int) (h0 : 0 ≤ x) (h1 : x < 4294967296) (w : World) :
    Calls Try.prog 9 #[.int .u32 x] w fun e w' => e = .returned (.agg #[.int .i64 (refP x tblP).kd, .int .i64 (refP x tblP).cond, .int .i64 (refP x tblP).code, .bool (refP x tblP).flags, .int .i64 (refP x tblP).rd, .int .i64 (refP x tblP).rn, .int .i64 (refP x tblP).rs, .int .i64 (refP x tblP).rm, .int .u32 (refP x tblP).imm, .bool (refP x tblP).hasImm, .int .i64 (refP x tblP).shift, .int .i64 (refP x tblP).amount, .bool (refP x tblP).byReg, .bool (refP x tblP).load, .bool (refP x tblP).byte, .bool (refP x tblP).signed, .bool (refP x tblP).pre, .bool (refP x tblP).up, .bool (refP x tblP).back, .bool (refP x tblP).user, .int .i64 (refP x tblP).list, .bool (refP x tblP).link, .bool (refP x tblP).long, .bool (refP x tblP).align]) ∧ Below w.heap.size w w' := by
  generalize hR : refP x tblP = h
  have HR := Lib.hid hR
  clear hR
  go_enter Try.func9, Try.ntmps9
  go_upto_region 1 with fail
  have A1 := alloc_new w (.cells #[.int .i64 0, .int .i64 0, .int .i64 0, .bool false, .int .i64 0, .int .i64 0, .int .i64 0, .int .i64 0, .int .u32 0, .bool false, .int .i64 0, .int .i64 0, .bool false, .bool false, .bool false, .bool false, .bool false, .bool false, .bool false, .bool false, .int .i64 0, .bool false, .bool false, .bool false] 25)
  have hB : Below w.heap.size w (w.alloc (.cells #[.int .i64 0, .int .i64 0, .int .i64 0, .bool false, .int .i64 0, .int .i64 0, .int .i64 0, .int .i64 0, .int .u32 0, .bool false, .int .i64 0, .int .i64 0, .bool false, .bool false, .bool false, .bool false, .bool false, .bool false, .bool false, .bool false, .int .i64 0, .bool false, .bool false, .bool false] 25)) := (Below.refl _ _).alloc (Nat.le_refl _) _
  have S1 := sizeAt A1
  generalize w.alloc (.cells #[.int .i64 0, .int .i64 0, .int .i64 0, .bool false, .int .i64 0, .int .i64 0, .int .i64 0, .int .i64 0, .int .u32 0, .bool false, .int .i64 0, .int .i64 0, .bool false, .bool false, .bool false, .bool false, .bool false, .bool false, .bool false, .bool false, .int .i64 0, .bool false, .bool false, .bool false] 25) = W0 at *
  go_wp2_with fail
  refine (table_any _).mono ?_
  rintro e w1 ⟨rfl, rfl⟩
  have A1' := alloc_old (.cells TB 38) A1
  have AT := alloc_new W0 (.cells TB 38)
  have hB' := hB.alloc hB.size (.cells TB 38)
  have lt : w.heap.size < W0.heap.size := S1
  have S1' := sizeAt A1'
  have ST := sizeAt AT
  generalize W0.alloc (.cells TB 38) = W1 at *
  generalize W0.heap.size = bt at *
  have A1WH := Lib.hid A1'
  have ATWH := Lib.hid AT
  have hBWH := Lib.hid hB'
  clear A1 A1' AT hB hB' S1
  go_wp2
  go_loopw [4] (fun i wr => ∃ k : Nat, k ≤ 19 ∧ i = .int .i64 k ∧ refP x (tblP.drop k) = h ∧ Below W1.heap.size W1 wr) (fun i _ => 19 - (intOf i).toNat)
  case atStart => exact ⟨0, by omega, rfl, HR.out, Below.refl _ _⟩
  case round =>
    obtain ⟨k, hk, rfl, hr, hb⟩ := hrel
    have A1H := Lib.hid (keep hb A1WH.out)
    have ATH := Lib.hid (keep hb ATWH.out)
    have hzz := hb.size
    by_cases hlt : k < 19
    · obtain ⟨kd, s, ht, hs, c0, c1, hd⟩ := tsAt k hlt
      have dc : tblP.drop k = (kd, s.data.toList) :: tblP.drop (k + 1) := by
        rw [List.drop_eq_getElem_cons (by simp [tblP]; omega)]
        congr 1
        have := ht
        rw [List.getElem?_eq_getElem (by simp [tblP]; omega)] at this
        exact Option.some.inj this
      rw [dc] at hr
      unfold refP at hr
      have C0 : wr.cell? ⟨bt, k * 2, none⟩ = some (.int .i64 kd) := (cellsAt ATH.out (k * 2)).trans c0
      have C1 : wr.cell? ⟨bt, k * 2 + 1, none⟩ = some (.string s) := (cellsAt ATH.out (k * 2 + 1)).trans c1
      clear dc ht c0 c1
      have sz0 : bt < wr.heap.size := sizeAt ATH.out
      have FT := Lib.hid (fun w => fits_any s (by omega) x h0 h1 w)
      have CM := Lib.hid (fun w => common_any kd s (by omega) x h0 h1 w)
      have ckd : (commonP kd s.data.toList x).kd = kd := rfl
      have ql : 32 ≤ s.size := by omega
      have hsH := Lib.hid hs
      have hrH := Lib.hid hr
      clear hr hs
      generalize hf : fitsL s.data.toList x = bf at *
      have HF := Lib.hid hf
      clear hf
      cases bf
      · clear CM hd
        go_wp2_with (go_at_call 17; ((with_reducible refine (FT.out _).mono ?_); rintro e w' ⟨rfl, rfl⟩))
        go_roundw
        case rel => exact ⟨k + 1, by omega, by go_num, by have := hrH.out; simpa using this, hb⟩
        case measure => simp [intOf]; omega
      · have hr := hrH.out
        clear hrH
        rw [if_pos rfl] at hr
        unfold stepP at hr
        dsimp only at hr
        have ql' : s.size ≤ 32 := by have := hsH.out; omega
        generalize hcm : commonP kd s.data.toList x = cm at *
        have ckH := Lib.hid ckd
        clear ckd
        have hrH := Lib.hid hr
        clear hr
        obtain ⟨i0, i1⟩ : 0 ≤ cm.imm ∧ cm.imm < 4294967296 := by rw [← hcm]; exact F_bd s.data.toList x 73 (by simpa using ql')
        have G111 : Hid (∀ w, Calls Try.prog 19 #[.string s, .int .u32 x, .int .u8 111] w fun e w' => e = .returned (.int .i64 (F s.data.toList x 111)) ∧ w = w') := Lib.hid fun w => field_ref s 111 ql' x h0 h1 w
        have G72 : Hid (∀ w, Calls Try.prog 19 #[.string s, .int .u32 x, .int .u8 72] w fun e w' => e = .returned (.int .i64 (F s.data.toList x 72)) ∧ w = w') := Lib.hid fun w => field_ref s 72 ql' x h0 h1 w
        have G87 : Hid (∀ w, Calls Try.prog 20 #[.string s, .int .u32 x, .int .u8 87] w fun e w' => e = .returned (.bool (Rx.flag s.data.toList x 87)) ∧ w = w') := Lib.hid fun w => flag_ref s 87 ql' x h0 h1 w
        have q9 : ((s[9].toNat : Int) == 49) = (s.data.toList[9]? == some 49) := at_q s 9 (by omega) 49
        have q11 : ((s[11].toNat : Int) == 49) = (s.data.toList[11]? == some 49) := at_q s 11 (by omega) 49
        have q27 : ((s[27].toNat : Int) == 49) = (s.data.toList[27]? == some 49) := at_q s 27 (by omega) 49
        have q6 : ((s[6].toNat : Int) == 49) = (s.data.toList[6]? == some 49) := at_q s 6 (by omega) 49
        have q6z : ((s[6].toNat : Int) == 48) = (s.data.toList[6]? == some 48) := at_q s 6 (by omega) 48
        clear hcm
        generalize F s.data.toList x 111 = a111 at *
        generalize F s.data.toList x 72 = a72 at *
        generalize Rx.flag s.data.toList x 87 = b87 at *
        generalize (s.data.toList[9]? == some 49) = v9 at *
        generalize (s.data.toList[11]? == some 49) = v11 at *
        generalize (s.data.toList[27]? == some 49) = v27 at *
        generalize (s.data.toList[6]? == some 49) = v6 at *
        generalize (s.data.toList[6]? == some 48) = v6z at *
        go_wp2_with fail
        refine (FT.out _).mono ?_
        rintro e w' ⟨rfl, rfl⟩
        go_wp2_with fail
        refine (CM.out _).mono ?_
        rintro e w2 ⟨rfl, hb2⟩
        have A1 := keep hb2 A1H.out
        have hB := below_then hb hb2 hb.size
        clear A1H ATH hb2 C0 C1 CM FT
        go_wp2_with (refine wpList_store_row rfl 25 (.tmp 6) (.tmp 31) rfl w2.heap.size _ rfl rfl 25 _ (alloc_new _ _) info25 rfl (by simp [Value.oneCell']) ?_; rw [Rg.alloc_setRow])
        have A1H := Lib.hid (alloc_old (.cells #[.int .i64 cm.kd, .int .i64 cm.cond, .int .i64 cm.code, .bool cm.flags, .int .i64 cm.rd, .int .i64 cm.rn, .int .i64 cm.rs, .int .i64 cm.rm, .int .u32 cm.imm, .bool cm.hasImm, .int .i64 cm.shift, .int .i64 cm.amount, .bool cm.byReg, .bool cm.load, .bool cm.byte, .bool cm.signed, .bool cm.pre, .bool cm.up, .bool cm.back, .bool cm.user, .int .i64 cm.list, .bool cm.link, .bool cm.long, .bool cm.align] 25) A1)
        have A2H := Lib.hid (alloc_new w2 (.cells #[.int .i64 cm.kd, .int .i64 cm.cond, .int .i64 cm.code, .bool cm.flags, .int .i64 cm.rd, .int .i64 cm.rn, .int .i64 cm.rs, .int .i64 cm.rm, .int .u32 cm.imm, .bool cm.hasImm, .int .i64 cm.shift, .int .i64 cm.amount, .bool cm.byReg, .bool cm.load, .bool cm.byte, .bool cm.signed, .bool cm.pre, .bool cm.up, .bool cm.back, .bool cm.user, .int .i64 cm.list, .bool cm.link, .bool cm.long, .bool cm.align] 25))
        have hBH := Lib.hid (hB.alloc hB.size (.cells #[.int .i64 cm.kd, .int .i64 cm.cond, .int .i64 cm.code, .bool cm.flags, .int .i64 cm.rd, .int .i64 cm.rn, .int .i64 cm.rs, .int .i64 cm.rm, .int .u32 cm.imm, .bool cm.hasImm, .int .i64 cm.shift, .int .i64 cm.amount, .bool cm.byReg, .bool cm.load, .bool cm.byte, .bool cm.signed, .bool cm.pre, .bool cm.up, .bool cm.back, .bool cm.user, .int .i64 cm.list, .bool cm.link, .bool cm.long, .bool cm.align] 25))
        have hb2s : W1.heap.size ≤ w2.heap.size := hB.size
        have sz := sizeAt A2H.out
        clear A1 hB
        generalize w2.alloc (.cells #[.int .i64 cm.kd, .int .i64 cm.cond, .int .i64 cm.code, .bool cm.flags, .int .i64 cm.rd, .int .i64 cm.rn, .int .i64 cm.rs, .int .i64 cm.rm, .int .u32 cm.imm, .bool cm.hasImm, .int .i64 cm.shift, .int .i64 cm.amount, .bool cm.byReg, .bool cm.load, .bool cm.byte, .bool cm.signed, .bool cm.pre, .bool cm.up, .bool cm.back, .bool cm.user, .int .i64 cm.list, .bool cm.link, .bool cm.long, .bool cm.align] 25) = W at *
        generalize w2.heap.size = b2 at *
        have C := cellsAt A2H.out
        have Fz := freeAt A2H.out
        refine (G111.out _).mono ?_
        rintro e w' ⟨rfl, rfl⟩
        rcases hd with rfl | rfl | rfl | rfl | rfl | rfl | ⟨e6, e7, e8, e1, e12, e9⟩
        · have t6 : (cm.kd == 6) = true := by rw [ckH.out]; rfl
          cases b87
          · go_upto_region 12 with (go_at_call 20; ((with_reducible refine (G87.out _).mono ?_); rintro e w' ⟨rfl, rfl⟩))
            have A1H1 := Lib.hid (set_ne (b := w.heap.size) (c := b2) (j := 18) (.bool (!cm.pre)) (by omega) A1H.out)
            have A2H1 : Hid ((W.setCell ⟨b2, 18, none⟩ (.bool (!cm.pre))).heap[b2]? = some (.cells #[.int .i64 cm.kd, .int .i64 cm.cond, .int .i64 cm.code, .bool cm.flags, .int .i64 cm.rd, .int .i64 cm.rn, .int .i64 cm.rs, .int .i64 cm.rm, .int .u32 cm.imm, .bool cm.hasImm, .int .i64 cm.shift, .int .i64 cm.amount, .bool cm.byReg, .bool cm.load, .bool cm.byte, .bool cm.signed, .bool cm.pre, .bool cm.up, .bool (!cm.pre), .bool cm.user, .int .i64 cm.list, .bool cm.link, .bool cm.long, .bool cm.align] 25)) := Lib.hid (set_at (j := 18) (.bool (!cm.pre)) A2H.out)
            have hBH1 := Lib.hid (hBH.out.setCell (p := ⟨b2, 18, none⟩) (by exact hb2s) (.bool (!cm.pre)))
            clear A1H A2H hBH C Fz
            have sz1 : b2 < (W.setCell ⟨b2, 18, none⟩ (.bool (!cm.pre))).heap.size := sizeAt A2H1.out
            generalize W.setCell ⟨b2, 18, none⟩ (.bool (!cm.pre)) = W1 at *
            have C := cellsAt A2H1.out
            have Fz := freeAt A2H1.out
            go_upto_region 13 with fail
            have A1H2 := Lib.hid (set_ne (b := w.heap.size) (c := b2) (j := 9) (.bool v9) (by omega) A1H1.out)
            have A2H2 : Hid ((W1.setCell ⟨b2, 9, none⟩ (.bool v9)).heap[b2]? = some (.cells #[.int .i64 cm.kd, .int .i64 cm.cond, .int .i64 cm.code, .bool cm.flags, .int .i64 cm.rd, .int .i64 cm.rn, .int .i64 cm.rs, .int .i64 cm.rm, .int .u32 cm.imm, .bool v9, .int .i64 cm.shift, .int .i64 cm.amount, .bool cm.byReg, .bool cm.load, .bool cm.byte, .bool cm.signed, .bool cm.pre, .bool cm.up, .bool (!cm.pre), .bool cm.user, .int .i64 cm.list, .bool cm.link, .bool cm.long, .bool cm.align] 25)) := Lib.hid (set_at (j := 9) (.bool v9) A2H1.out)
            have hBH2 := Lib.hid (hBH1.out.setCell (p := ⟨b2, 9, none⟩) (by exact hb2s) (.bool v9))
            clear A1H1 A2H1 hBH1 C Fz
            have sz2 : b2 < (W1.setCell ⟨b2, 9, none⟩ (.bool v9)).heap.size := sizeAt A2H2.out
            generalize W1.setCell ⟨b2, 9, none⟩ (.bool v9) = W2 at *
            have C := cellsAt A2H2.out
            have Fz := freeAt A2H2.out
            go_upto_region 14 with fail
            have A1H3 := Lib.hid (set_ne (b := w.heap.size) (c := b2) (j := 13) (.bool v11) (by omega) A1H2.out)
            have A2H3 : Hid ((W2.setCell ⟨b2, 13, none⟩ (.bool v11)).heap[b2]? = some (.cells #[.int .i64 cm.kd, .int .i64 cm.cond, .int .i64 cm.code, .bool cm.flags, .int .i64 cm.rd, .int .i64 cm.rn, .int .i64 cm.rs, .int .i64 cm.rm, .int .u32 cm.imm, .bool v9, .int .i64 cm.shift, .int .i64 cm.amount, .bool cm.byReg, .bool v11, .bool cm.byte, .bool cm.signed, .bool cm.pre, .bool cm.up, .bool (!cm.pre), .bool cm.user, .int .i64 cm.list, .bool cm.link, .bool cm.long, .bool cm.align] 25)) := Lib.hid (set_at (j := 13) (.bool v11) A2H2.out)
            have hBH3 := Lib.hid (hBH2.out.setCell (p := ⟨b2, 13, none⟩) (by exact hb2s) (.bool v11))
            clear A1H2 A2H2 hBH2 C Fz
            have sz3 : b2 < (W2.setCell ⟨b2, 13, none⟩ (.bool v11)).heap.size := sizeAt A2H3.out
            generalize W2.setCell ⟨b2, 13, none⟩ (.bool v11) = W3 at *
            have C := cellsAt A2H3.out
            have Fz := freeAt A2H3.out
            go_upto_region 15 with fail
            have A1H4 := Lib.hid (set_ne (b := w.heap.size) (c := b2) (j := 2) (.int .i64 1) (by omega) A1H3.out)
            have A2H4 : Hid ((W3.setCell ⟨b2, 2, none⟩ (.int .i64 1)).heap[b2]? = some (.cells #[.int .i64 cm.kd, .int .i64 cm.cond, .int .i64 1, .bool cm.flags, .int .i64 cm.rd, .int .i64 cm.rn, .int .i64 cm.rs, .int .i64 cm.rm, .int .u32 cm.imm, .bool v9, .int .i64 cm.shift, .int .i64 cm.amount, .bool cm.byReg, .bool v11, .bool cm.byte, .bool cm.signed, .bool cm.pre, .bool cm.up, .bool (!cm.pre), .bool cm.user, .int .i64 cm.list, .bool cm.link, .bool cm.long, .bool cm.align] 25)) := Lib.hid (set_at (j := 2) (.int .i64 1) A2H3.out)
            have hBH4 := Lib.hid (hBH3.out.setCell (p := ⟨b2, 2, none⟩) (by exact hb2s) (.int .i64 1))
            clear A1H3 A2H3 hBH3 C Fz
            have sz4 : b2 < (W3.setCell ⟨b2, 2, none⟩ (.int .i64 1)).heap.size := sizeAt A2H4.out
            generalize W3.setCell ⟨b2, 2, none⟩ (.int .i64 1) = W4 at *
            have C := cellsAt A2H4.out
            have Fz := freeAt A2H4.out
            cases v11
            · go_upto_region 34 with fail
              have S1 := sizeAt A1H4.out
              go_wp2_with (first | (refine wpList_load_row rfl 25 (.tmp 6) rfl b2 rfl 25 _ (0, 0) _ A2H4.out Try.underlying25 rfl info25 ?_) | (refine wpList_store_row rfl 25 (.tmp 2) (.tmp 129) rfl (w.heap.size) _ rfl rfl 25 _ A1H4.out info25 rfl (by simp [Value.oneCell']) ?_))
              have hh := hrH.out
              simp at hh
              subst hh
              exact bodyPost_ret (results_cell_row rfl _ _ w.heap.size 25 _ _ _ rfl (setRow_heap _ _ _ _ _ _ A1H4.out) Try.underlying25 rfl info25) rfl ⟨rfl, below_only (hBWH.out.trans (hBH4.out.mono hBWH.out.size)) (Only.setRow (Only.refl A1H4.out)) (by omega) (by have := hBH4.out.size; have := hBWH.out.size; omega)⟩
            · go_upto_region 17 with (go_at_call 19; ((with_reducible refine (G72.out _).mono ?_); rintro e w' ⟨rfl, rfl⟩))
              have A1H5 := Lib.hid (set_ne (b := w.heap.size) (c := b2) (j := 2) (.int .i64 a72) (by omega) A1H4.out)
              have A2H5 : Hid ((W4.setCell ⟨b2, 2, none⟩ (.int .i64 a72)).heap[b2]? = some (.cells #[.int .i64 cm.kd, .int .i64 cm.cond, .int .i64 a72, .bool cm.flags, .int .i64 cm.rd, .int .i64 cm.rn, .int .i64 cm.rs, .int .i64 cm.rm, .int .u32 cm.imm, .bool v9, .int .i64 cm.shift, .int .i64 cm.amount, .bool cm.byReg, .bool true, .bool cm.byte, .bool cm.signed, .bool cm.pre, .bool cm.up, .bool (!cm.pre), .bool cm.user, .int .i64 cm.list, .bool cm.link, .bool cm.long, .bool cm.align] 25)) := Lib.hid (set_at (j := 2) (.int .i64 a72) A2H4.out)
              have hBH5 := Lib.hid (hBH4.out.setCell (p := ⟨b2, 2, none⟩) (by exact hb2s) (.int .i64 a72))
              clear A1H4 A2H4 hBH4 C Fz
              have sz5 : b2 < (W4.setCell ⟨b2, 2, none⟩ (.int .i64 a72)).heap.size := sizeAt A2H5.out
              generalize W4.setCell ⟨b2, 2, none⟩ (.int .i64 a72) = W5 at *
              have C := cellsAt A2H5.out
              have Fz := freeAt A2H5.out
              by_cases z : a72 = 0
              · have zt : (a72 == 0) = true := by simpa using z
                have hrK := Lib.hid (show refP x (List.drop (k + 1) tblP) = h by have := hrH.out; simpa [z] using this)
                clear z hrH
                go_wp2
                go_roundw
                case rel => exact ⟨k + 1, by omega, by go_num, by have := hrK.out; simpa using this, hBH5.out⟩
                case measure => simp [intOf]; omega
              · have zt : (a72 == 0) = false := by simpa using z
                have ZH := Lib.hid z
                clear z
                go_upto_region 34 with fail
                have S1 := sizeAt A1H5.out
                go_wp2_with (first | (refine wpList_load_row rfl 25 (.tmp 6) rfl b2 rfl 25 _ (0, 0) _ A2H5.out Try.underlying25 rfl info25 ?_) | (refine wpList_store_row rfl 25 (.tmp 2) (.tmp 129) rfl (w.heap.size) _ rfl rfl 25 _ A1H5.out info25 rfl (by simp [Value.oneCell']) ?_))
                have hh := hrH.out
                simp [ZH.out] at hh
                subst hh
                exact bodyPost_ret (results_cell_row rfl _ _ w.heap.size 25 _ _ _ rfl (setRow_heap _ _ _ _ _ _ A1H5.out) Try.underlying25 rfl info25) rfl ⟨rfl, below_only (hBWH.out.trans (hBH5.out.mono hBWH.out.size)) (Only.setRow (Only.refl A1H5.out)) (by omega) (by have := hBH5.out.size; have := hBWH.out.size; omega)⟩
          · go_upto_region 12 with (go_at_call 20; ((with_reducible refine (G87.out _).mono ?_); rintro e w' ⟨rfl, rfl⟩))
            have A1H1 := Lib.hid (set_ne (b := w.heap.size) (c := b2) (j := 18) (.bool true) (by omega) A1H.out)
            have A2H1 : Hid ((W.setCell ⟨b2, 18, none⟩ (.bool true)).heap[b2]? = some (.cells #[.int .i64 cm.kd, .int .i64 cm.cond, .int .i64 cm.code, .bool cm.flags, .int .i64 cm.rd, .int .i64 cm.rn, .int .i64 cm.rs, .int .i64 cm.rm, .int .u32 cm.imm, .bool cm.hasImm, .int .i64 cm.shift, .int .i64 cm.amount, .bool cm.byReg, .bool cm.load, .bool cm.byte, .bool cm.signed, .bool cm.pre, .bool cm.up, .bool true, .bool cm.user, .int .i64 cm.list, .bool cm.link, .bool cm.long, .bool cm.align] 25)) := Lib.hid (set_at (j := 18) (.bool true) A2H.out)
            have hBH1 := Lib.hid (hBH.out.setCell (p := ⟨b2, 18, none⟩) (by exact hb2s) (.bool true))
            clear A1H A2H hBH C Fz
            have sz1 : b2 < (W.setCell ⟨b2, 18, none⟩ (.bool true)).heap.size := sizeAt A2H1.out
            generalize W.setCell ⟨b2, 18, none⟩ (.bool true) = W1 at *
            have C := cellsAt A2H1.out
            have Fz := freeAt A2H1.out
            go_upto_region 13 with fail
            have A1H2 := Lib.hid (set_ne (b := w.heap.size) (c := b2) (j := 9) (.bool v9) (by omega) A1H1.out)
            have A2H2 : Hid ((W1.setCell ⟨b2, 9, none⟩ (.bool v9)).heap[b2]? = some (.cells #[.int .i64 cm.kd, .int .i64 cm.cond, .int .i64 cm.code, .bool cm.flags, .int .i64 cm.rd, .int .i64 cm.rn, .int .i64 cm.rs, .int .i64 cm.rm, .int .u32 cm.imm, .bool v9, .int .i64 cm.shift, .int .i64 cm.amount, .bool cm.byReg, .bool cm.load, .bool cm.byte, .bool cm.signed, .bool cm.pre, .bool cm.up, .bool true, .bool cm.user, .int .i64 cm.list, .bool cm.link, .bool cm.long, .bool cm.align] 25)) := Lib.hid (set_at (j := 9) (.bool v9) A2H1.out)
            have hBH2 := Lib.hid (hBH1.out.setCell (p := ⟨b2, 9, none⟩) (by exact hb2s) (.bool v9))
            clear A1H1 A2H1 hBH1 C Fz
            have sz2 : b2 < (W1.setCell ⟨b2, 9, none⟩ (.bool v9)).heap.size := sizeAt A2H2.out
            generalize W1.setCell ⟨b2, 9, none⟩ (.bool v9) = W2 at *
            have C := cellsAt A2H2.out
            have Fz := freeAt A2H2.out
            go_upto_region 14 with fail
            have A1H3 := Lib.hid (set_ne (b := w.heap.size) (c := b2) (j := 13) (.bool v11) (by omega) A1H2.out)
            have A2H3 : Hid ((W2.setCell ⟨b2, 13, none⟩ (.bool v11)).heap[b2]? = some (.cells #[.int .i64 cm.kd, .int .i64 cm.cond, .int .i64 cm.code, .bool cm.flags, .int .i64 cm.rd, .int .i64 cm.rn, .int .i64 cm.rs, .int .i64 cm.rm, .int .u32 cm.imm, .bool v9, .int .i64 cm.shift, .int .i64 cm.amount, .bool cm.byReg, .bool v11, .bool cm.byte, .bool cm.signed, .bool cm.pre, .bool cm.up, .bool true, .bool cm.user, .int .i64 cm.list, .bool cm.link, .bool cm.long, .bool cm.align] 25)) := Lib.hid (set_at (j := 13) (.bool v11) A2H2.out)
            have hBH3 := Lib.hid (hBH2.out.setCell (p := ⟨b2, 13, none⟩) (by exact hb2s) (.bool v11))
            clear A1H2 A2H2 hBH2 C Fz
            have sz3 : b2 < (W2.setCell ⟨b2, 13, none⟩ (.bool v11)).heap.size := sizeAt A2H3.out
            generalize W2.setCell ⟨b2, 13, none⟩ (.bool v11) = W3 at *
            have C := cellsAt A2H3.out
            have Fz := freeAt A2H3.out
            go_upto_region 15 with fail
            have A1H4 := Lib.hid (set_ne (b := w.heap.size) (c := b2) (j := 2) (.int .i64 1) (by omega) A1H3.out)
            have A2H4 : Hid ((W3.setCell ⟨b2, 2, none⟩ (.int .i64 1)).heap[b2]? = some (.cells #[.int .i64 cm.kd, .int .i64 cm.cond, .int .i64 1, .bool cm.flags, .int .i64 cm.rd, .int .i64 cm.rn, .int .i64 cm.rs, .int .i64 cm.rm, .int .u32 cm.imm, .bool v9, .int .i64 cm.shift, .int .i64 cm.amount, .bool cm.byReg, .bool v11, .bool cm.byte, .bool cm.signed, .bool cm.pre, .bool cm.up, .bool true, .bool cm.user, .int .i64 cm.list, .bool cm.link, .bool cm.long, .bool cm.align] 25)) := Lib.hid (set_at (j := 2) (.int .i64 1) A2H3.out)
            have hBH4 := Lib.hid (hBH3.out.setCell (p := ⟨b2, 2, none⟩) (by exact hb2s) (.int .i64 1))
            clear A1H3 A2H3 hBH3 C Fz
            have sz4 : b2 < (W3.setCell ⟨b2, 2, none⟩ (.int .i64 1)).heap.size := sizeAt A2H4.out
            generalize W3.setCell ⟨b2, 2, none⟩ (.int .i64 1) = W4 at *
            have C := cellsAt A2H4.out
            have Fz := freeAt A2H4.out
            cases v11
            · go_upto_region 34 with fail
              have S1 := sizeAt A1H4.out
              go_wp2_with (first | (refine wpList_load_row rfl 25 (.tmp 6) rfl b2 rfl 25 _ (0, 0) _ A2H4.out Try.underlying25 rfl info25 ?_) | (refine wpList_store_row rfl 25 (.tmp 2) (.tmp 129) rfl (w.heap.size) _ rfl rfl 25 _ A1H4.out info25 rfl (by simp [Value.oneCell']) ?_))
              have hh := hrH.out
              simp at hh
              subst hh
              exact bodyPost_ret (results_cell_row rfl _ _ w.heap.size 25 _ _ _ rfl (setRow_heap _ _ _ _ _ _ A1H4.out) Try.underlying25 rfl info25) rfl ⟨rfl, below_only (hBWH.out.trans (hBH4.out.mono hBWH.out.size)) (Only.setRow (Only.refl A1H4.out)) (by omega) (by have := hBH4.out.size; have := hBWH.out.size; omega)⟩
            · go_upto_region 17 with (go_at_call 19; ((with_reducible refine (G72.out _).mono ?_); rintro e w' ⟨rfl, rfl⟩))
              have A1H5 := Lib.hid (set_ne (b := w.heap.size) (c := b2) (j := 2) (.int .i64 a72) (by omega) A1H4.out)
              have A2H5 : Hid ((W4.setCell ⟨b2, 2, none⟩ (.int .i64 a72)).heap[b2]? = some (.cells #[.int .i64 cm.kd, .int .i64 cm.cond, .int .i64 a72, .bool cm.flags, .int .i64 cm.rd, .int .i64 cm.rn, .int .i64 cm.rs, .int .i64 cm.rm, .int .u32 cm.imm, .bool v9, .int .i64 cm.shift, .int .i64 cm.amount, .bool cm.byReg, .bool true, .bool cm.byte, .bool cm.signed, .bool cm.pre, .bool cm.up, .bool true, .bool cm.user, .int .i64 cm.list, .bool cm.link, .bool cm.long, .bool cm.align] 25)) := Lib.hid (set_at (j := 2) (.int .i64 a72) A2H4.out)
              have hBH5 := Lib.hid (hBH4.out.setCell (p := ⟨b2, 2, none⟩) (by exact hb2s) (.int .i64 a72))
              clear A1H4 A2H4 hBH4 C Fz
              have sz5 : b2 < (W4.setCell ⟨b2, 2, none⟩ (.int .i64 a72)).heap.size := sizeAt A2H5.out
              generalize W4.setCell ⟨b2, 2, none⟩ (.int .i64 a72) = W5 at *
              have C := cellsAt A2H5.out
              have Fz := freeAt A2H5.out
              by_cases z : a72 = 0
              · have zt : (a72 == 0) = true := by simpa using z
                have hrK := Lib.hid (show refP x (List.drop (k + 1) tblP) = h by have := hrH.out; simpa [z] using this)
                clear z hrH
                go_wp2
                go_roundw
                case rel => exact ⟨k + 1, by omega, by go_num, by have := hrK.out; simpa using this, hBH5.out⟩
                case measure => simp [intOf]; omega
              · have zt : (a72 == 0) = false := by simpa using z
                have ZH := Lib.hid z
                clear z
                go_upto_region 34 with fail
                have S1 := sizeAt A1H5.out
                go_wp2_with (first | (refine wpList_load_row rfl 25 (.tmp 6) rfl b2 rfl 25 _ (0, 0) _ A2H5.out Try.underlying25 rfl info25 ?_) | (refine wpList_store_row rfl 25 (.tmp 2) (.tmp 129) rfl (w.heap.size) _ rfl rfl 25 _ A1H5.out info25 rfl (by simp [Value.oneCell']) ?_))
                have hh := hrH.out
                simp [ZH.out] at hh
                subst hh
                exact bodyPost_ret (results_cell_row rfl _ _ w.heap.size 25 _ _ _ rfl (setRow_heap _ _ _ _ _ _ A1H5.out) Try.underlying25 rfl info25) rfl ⟨rfl, below_only (hBWH.out.trans (hBH5.out.mono hBWH.out.size)) (Only.setRow (Only.refl A1H5.out)) (by omega) (by have := hBH5.out.size; have := hBWH.out.size; omega)⟩
        · have t6 : (cm.kd == 6) = false := by rw [ckH.out]; rfl
          have t7 : (cm.kd == 7) = true := by rw [ckH.out]; rfl
          cases b87
          · go_upto_region 20 with (go_at_call 20; ((with_reducible refine (G87.out _).mono ?_); rintro e w' ⟨rfl, rfl⟩))
            have A1H1 := Lib.hid (set_ne (b := w.heap.size) (c := b2) (j := 18) (.bool (!cm.pre)) (by omega) A1H.out)
            have A2H1 : Hid ((W.setCell ⟨b2, 18, none⟩ (.bool (!cm.pre))).heap[b2]? = some (.cells #[.int .i64 cm.kd, .int .i64 cm.cond, .int .i64 cm.code, .bool cm.flags, .int .i64 cm.rd, .int .i64 cm.rn, .int .i64 cm.rs, .int .i64 cm.rm, .int .u32 cm.imm, .bool cm.hasImm, .int .i64 cm.shift, .int .i64 cm.amount, .bool cm.byReg, .bool cm.load, .bool cm.byte, .bool cm.signed, .bool cm.pre, .bool cm.up, .bool (!cm.pre), .bool cm.user, .int .i64 cm.list, .bool cm.link, .bool cm.long, .bool cm.align] 25)) := Lib.hid (set_at (j := 18) (.bool (!cm.pre)) A2H.out)
            have hBH1 := Lib.hid (hBH.out.setCell (p := ⟨b2, 18, none⟩) (by exact hb2s) (.bool (!cm.pre)))
            clear A1H A2H hBH C Fz
            have sz1 : b2 < (W.setCell ⟨b2, 18, none⟩ (.bool (!cm.pre))).heap.size := sizeAt A2H1.out
            generalize W.setCell ⟨b2, 18, none⟩ (.bool (!cm.pre)) = W1 at *
            have C := cellsAt A2H1.out
            have Fz := freeAt A2H1.out
            go_upto_region 34 with fail
            have A1H2 := Lib.hid (set_ne (b := w.heap.size) (c := b2) (j := 9) (.bool v6z) (by omega) A1H1.out)
            have A2H2 : Hid ((W1.setCell ⟨b2, 9, none⟩ (.bool v6z)).heap[b2]? = some (.cells #[.int .i64 cm.kd, .int .i64 cm.cond, .int .i64 cm.code, .bool cm.flags, .int .i64 cm.rd, .int .i64 cm.rn, .int .i64 cm.rs, .int .i64 cm.rm, .int .u32 cm.imm, .bool v6z, .int .i64 cm.shift, .int .i64 cm.amount, .bool cm.byReg, .bool cm.load, .bool cm.byte, .bool cm.signed, .bool cm.pre, .bool cm.up, .bool (!cm.pre), .bool cm.user, .int .i64 cm.list, .bool cm.link, .bool cm.long, .bool cm.align] 25)) := Lib.hid (set_at (j := 9) (.bool v6z) A2H1.out)
            have hBH2 := Lib.hid (hBH1.out.setCell (p := ⟨b2, 9, none⟩) (by exact hb2s) (.bool v6z))
            clear A1H1 A2H1 hBH1 C Fz
            have sz2 : b2 < (W1.setCell ⟨b2, 9, none⟩ (.bool v6z)).heap.size := sizeAt A2H2.out
            generalize W1.setCell ⟨b2, 9, none⟩ (.bool v6z) = W2 at *
            have C := cellsAt A2H2.out
            have Fz := freeAt A2H2.out
            have S1 := sizeAt A1H2.out
            go_wp2_with (first | (refine wpList_load_row rfl 25 (.tmp 6) rfl b2 rfl 25 _ (0, 0) _ A2H2.out Try.underlying25 rfl info25 ?_) | (refine wpList_store_row rfl 25 (.tmp 2) (.tmp 129) rfl (w.heap.size) _ rfl rfl 25 _ A1H2.out info25 rfl (by simp [Value.oneCell']) ?_))
            have hh := hrH.out
            simp at hh
            subst hh
            exact bodyPost_ret (results_cell_row rfl _ _ w.heap.size 25 _ _ _ rfl (setRow_heap _ _ _ _ _ _ A1H2.out) Try.underlying25 rfl info25) rfl ⟨rfl, below_only (hBWH.out.trans (hBH2.out.mono hBWH.out.size)) (Only.setRow (Only.refl A1H2.out)) (by omega) (by have := hBH2.out.size; have := hBWH.out.size; omega)⟩
          · go_upto_region 20 with (go_at_call 20; ((with_reducible refine (G87.out _).mono ?_); rintro e w' ⟨rfl, rfl⟩))
            have A1H1 := Lib.hid (set_ne (b := w.heap.size) (c := b2) (j := 18) (.bool true) (by omega) A1H.out)
            have A2H1 : Hid ((W.setCell ⟨b2, 18, none⟩ (.bool true)).heap[b2]? = some (.cells #[.int .i64 cm.kd, .int .i64 cm.cond, .int .i64 cm.code, .bool cm.flags, .int .i64 cm.rd, .int .i64 cm.rn, .int .i64 cm.rs, .int .i64 cm.rm, .int .u32 cm.imm, .bool cm.hasImm, .int .i64 cm.shift, .int .i64 cm.amount, .bool cm.byReg, .bool cm.load, .bool cm.byte, .bool cm.signed, .bool cm.pre, .bool cm.up, .bool true, .bool cm.user, .int .i64 cm.list, .bool cm.link, .bool cm.long, .bool cm.align] 25)) := Lib.hid (set_at (j := 18) (.bool true) A2H.out)
            have hBH1 := Lib.hid (hBH.out.setCell (p := ⟨b2, 18, none⟩) (by exact hb2s) (.bool true))
            clear A1H A2H hBH C Fz
            have sz1 : b2 < (W.setCell ⟨b2, 18, none⟩ (.bool true)).heap.size := sizeAt A2H1.out
            generalize W.setCell ⟨b2, 18, none⟩ (.bool true) = W1 at *
            have C := cellsAt A2H1.out
            have Fz := freeAt A2H1.out
            go_upto_region 34 with fail
            have A1H2 := Lib.hid (set_ne (b := w.heap.size) (c := b2) (j := 9) (.bool v6z) (by omega) A1H1.out)
            have A2H2 : Hid ((W1.setCell ⟨b2, 9, none⟩ (.bool v6z)).heap[b2]? = some (.cells #[.int .i64 cm.kd, .int .i64 cm.cond, .int .i64 cm.code, .bool cm.flags, .int .i64 cm.rd, .int .i64 cm.rn, .int .i64 cm.rs, .int .i64 cm.rm, .int .u32 cm.imm, .bool v6z, .int .i64 cm.shift, .int .i64 cm.amount, .bool cm.byReg, .bool cm.load, .bool cm.byte, .bool cm.signed, .bool cm.pre, .bool cm.up, .bool true, .bool cm.user, .int .i64 cm.list, .bool cm.link, .bool cm.long, .bool cm.align] 25)) := Lib.hid (set_at (j := 9) (.bool v6z) A2H1.out)
            have hBH2 := Lib.hid (hBH1.out.setCell (p := ⟨b2, 9, none⟩) (by exact hb2s) (.bool v6z))
            clear A1H1 A2H1 hBH1 C Fz
            have sz2 : b2 < (W1.setCell ⟨b2, 9, none⟩ (.bool v6z)).heap.size := sizeAt A2H2.out
            generalize W1.setCell ⟨b2, 9, none⟩ (.bool v6z) = W2 at *
            have C := cellsAt A2H2.out
            have Fz := freeAt A2H2.out
            have S1 := sizeAt A1H2.out
            go_wp2_with (first | (refine wpList_load_row rfl 25 (.tmp 6) rfl b2 rfl 25 _ (0, 0) _ A2H2.out Try.underlying25 rfl info25 ?_) | (refine wpList_store_row rfl 25 (.tmp 2) (.tmp 129) rfl (w.heap.size) _ rfl rfl 25 _ A1H2.out info25 rfl (by simp [Value.oneCell']) ?_))
            have hh := hrH.out
            simp at hh
            subst hh
            exact bodyPost_ret (results_cell_row rfl _ _ w.heap.size 25 _ _ _ rfl (setRow_heap _ _ _ _ _ _ A1H2.out) Try.underlying25 rfl info25) rfl ⟨rfl, below_only (hBWH.out.trans (hBH2.out.mono hBWH.out.size)) (Only.setRow (Only.refl A1H2.out)) (by omega) (by have := hBH2.out.size; have := hBWH.out.size; omega)⟩
        · have t6 : (cm.kd == 6) = false := by rw [ckH.out]; rfl
          have t7 : (cm.kd == 7) = false := by rw [ckH.out]; rfl
          have t8 : (cm.kd == 8) = true := by rw [ckH.out]; rfl
          go_upto_region 34 with (go_at_call 20; ((with_reducible refine (G87.out _).mono ?_); rintro e w' ⟨rfl, rfl⟩))
          have A1H1 := Lib.hid (set_ne (b := w.heap.size) (c := b2) (j := 18) (.bool b87) (by omega) A1H.out)
          have A2H1 : Hid ((W.setCell ⟨b2, 18, none⟩ (.bool b87)).heap[b2]? = some (.cells #[.int .i64 cm.kd, .int .i64 cm.cond, .int .i64 cm.code, .bool cm.flags, .int .i64 cm.rd, .int .i64 cm.rn, .int .i64 cm.rs, .int .i64 cm.rm, .int .u32 cm.imm, .bool cm.hasImm, .int .i64 cm.shift, .int .i64 cm.amount, .bool cm.byReg, .bool cm.load, .bool cm.byte, .bool cm.signed, .bool cm.pre, .bool cm.up, .bool b87, .bool cm.user, .int .i64 cm.list, .bool cm.link, .bool cm.long, .bool cm.align] 25)) := Lib.hid (set_at (j := 18) (.bool b87) A2H.out)
          have hBH1 := Lib.hid (hBH.out.setCell (p := ⟨b2, 18, none⟩) (by exact hb2s) (.bool b87))
          clear A1H A2H hBH C Fz
          have sz1 : b2 < (W.setCell ⟨b2, 18, none⟩ (.bool b87)).heap.size := sizeAt A2H1.out
          generalize W.setCell ⟨b2, 18, none⟩ (.bool b87) = W1 at *
          have C := cellsAt A2H1.out
          have Fz := freeAt A2H1.out
          have S1 := sizeAt A1H1.out
          go_wp2_with (first | (refine wpList_load_row rfl 25 (.tmp 6) rfl b2 rfl 25 _ (0, 0) _ A2H1.out Try.underlying25 rfl info25 ?_) | (refine wpList_store_row rfl 25 (.tmp 2) (.tmp 129) rfl (w.heap.size) _ rfl rfl 25 _ A1H1.out info25 rfl (by simp [Value.oneCell']) ?_))
          have hh := hrH.out
          simp at hh
          subst hh
          exact bodyPost_ret (results_cell_row rfl _ _ w.heap.size 25 _ _ _ rfl (setRow_heap _ _ _ _ _ _ A1H1.out) Try.underlying25 rfl info25) rfl ⟨rfl, below_only (hBWH.out.trans (hBH1.out.mono hBWH.out.size)) (Only.setRow (Only.refl A1H1.out)) (by omega) (by have := hBH1.out.size; have := hBWH.out.size; omega)⟩
        · have t6 : (cm.kd == 6) = false := by rw [ckH.out]; rfl
          have t7 : (cm.kd == 7) = false := by rw [ckH.out]; rfl
          have t8 : (cm.kd == 8) = false := by rw [ckH.out]; rfl
          have t1 : (cm.kd == 1) = true := by rw [ckH.out]; rfl
          by_cases y1 : a111 < 8
          · have NC := Lib.hid (show ¬ (8 ≤ a111 ∧ a111 ≤ 11 ∧ cm.flags = false) by rintro ⟨u1, u2, u3⟩; omega)
            go_upto_region 26 with fail
            have A1H1 := Lib.hid (set_ne (b := w.heap.size) (c := b2) (j := 2) (.int .i64 a111) (by omega) A1H.out)
            have A2H1 : Hid ((W.setCell ⟨b2, 2, none⟩ (.int .i64 a111)).heap[b2]? = some (.cells #[.int .i64 cm.kd, .int .i64 cm.cond, .int .i64 a111, .bool cm.flags, .int .i64 cm.rd, .int .i64 cm.rn, .int .i64 cm.rs, .int .i64 cm.rm, .int .u32 cm.imm, .bool cm.hasImm, .int .i64 cm.shift, .int .i64 cm.amount, .bool cm.byReg, .bool cm.load, .bool cm.byte, .bool cm.signed, .bool cm.pre, .bool cm.up, .bool cm.back, .bool cm.user, .int .i64 cm.list, .bool cm.link, .bool cm.long, .bool cm.align] 25)) := Lib.hid (set_at (j := 2) (.int .i64 a111) A2H.out)
            have hBH1 := Lib.hid (hBH.out.setCell (p := ⟨b2, 2, none⟩) (by exact hb2s) (.int .i64 a111))
            clear A1H A2H hBH C Fz
            have sz1 : b2 < (W.setCell ⟨b2, 2, none⟩ (.int .i64 a111)).heap.size := sizeAt A2H1.out
            generalize W.setCell ⟨b2, 2, none⟩ (.int .i64 a111) = W1 at *
            have C := cellsAt A2H1.out
            have Fz := freeAt A2H1.out
            go_upto_region 27 with fail
            have A1H2 := Lib.hid (set_ne (b := w.heap.size) (c := b2) (j := 9) (.bool v6) (by omega) A1H1.out)
            have A2H2 : Hid ((W1.setCell ⟨b2, 9, none⟩ (.bool v6)).heap[b2]? = some (.cells #[.int .i64 cm.kd, .int .i64 cm.cond, .int .i64 a111, .bool cm.flags, .int .i64 cm.rd, .int .i64 cm.rn, .int .i64 cm.rs, .int .i64 cm.rm, .int .u32 cm.imm, .bool v6, .int .i64 cm.shift, .int .i64 cm.amount, .bool cm.byReg, .bool cm.load, .bool cm.byte, .bool cm.signed, .bool cm.pre, .bool cm.up, .bool cm.back, .bool cm.user, .int .i64 cm.list, .bool cm.link, .bool cm.long, .bool cm.align] 25)) := Lib.hid (set_at (j := 9) (.bool v6) A2H1.out)
            have hBH2 := Lib.hid (hBH1.out.setCell (p := ⟨b2, 9, none⟩) (by exact hb2s) (.bool v6))
            clear A1H1 A2H1 hBH1 C Fz
            have sz2 : b2 < (W1.setCell ⟨b2, 9, none⟩ (.bool v6)).heap.size := sizeAt A2H2.out
            generalize W1.setCell ⟨b2, 9, none⟩ (.bool v6) = W2 at *
            have C := cellsAt A2H2.out
            have Fz := freeAt A2H2.out
            go_upto_region 34 with fail
            have A1H3 := Lib.hid (set_ne (b := w.heap.size) (c := b2) (j := 12) (.bool v27) (by omega) A1H2.out)
            have A2H3 : Hid ((W2.setCell ⟨b2, 12, none⟩ (.bool v27)).heap[b2]? = some (.cells #[.int .i64 cm.kd, .int .i64 cm.cond, .int .i64 a111, .bool cm.flags, .int .i64 cm.rd, .int .i64 cm.rn, .int .i64 cm.rs, .int .i64 cm.rm, .int .u32 cm.imm, .bool v6, .int .i64 cm.shift, .int .i64 cm.amount, .bool v27, .bool cm.load, .bool cm.byte, .bool cm.signed, .bool cm.pre, .bool cm.up, .bool cm.back, .bool cm.user, .int .i64 cm.list, .bool cm.link, .bool cm.long, .bool cm.align] 25)) := Lib.hid (set_at (j := 12) (.bool v27) A2H2.out)
            have hBH3 := Lib.hid (hBH2.out.setCell (p := ⟨b2, 12, none⟩) (by exact hb2s) (.bool v27))
            clear A1H2 A2H2 hBH2 C Fz
            have sz3 : b2 < (W2.setCell ⟨b2, 12, none⟩ (.bool v27)).heap.size := sizeAt A2H3.out
            generalize W2.setCell ⟨b2, 12, none⟩ (.bool v27) = W3 at *
            have C := cellsAt A2H3.out
            have Fz := freeAt A2H3.out
            have S1 := sizeAt A1H3.out
            go_wp2_with (first | (refine wpList_load_row rfl 25 (.tmp 6) rfl b2 rfl 25 _ (0, 0) _ A2H3.out Try.underlying25 rfl info25 ?_) | (refine wpList_store_row rfl 25 (.tmp 2) (.tmp 129) rfl (w.heap.size) _ rfl rfl 25 _ A1H3.out info25 rfl (by simp [Value.oneCell']) ?_))
            have hh := hrH.out
            simp [NC.out] at hh
            subst hh
            exact bodyPost_ret (results_cell_row rfl _ _ w.heap.size 25 _ _ _ rfl (setRow_heap _ _ _ _ _ _ A1H3.out) Try.underlying25 rfl info25) rfl ⟨rfl, below_only (hBWH.out.trans (hBH3.out.mono hBWH.out.size)) (Only.setRow (Only.refl A1H3.out)) (by omega) (by have := hBH3.out.size; have := hBWH.out.size; omega)⟩
          · by_cases y2 : 11 < a111
            · have NC := Lib.hid (show ¬ (8 ≤ a111 ∧ a111 ≤ 11 ∧ cm.flags = false) by rintro ⟨u1, u2, u3⟩; omega)
              go_upto_region 26 with fail
              have A1H1 := Lib.hid (set_ne (b := w.heap.size) (c := b2) (j := 2) (.int .i64 a111) (by omega) A1H.out)
              have A2H1 : Hid ((W.setCell ⟨b2, 2, none⟩ (.int .i64 a111)).heap[b2]? = some (.cells #[.int .i64 cm.kd, .int .i64 cm.cond, .int .i64 a111, .bool cm.flags, .int .i64 cm.rd, .int .i64 cm.rn, .int .i64 cm.rs, .int .i64 cm.rm, .int .u32 cm.imm, .bool cm.hasImm, .int .i64 cm.shift, .int .i64 cm.amount, .bool cm.byReg, .bool cm.load, .bool cm.byte, .bool cm.signed, .bool cm.pre, .bool cm.up, .bool cm.back, .bool cm.user, .int .i64 cm.list, .bool cm.link, .bool cm.long, .bool cm.align] 25)) := Lib.hid (set_at (j := 2) (.int .i64 a111) A2H.out)
              have hBH1 := Lib.hid (hBH.out.setCell (p := ⟨b2, 2, none⟩) (by exact hb2s) (.int .i64 a111))
              clear A1H A2H hBH C Fz
              have sz1 : b2 < (W.setCell ⟨b2, 2, none⟩ (.int .i64 a111)).heap.size := sizeAt A2H1.out
              generalize W.setCell ⟨b2, 2, none⟩ (.int .i64 a111) = W1 at *
              have C := cellsAt A2H1.out
              have Fz := freeAt A2H1.out
              go_upto_region 27 with fail
              have A1H2 := Lib.hid (set_ne (b := w.heap.size) (c := b2) (j := 9) (.bool v6) (by omega) A1H1.out)
              have A2H2 : Hid ((W1.setCell ⟨b2, 9, none⟩ (.bool v6)).heap[b2]? = some (.cells #[.int .i64 cm.kd, .int .i64 cm.cond, .int .i64 a111, .bool cm.flags, .int .i64 cm.rd, .int .i64 cm.rn, .int .i64 cm.rs, .int .i64 cm.rm, .int .u32 cm.imm, .bool v6, .int .i64 cm.shift, .int .i64 cm.amount, .bool cm.byReg, .bool cm.load, .bool cm.byte, .bool cm.signed, .bool cm.pre, .bool cm.up, .bool cm.back, .bool cm.user, .int .i64 cm.list, .bool cm.link, .bool cm.long, .bool cm.align] 25)) := Lib.hid (set_at (j := 9) (.bool v6) A2H1.out)
              have hBH2 := Lib.hid (hBH1.out.setCell (p := ⟨b2, 9, none⟩) (by exact hb2s) (.bool v6))
              clear A1H1 A2H1 hBH1 C Fz
              have sz2 : b2 < (W1.setCell ⟨b2, 9, none⟩ (.bool v6)).heap.size := sizeAt A2H2.out
              generalize W1.setCell ⟨b2, 9, none⟩ (.bool v6) = W2 at *
              have C := cellsAt A2H2.out
              have Fz := freeAt A2H2.out
              go_upto_region 34 with fail
              have A1H3 := Lib.hid (set_ne (b := w.heap.size) (c := b2) (j := 12) (.bool v27) (by omega) A1H2.out)
              have A2H3 : Hid ((W2.setCell ⟨b2, 12, none⟩ (.bool v27)).heap[b2]? = some (.cells #[.int .i64 cm.kd, .int .i64 cm.cond, .int .i64 a111, .bool cm.flags, .int .i64 cm.rd, .int .i64 cm.rn, .int .i64 cm.rs, .int .i64 cm.rm, .int .u32 cm.imm, .bool v6, .int .i64 cm.shift, .int .i64 cm.amount, .bool v27, .bool cm.load, .bool cm.byte, .bool cm.signed, .bool cm.pre, .bool cm.up, .bool cm.back, .bool cm.user, .int .i64 cm.list, .bool cm.link, .bool cm.long, .bool cm.align] 25)) := Lib.hid (set_at (j := 12) (.bool v27) A2H2.out)
              have hBH3 := Lib.hid (hBH2.out.setCell (p := ⟨b2, 12, none⟩) (by exact hb2s) (.bool v27))
              clear A1H2 A2H2 hBH2 C Fz
              have sz3 : b2 < (W2.setCell ⟨b2, 12, none⟩ (.bool v27)).heap.size := sizeAt A2H3.out
              generalize W2.setCell ⟨b2, 12, none⟩ (.bool v27) = W3 at *
              have C := cellsAt A2H3.out
              have Fz := freeAt A2H3.out
              have S1 := sizeAt A1H3.out
              go_wp2_with (first | (refine wpList_load_row rfl 25 (.tmp 6) rfl b2 rfl 25 _ (0, 0) _ A2H3.out Try.underlying25 rfl info25 ?_) | (refine wpList_store_row rfl 25 (.tmp 2) (.tmp 129) rfl (w.heap.size) _ rfl rfl 25 _ A1H3.out info25 rfl (by simp [Value.oneCell']) ?_))
              have hh := hrH.out
              simp [NC.out] at hh
              subst hh
              exact bodyPost_ret (results_cell_row rfl _ _ w.heap.size 25 _ _ _ rfl (setRow_heap _ _ _ _ _ _ A1H3.out) Try.underlying25 rfl info25) rfl ⟨rfl, below_only (hBWH.out.trans (hBH3.out.mono hBWH.out.size)) (Only.setRow (Only.refl A1H3.out)) (by omega) (by have := hBH3.out.size; have := hBWH.out.size; omega)⟩
            · cases hfl : cm.flags
              · have hrK := Lib.hid (show refP x (List.drop (k + 1) tblP) = h by have := hrH.out; simpa [hfl, show 8 ≤ a111 by omega, show a111 ≤ 11 by omega] using this)
                clear hrH
                go_wp2
                go_roundw
                case rel => exact ⟨k + 1, by omega, by go_num, by have := hrK.out; simpa using this, hBH.out⟩
                case measure => simp [intOf]; omega
              · have NC := Lib.hid (show ¬ (8 ≤ a111 ∧ a111 ≤ 11 ∧ cm.flags = false) by rw [hfl]; simp)
                have FH := Lib.hid hfl
                go_upto_region 26 with fail
                have A1H1 := Lib.hid (set_ne (b := w.heap.size) (c := b2) (j := 2) (.int .i64 a111) (by omega) A1H.out)
                have A2H1 : Hid ((W.setCell ⟨b2, 2, none⟩ (.int .i64 a111)).heap[b2]? = some (.cells #[.int .i64 cm.kd, .int .i64 cm.cond, .int .i64 a111, .bool cm.flags, .int .i64 cm.rd, .int .i64 cm.rn, .int .i64 cm.rs, .int .i64 cm.rm, .int .u32 cm.imm, .bool cm.hasImm, .int .i64 cm.shift, .int .i64 cm.amount, .bool cm.byReg, .bool cm.load, .bool cm.byte, .bool cm.signed, .bool cm.pre, .bool cm.up, .bool cm.back, .bool cm.user, .int .i64 cm.list, .bool cm.link, .bool cm.long, .bool cm.align] 25)) := Lib.hid (set_at (j := 2) (.int .i64 a111) A2H.out)
                have hBH1 := Lib.hid (hBH.out.setCell (p := ⟨b2, 2, none⟩) (by exact hb2s) (.int .i64 a111))
                clear A1H A2H hBH C Fz
                have sz1 : b2 < (W.setCell ⟨b2, 2, none⟩ (.int .i64 a111)).heap.size := sizeAt A2H1.out
                generalize W.setCell ⟨b2, 2, none⟩ (.int .i64 a111) = W1 at *
                have C := cellsAt A2H1.out
                have Fz := freeAt A2H1.out
                go_upto_region 27 with fail
                have A1H2 := Lib.hid (set_ne (b := w.heap.size) (c := b2) (j := 9) (.bool v6) (by omega) A1H1.out)
                have A2H2 : Hid ((W1.setCell ⟨b2, 9, none⟩ (.bool v6)).heap[b2]? = some (.cells #[.int .i64 cm.kd, .int .i64 cm.cond, .int .i64 a111, .bool cm.flags, .int .i64 cm.rd, .int .i64 cm.rn, .int .i64 cm.rs, .int .i64 cm.rm, .int .u32 cm.imm, .bool v6, .int .i64 cm.shift, .int .i64 cm.amount, .bool cm.byReg, .bool cm.load, .bool cm.byte, .bool cm.signed, .bool cm.pre, .bool cm.up, .bool cm.back, .bool cm.user, .int .i64 cm.list, .bool cm.link, .bool cm.long, .bool cm.align] 25)) := Lib.hid (set_at (j := 9) (.bool v6) A2H1.out)
                have hBH2 := Lib.hid (hBH1.out.setCell (p := ⟨b2, 9, none⟩) (by exact hb2s) (.bool v6))
                clear A1H1 A2H1 hBH1 C Fz
                have sz2 : b2 < (W1.setCell ⟨b2, 9, none⟩ (.bool v6)).heap.size := sizeAt A2H2.out
                generalize W1.setCell ⟨b2, 9, none⟩ (.bool v6) = W2 at *
                have C := cellsAt A2H2.out
                have Fz := freeAt A2H2.out
                go_upto_region 34 with fail
                have A1H3 := Lib.hid (set_ne (b := w.heap.size) (c := b2) (j := 12) (.bool v27) (by omega) A1H2.out)
                have A2H3 : Hid ((W2.setCell ⟨b2, 12, none⟩ (.bool v27)).heap[b2]? = some (.cells #[.int .i64 cm.kd, .int .i64 cm.cond, .int .i64 a111, .bool cm.flags, .int .i64 cm.rd, .int .i64 cm.rn, .int .i64 cm.rs, .int .i64 cm.rm, .int .u32 cm.imm, .bool v6, .int .i64 cm.shift, .int .i64 cm.amount, .bool v27, .bool cm.load, .bool cm.byte, .bool cm.signed, .bool cm.pre, .bool cm.up, .bool cm.back, .bool cm.user, .int .i64 cm.list, .bool cm.link, .bool cm.long, .bool cm.align] 25)) := Lib.hid (set_at (j := 12) (.bool v27) A2H2.out)
                have hBH3 := Lib.hid (hBH2.out.setCell (p := ⟨b2, 12, none⟩) (by exact hb2s) (.bool v27))
                clear A1H2 A2H2 hBH2 C Fz
                have sz3 : b2 < (W2.setCell ⟨b2, 12, none⟩ (.bool v27)).heap.size := sizeAt A2H3.out
                generalize W2.setCell ⟨b2, 12, none⟩ (.bool v27) = W3 at *
                have C := cellsAt A2H3.out
                have Fz := freeAt A2H3.out
                have S1 := sizeAt A1H3.out
                go_wp2_with (first | (refine wpList_load_row rfl 25 (.tmp 6) rfl b2 rfl 25 _ (0, 0) _ A2H3.out Try.underlying25 rfl info25 ?_) | (refine wpList_store_row rfl 25 (.tmp 2) (.tmp 129) rfl (w.heap.size) _ rfl rfl 25 _ A1H3.out info25 rfl (by simp [Value.oneCell']) ?_))
                have hh := hrH.out
                simp [NC.out] at hh
                subst hh
                exact bodyPost_ret (results_cell_row rfl _ _ w.heap.size 25 _ _ _ rfl (setRow_heap _ _ _ _ _ _ A1H3.out) Try.underlying25 rfl info25) rfl ⟨rfl, below_only (hBWH.out.trans (hBH3.out.mono hBWH.out.size)) (Only.setRow (Only.refl A1H3.out)) (by omega) (by have := hBH3.out.size; have := hBWH.out.size; omega)⟩
        · have t6 : (cm.kd == 6) = false := by rw [ckH.out]; rfl
          have t7 : (cm.kd == 7) = false := by rw [ckH.out]; rfl
          have t8 : (cm.kd == 8) = false := by rw [ckH.out]; rfl
          have t1 : (cm.kd == 1) = false := by rw [ckH.out]; rfl
          have t12 : (cm.kd == 12) = true := by rw [ckH.out]; rfl
          go_upto_region 34 with fail
          have A1H1 := Lib.hid (set_ne (b := w.heap.size) (c := b2) (j := 9) (.bool v6) (by omega) A1H.out)
          have A2H1 : Hid ((W.setCell ⟨b2, 9, none⟩ (.bool v6)).heap[b2]? = some (.cells #[.int .i64 cm.kd, .int .i64 cm.cond, .int .i64 cm.code, .bool cm.flags, .int .i64 cm.rd, .int .i64 cm.rn, .int .i64 cm.rs, .int .i64 cm.rm, .int .u32 cm.imm, .bool v6, .int .i64 cm.shift, .int .i64 cm.amount, .bool cm.byReg, .bool cm.load, .bool cm.byte, .bool cm.signed, .bool cm.pre, .bool cm.up, .bool cm.back, .bool cm.user, .int .i64 cm.list, .bool cm.link, .bool cm.long, .bool cm.align] 25)) := Lib.hid (set_at (j := 9) (.bool v6) A2H.out)
          have hBH1 := Lib.hid (hBH.out.setCell (p := ⟨b2, 9, none⟩) (by exact hb2s) (.bool v6))
          clear A1H A2H hBH C Fz
          have sz1 : b2 < (W.setCell ⟨b2, 9, none⟩ (.bool v6)).heap.size := sizeAt A2H1.out
          generalize W.setCell ⟨b2, 9, none⟩ (.bool v6) = W1 at *
          have C := cellsAt A2H1.out
          have Fz := freeAt A2H1.out
          have S1 := sizeAt A1H1.out
          go_wp2_with (first | (refine wpList_load_row rfl 25 (.tmp 6) rfl b2 rfl 25 _ (0, 0) _ A2H1.out Try.underlying25 rfl info25 ?_) | (refine wpList_store_row rfl 25 (.tmp 2) (.tmp 129) rfl (w.heap.size) _ rfl rfl 25 _ A1H1.out info25 rfl (by simp [Value.oneCell']) ?_))
          have hh := hrH.out
          simp at hh
          subst hh
          exact bodyPost_ret (results_cell_row rfl _ _ w.heap.size 25 _ _ _ rfl (setRow_heap _ _ _ _ _ _ A1H1.out) Try.underlying25 rfl info25) rfl ⟨rfl, below_only (hBWH.out.trans (hBH1.out.mono hBWH.out.size)) (Only.setRow (Only.refl A1H1.out)) (by omega) (by have := hBH1.out.size; have := hBWH.out.size; omega)⟩
        · have t6 : (cm.kd == 6) = false := by rw [ckH.out]; rfl
          have t7 : (cm.kd == 7) = false := by rw [ckH.out]; rfl
          have t8 : (cm.kd == 8) = false := by rw [ckH.out]; rfl
          have t1 : (cm.kd == 1) = false := by rw [ckH.out]; rfl
          have t12 : (cm.kd == 12) = false := by rw [ckH.out]; rfl
          have t9 : (cm.kd == 9) = true := by rw [ckH.out]; rfl
          by_cases im : 8388608 ≤ cm.imm
          · have w1 : (cm.imm - 16777216) % 4294967296 * 4 % 4294967296 = (cm.imm - 16777216) % 4294967296 * 4 % 4294967296 := rfl
            clear w1
            go_upto_region 33 with fail
            have A1H1 := Lib.hid (set_ne (b := w.heap.size) (c := b2) (j := 8) (.int .u32 ((cm.imm - 16777216) % 4294967296)) (by omega) A1H.out)
            have A2H1 : Hid ((W.setCell ⟨b2, 8, none⟩ (.int .u32 ((cm.imm - 16777216) % 4294967296))).heap[b2]? = some (.cells #[.int .i64 cm.kd, .int .i64 cm.cond, .int .i64 cm.code, .bool cm.flags, .int .i64 cm.rd, .int .i64 cm.rn, .int .i64 cm.rs, .int .i64 cm.rm, .int .u32 ((cm.imm - 16777216) % 4294967296), .bool cm.hasImm, .int .i64 cm.shift, .int .i64 cm.amount, .bool cm.byReg, .bool cm.load, .bool cm.byte, .bool cm.signed, .bool cm.pre, .bool cm.up, .bool cm.back, .bool cm.user, .int .i64 cm.list, .bool cm.link, .bool cm.long, .bool cm.align] 25)) := Lib.hid (set_at (j := 8) (.int .u32 ((cm.imm - 16777216) % 4294967296)) A2H.out)
            have hBH1 := Lib.hid (hBH.out.setCell (p := ⟨b2, 8, none⟩) (by exact hb2s) (.int .u32 ((cm.imm - 16777216) % 4294967296)))
            clear A1H A2H hBH C Fz
            have sz1 : b2 < (W.setCell ⟨b2, 8, none⟩ (.int .u32 ((cm.imm - 16777216) % 4294967296))).heap.size := sizeAt A2H1.out
            generalize W.setCell ⟨b2, 8, none⟩ (.int .u32 ((cm.imm - 16777216) % 4294967296)) = W1 at *
            have C := cellsAt A2H1.out
            have Fz := freeAt A2H1.out
            generalize hy : (cm.imm - 16777216) % 4294967296 = y at *
            have y0 : 0 ≤ y := by omega
            have y1 : y < 4294967296 := by omega
            have HY := Lib.hid hy
            clear hy
            go_upto_region 34 with fail
            have A1H2 := Lib.hid (set_ne (b := w.heap.size) (c := b2) (j := 8) (.int .u32 (y * 4 % 4294967296)) (by omega) A1H1.out)
            have A2H2 : Hid ((W1.setCell ⟨b2, 8, none⟩ (.int .u32 (y * 4 % 4294967296))).heap[b2]? = some (.cells #[.int .i64 cm.kd, .int .i64 cm.cond, .int .i64 cm.code, .bool cm.flags, .int .i64 cm.rd, .int .i64 cm.rn, .int .i64 cm.rs, .int .i64 cm.rm, .int .u32 (y * 4 % 4294967296), .bool cm.hasImm, .int .i64 cm.shift, .int .i64 cm.amount, .bool cm.byReg, .bool cm.load, .bool cm.byte, .bool cm.signed, .bool cm.pre, .bool cm.up, .bool cm.back, .bool cm.user, .int .i64 cm.list, .bool cm.link, .bool cm.long, .bool cm.align] 25)) := Lib.hid (set_at (j := 8) (.int .u32 (y * 4 % 4294967296)) A2H1.out)
            have hBH2 := Lib.hid (hBH1.out.setCell (p := ⟨b2, 8, none⟩) (by exact hb2s) (.int .u32 (y * 4 % 4294967296)))
            clear A1H1 A2H1 hBH1 C Fz
            have sz2 : b2 < (W1.setCell ⟨b2, 8, none⟩ (.int .u32 (y * 4 % 4294967296))).heap.size := sizeAt A2H2.out
            generalize W1.setCell ⟨b2, 8, none⟩ (.int .u32 (y * 4 % 4294967296)) = W2 at *
            have C := cellsAt A2H2.out
            have Fz := freeAt A2H2.out
            have IH := Lib.hid im
            have S1 := sizeAt A1H2.out
            go_wp2_with (first | (refine wpList_load_row rfl 25 (.tmp 6) rfl b2 rfl 25 _ (0, 0) _ A2H2.out Try.underlying25 rfl info25 ?_) | (refine wpList_store_row rfl 25 (.tmp 2) (.tmp 129) rfl (w.heap.size) _ rfl rfl 25 _ A1H2.out info25 rfl (by simp [Value.oneCell']) ?_))
            have hh := hrH.out
            simp [IH.out, HY.out] at hh
            subst hh
            exact bodyPost_ret (results_cell_row rfl _ _ w.heap.size 25 _ _ _ rfl (setRow_heap _ _ _ _ _ _ A1H2.out) Try.underlying25 rfl info25) rfl ⟨rfl, below_only (hBWH.out.trans (hBH2.out.mono hBWH.out.size)) (Only.setRow (Only.refl A1H2.out)) (by omega) (by have := hBH2.out.size; have := hBWH.out.size; omega)⟩
          · have IH := Lib.hid im
            clear im
            have im : cm.imm < 8388608 := by have := IH.out; omega
            go_upto_region 34 with fail
            have A1H1 := Lib.hid (set_ne (b := w.heap.size) (c := b2) (j := 8) (.int .u32 (cm.imm * 4)) (by omega) A1H.out)
            have A2H1 : Hid ((W.setCell ⟨b2, 8, none⟩ (.int .u32 (cm.imm * 4))).heap[b2]? = some (.cells #[.int .i64 cm.kd, .int .i64 cm.cond, .int .i64 cm.code, .bool cm.flags, .int .i64 cm.rd, .int .i64 cm.rn, .int .i64 cm.rs, .int .i64 cm.rm, .int .u32 (cm.imm * 4), .bool cm.hasImm, .int .i64 cm.shift, .int .i64 cm.amount, .bool cm.byReg, .bool cm.load, .bool cm.byte, .bool cm.signed, .bool cm.pre, .bool cm.up, .bool cm.back, .bool cm.user, .int .i64 cm.list, .bool cm.link, .bool cm.long, .bool cm.align] 25)) := Lib.hid (set_at (j := 8) (.int .u32 (cm.imm * 4)) A2H.out)
            have hBH1 := Lib.hid (hBH.out.setCell (p := ⟨b2, 8, none⟩) (by exact hb2s) (.int .u32 (cm.imm * 4)))
            clear A1H A2H hBH C Fz
            have sz1 : b2 < (W.setCell ⟨b2, 8, none⟩ (.int .u32 (cm.imm * 4))).heap.size := sizeAt A2H1.out
            generalize W.setCell ⟨b2, 8, none⟩ (.int .u32 (cm.imm * 4)) = W1 at *
            have C := cellsAt A2H1.out
            have Fz := freeAt A2H1.out
            have S1 := sizeAt A1H1.out
            go_wp2_with (first | (refine wpList_load_row rfl 25 (.tmp 6) rfl b2 rfl 25 _ (0, 0) _ A2H1.out Try.underlying25 rfl info25 ?_) | (refine wpList_store_row rfl 25 (.tmp 2) (.tmp 129) rfl (w.heap.size) _ rfl rfl 25 _ A1H1.out info25 rfl (by simp [Value.oneCell']) ?_))
            have hh := hrH.out
            simp [IH.out] at hh
            subst hh
            exact bodyPost_ret (results_cell_row rfl _ _ w.heap.size 25 _ _ _ rfl (setRow_heap _ _ _ _ _ _ A1H1.out) Try.underlying25 rfl info25) rfl ⟨(by simp only [show (if 8388608 ≤ cm.imm then (cm.imm - 16777216) % 4294967296 else cm.imm) * 4 % 4294967296 = cm.imm * 4 from (by rw [if_neg (by have := IH.out; omega)]; omega)]), below_only (hBWH.out.trans (hBH1.out.mono hBWH.out.size)) (Only.setRow (Only.refl A1H1.out)) (by omega) (by have := hBH1.out.size; have := hBWH.out.size; omega)⟩
        · have HE := Lib.hid (show ¬ kd = 6 ∧ ¬ kd = 7 ∧ ¬ kd = 8 ∧ ¬ kd = 1 ∧ ¬ kd = 12 ∧ ¬ kd = 9 from ⟨by simpa using e6, by simpa using e7, by simpa using e8, by simpa using e1, by simpa using e12, by simpa using e9⟩)
          clear e6 e7 e8 e1 e12 e9
          have e6 : (kd == 6) = false := by simpa using HE.out.1
          have e7 : (kd == 7) = false := by simpa using HE.out.2.1
          have e8 : (kd == 8) = false := by simpa using HE.out.2.2.1
          have e1 : (kd == 1) = false := by simpa using HE.out.2.2.2.1
          have e12 : (kd == 12) = false := by simpa using HE.out.2.2.2.2.1
          have e9 : (kd == 9) = false := by simpa using HE.out.2.2.2.2.2
          have t6 : (cm.kd == 6) = false := by rw [ckH.out]; exact e6
          have t7 : (cm.kd == 7) = false := by rw [ckH.out]; exact e7
          have t8 : (cm.kd == 8) = false := by rw [ckH.out]; exact e8
          have t1 : (cm.kd == 1) = false := by rw [ckH.out]; exact e1
          have t12 : (cm.kd == 12) = false := by rw [ckH.out]; exact e12
          have t9 : (cm.kd == 9) = false := by rw [ckH.out]; exact e9
          go_upto_region 34 with fail
          have S1 := sizeAt A1H.out
          go_wp2_with (first | (refine wpList_load_row rfl 25 (.tmp 6) rfl b2 rfl 25 _ (0, 0) _ A2H.out Try.underlying25 rfl info25 ?_) | (refine wpList_store_row rfl 25 (.tmp 2) (.tmp 129) rfl (w.heap.size) _ rfl rfl 25 _ A1H.out info25 rfl (by simp [Value.oneCell']) ?_))
          have hh := hrH.out
          simp [HE.out.1, HE.out.2.1, HE.out.2.2.1, HE.out.2.2.2.1, HE.out.2.2.2.2.1, HE.out.2.2.2.2.2] at hh
          subst hh
          exact bodyPost_ret (results_cell_row rfl _ _ w.heap.size 25 _ _ _ rfl (setRow_heap _ _ _ _ _ _ A1H.out) Try.underlying25 rfl info25) rfl ⟨rfl, below_only (hBWH.out.trans (hBH.out.mono hBWH.out.size)) (Only.setRow (Only.refl A1H.out)) (by omega) (by have := hBH.out.size; have := hBWH.out.size; omega)⟩
    · have hk' : k = 19 := by omega
      subst hk'
      have hh : none_ (x / 268435456) = h := hr
      clear hr
      have z0 : 0 ≤ x / 268435456 := by omega
      have z1 : x / 268435456 < 16 := by omega
      have HH := Lib.hid hh
      clear hh
      have S1 := sizeAt A1H.out
      go_wp2_with (refine wpList_store_row rfl 25 (.tmp 2) (.tmp 133) rfl (w.heap.size) _ rfl rfl 25 _ A1H.out info25 rfl (by simp [Value.oneCell']) ?_)
      obtain rfl := HH.out
      exact bodyPost_ret (results_cell_row rfl _ _ w.heap.size 25 _ _ _ rfl (setRow_heap _ _ _ _ _ _ A1H.out) Try.underlying25 rfl info25) rfl ⟨rfl, below_only (hBWH.out.trans (hb.mono hBWH.out.size)) (Only.setRow (Only.refl A1H.out)) (by omega) (by have := hBWH.out.size; omega)⟩
end Go.Proofs.Ytlpjadpjjcpfgaa.Ru
