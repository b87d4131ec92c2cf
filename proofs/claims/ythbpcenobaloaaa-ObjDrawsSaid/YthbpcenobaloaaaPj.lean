/- Package obj, walked: Draw. -/
import Derived.Test.YthbpcenobaloaaaPi
import Derived.Test.YthbpcenobaloaaaPe
import Derived.Test.YthbpcenobaloaaaPf
namespace Go.Proofs.Ythbpcenobaloaaa.Pj
set_option linter.unusedVariables false
set_option linter.unusedSimpArgs false
open Go.RowKit Go.Proofs.Ythbpcenobaloaaa.Bt Go.Proofs.Ythbpcenobaloaaa.Wk Go.Proofs.Ythbpcenobaloaaa.Sg Go.Proofs.Ythbpcenobaloaaa.Gp Go.Proofs.Ythbpcenobaloaaa.Gm Go.Proofs.Ythbpcenobaloaaa.Pp Go.Proofs.Ythbpcenobaloaaa.Pa Go.Proofs.Ythbpcenobaloaaa.Pb Go.Proofs.Ythbpcenobaloaaa.Pc Go.Proofs.Ythbpcenobaloaaa.Pd Go.Proofs.Ythbpcenobaloaaa.Pe Go.Proofs.Ythbpcenobaloaaa.Pg Go.Proofs.Ythbpcenobaloaaa.Ph Go.Proofs.Ythbpcenobaloaaa.Pf Go.Proofs.Ythbpcenobaloaaa.Pi

theorem zeroRow (w : World) : (zeroValue 49).run Try.prog w = .ok (.agg (rowC zeroD).toArray) w := by kernel_rfl
theorem info_row : (Try.prog.info? 49).map (·.size) = some 960 := by kernel_rfl
theorem info_rowC (F : Nat → Ds) : (Try.prog.info? 49).map (·.size) = some (rowC F).toArray.size := by rw [row_size]; exact info_row
noncomputable def restD : Code := aft 3 (Try.f10.body.getD .skip)
set_option maxRecDepth 1000000 in
set_option maxHeartbeats 16000000 in
theorem draw_quit {w wc : World} {p : Option Addr} {T : TypeId} {s : Sc} {line : Int} {u2 u3 u6 u7 u8 u9 u10 u11 u12 u13 u14 u15 u16 u17 u18 u19 u20 u21 u22 u23 u24 u25 u26 u27 u28 u29 u30 u31 u32 u33 u34 u35 u36 u37 u38 u39 u40 u41 u42 u43 u44 u45 u46 u47 u48 u49 u50 u51 u52 u53 u54 u55 u56 u57 u58 u59 u60 u61 u62 u63 u64 u65 u66 u67 u68 u69 u70 u71 u72 u73 u74 u75 u76 u77 u78 u79 u80 u81 u82 u83 u84 u85 u86 u87 u88 u89 u90 : Value} (HD : Hid (Dr w wc emptyD)) (hp : p = none ∨ ∃ sb, p = some ⟨sb, 0, none⟩ ∧ Sn w sb T s ∧ Sok s ∧ ¬ onV s line) :
    Code.wp Try.prog restD (bodyPost Try.prog Try.f10 (fun e w' => e = .returned (rowVal emptyD) ∧ Below w.heap.size w w')) ⟨#[.pointer p, .int .i64 line, u2, u3, .pointer (some ⟨w.heap.size, 0, none⟩), .pointer (some ⟨w.heap.size + 1, 0, none⟩), u6, u7, u8, u9, u10, u11, u12, u13, u14, u15, u16, u17, u18, u19, u20, u21, u22, u23, u24, u25, u26, u27, u28, u29, u30, u31, u32, u33, u34, u35, u36, u37, u38, u39, u40, u41, u42, u43, u44, u45, u46, u47, u48, u49, u50, u51, u52, u53, u54, u55, u56, u57, u58, u59, u60, u61, u62, u63, u64, u65, u66, u67, u68, u69, u70, u71, u72, u73, u74, u75, u76, u77, u78, u79, u80, u81, u82, u83, u84, u85, u86, u87, u88, u89, u90], []⟩ wc := by
  conv => arg 2; whnf
  dsimp only
  have R0 := Lib.hid HD.out.rc
  have R1 := Lib.hid HD.out.rw_
  have HB := Lib.hid HD.out.bl
  have fin : Hid (Below w.heap.size w (wc.setRow w.heap.size (rowC emptyD).toArray)) := Lib.hid (below_only HB.out (only_row (Only.refl R0.out) _) (Nat.le_refl _) HB.out.size)
  rcases hp with rfl | ⟨sb, rfl, h, k, ho⟩
  · go_wp2_with (first | (refine wpList_load_row rfl 49 (.tmp 5) rfl (w.heap.size + 1) rfl 49 _ (0, 0) _ R1.out Try.underlying49 rfl (info_rowC _) ?_) | (refine wpList_store_row rfl 49 (.tmp 4) (.tmp 47) rfl w.heap.size (rowC emptyD).toArray rfl rfl 49 (rowC zeroD).toArray R0.out (info_rowC _) (by rw [row_size, row_size]) (row_one _) ?_))
    exact bodyPost_ret (results_cell_row rfl _ _ w.heap.size 49 _ _ _ rfl (setRow_heap _ _ _ _ _ _ R0.out) Try.underlying49 rfl (info_rowC _)) rfl ⟨rfl, fin.out⟩
  · have h' := h.later HB.out
    have CO := h'.ctl
    have lt := h'.lt
    have c0 := k.c0
    have c1 := k.c1
    have m1 := bit16 c0 c1 4096 (by decide)
    have m2 := bit16 c0 c1 128 (by decide)
    have hc : (s.ctl / 4096 % 2 == 0) = true ∨ ((s.ctl / 4096 % 2 == 0) = false ∧ (s.ctl / 128 % 2 == 1) = true) ∨ ((s.ctl / 4096 % 2 == 0) = false ∧ (s.ctl / 128 % 2 == 1) = false ∧ decide (line < 0) = true) ∨ ((s.ctl / 4096 % 2 == 0) = false ∧ (s.ctl / 128 % 2 == 1) = false ∧ decide (line < 0) = false ∧ decide (160 ≤ line) = true) := by
      unfold onV at ho
      simp only [decide_eq_true_eq, decide_eq_false_iff_not, beq_iff_eq, beq_eq_false_iff_ne, ne_eq]
      omega
    clear h h' k ho
    generalize s.ctl = c at *
    rcases hc with g | ⟨g, g2⟩ | ⟨g, g2, g3⟩ | ⟨g, g2, g3, g4⟩
    all_goals
      go_wp2_with (first | (refine wpList_load_row rfl 49 (.tmp 5) rfl (w.heap.size + 1) rfl 49 _ (0, 0) _ R1.out Try.underlying49 rfl (info_rowC _) ?_) | (refine wpList_store_row rfl 49 (.tmp 4) (.tmp 47) rfl w.heap.size (rowC emptyD).toArray rfl rfl 49 (rowC zeroD).toArray R0.out (info_rowC _) (by rw [row_size, row_size]) (row_one _) ?_))
      exact bodyPost_ret (results_cell_row rfl _ _ w.heap.size 49 _ _ _ rfl (setRow_heap _ _ _ _ _ _ R0.out) Try.underlying49 rfl (info_rowC _)) rfl ⟨rfl, fin.out⟩
set_option maxRecDepth 1000000 in
set_option maxHeartbeats 16000000 in
theorem draw_on {w wc : World} {sb : Nat} {T : TypeId} {s : Sc} {line : Int} {u2 u3 u6 u7 u8 u9 u10 u11 u12 u13 u14 u15 u16 u17 u18 u19 u20 u21 u22 u23 u24 u25 u26 u27 u28 u29 u30 u31 u32 u33 u34 u35 u36 u37 u38 u39 u40 u41 u42 u43 u44 u45 u46 u47 u48 u49 u50 u51 u52 u53 u54 u55 u56 u57 u58 u59 u60 u61 u62 u63 u64 u65 u66 u67 u68 u69 u70 u71 u72 u73 u74 u75 u76 u77 u78 u79 u80 u81 u82 u83 u84 u85 u86 u87 u88 u89 u90 : Value} (HD : Hid (Dr w wc emptyD)) (h : Sn w sb T s) (k : Sok s) (ho : onV s line) :
    Code.wp Try.prog restD (bodyPost Try.prog Try.f10 (fun e w' => e = .returned (rowVal (drawF s line)) ∧ Below w.heap.size w w')) ⟨#[.pointer (some ⟨sb, 0, none⟩), .int .i64 line, u2, u3, .pointer (some ⟨w.heap.size, 0, none⟩), .pointer (some ⟨w.heap.size + 1, 0, none⟩), u6, u7, u8, u9, u10, u11, u12, u13, u14, u15, u16, u17, u18, u19, u20, u21, u22, u23, u24, u25, u26, u27, u28, u29, u30, u31, u32, u33, u34, u35, u36, u37, u38, u39, u40, u41, u42, u43, u44, u45, u46, u47, u48, u49, u50, u51, u52, u53, u54, u55, u56, u57, u58, u59, u60, u61, u62, u63, u64, u65, u66, u67, u68, u69, u70, u71, u72, u73, u74, u75, u76, u77, u78, u79, u80, u81, u82, u83, u84, u85, u86, u87, u88, u89, u90], []⟩ wc := by
  conv => arg 2; whnf
  dsimp only
  have SH := Lib.hid h
  have KH := Lib.hid k
  have h' := h.later HD.out.bl
  have CO := h'.ctl
  have lt := h'.lt
  have c0 := k.c0
  have c1 := k.c1
  have m1 := bit16 c0 c1 4096 (by decide)
  have m2 := bit16 c0 c1 128 (by decide)
  have m3 := bit16 c0 c1 32 (by decide)
  have DF : Hid (drawF s line = layL s line (listV s line 128 0 (leftV s)) emptyD) := Lib.hid (by unfold drawF spritesV; rw [if_pos ho])
  obtain ⟨o1, o2, l0, l1⟩ := ho
  have g1 : (s.ctl / 4096 % 2 == 0) = false := by rw [o1]; rfl
  have g2 : (s.ctl / 128 % 2 == 1) = false := by rw [o2]; rfl
  have g3 : decide (line < 0) = false := decide_eq_false (by omega)
  have g4 : decide (160 ≤ line) = false := decide_eq_false (by omega)
  have LV : Hid (leftV s = if s.ctl / 32 % 2 = 1 then 954 else 1210) := Lib.hid rfl
  generalize hL : leftV s = L0 at *
  have HL := Lib.hid hL
  clear h h' k o1 o2 hL
  generalize s.ctl = c at *
  go_upto_if 54 with fail
  go_cut [7] (fun lv wx => lv = .int .i64 L0 ∧ wc = wx)
  case first =>
    have LH := LV.out
    by_cases g : c / 32 % 2 = 1
    · rw [if_pos g] at LH
      have LH2 := Lib.hid LH
      have gg : (c / 32 % 2 == 1) = true := by rw [g]; rfl
      clear LH g
      go_wp2_with fail
      go_meet
      case rel => exact ⟨by rw [LH2.out], rfl⟩
    · rw [if_neg g] at LH
      have LH2 := Lib.hid LH
      have gg : (c / 32 % 2 == 1) = false := by simpa using g
      clear LH g
      go_wp2_with fail
      go_meet
      case rel => exact ⟨by rw [LH2.out], rfl⟩
  case rest =>
  obtain ⟨rfl, rfl⟩ := hcut
  have LB : Hid (0 ≤ L0 ∧ L0 ≤ 1210) := Lib.hid (by rw [LV.out]; split <;> omega)
  clear CO lt m1 m2 m3 g1 g2 g3 g4 LV
  go_wp2_with fail
  go_loopw [7, 55] (fun lv iv wr => ∃ (n : Nat) (left : Int) (F : Nat → Ds), iv = .int .i64 n ∧ lv = .int .i64 left ∧ n ≤ 128 ∧ 0 ≤ left ∧ left ≤ 1210 ∧ Dr w wr F ∧ layL s line (listV s line (128 - n) n left) F = drawF s line) (fun _ iv _ => 128 - (intOf iv).toNat)
  case atStart => exact ⟨0, L0, emptyD, rfl, rfl, by omega, LB.out.1, LB.out.2, HD.out, DF.out.symm⟩
  case round =>
    obtain ⟨n, left, F, rfl, rfl, hn, lb0, lb1, DR, EQ⟩ := hrel
    by_cases hlt : n < 128
    · have tt : decide ((n : Int) < 128) = true := by simp; omega
      obtain ⟨m, hm⟩ : ∃ m, 128 - n = m + 1 := ⟨127 - n, by omega⟩
      rw [hm] at EQ
      have hm2 : m = 128 - (n + 1) := by omega
      have RD := Lib.hid (read_any (SH.out.later DR.bl) KH.out hlt)
      have DRH := Lib.hid DR
      have EQH := Lib.hid EQ
      clear hm DR EQ
      cases hk : okV s n
      · have HM : hits s line n = false := by unfold hits; rw [hk]; rfl
        have HK := Lib.hid hk
        have ED : Hid (layL s line (listV s line (128 - (n + 1)) (n + 1) left) F = drawF s line) := Lib.hid (by rw [← EQH.out, list_miss HM, hm2])
        clear hk HM EQH hm2
        have ZL := zeroSp
        go_wp2_with (first | (go_at_call 14; ((with_reducible refine RD.out.mono ?_); rintro e w1 ⟨hb1, ho1, ho2⟩; obtain ⟨p, rfl⟩ := ho2 HK.out)) | (refine wpList_store_row rfl 62 (.tmp 9) (.tmp 62) rfl w1.heap.size (cellsP p).toArray rfl rfl 62 _ (alloc_new _ _) (info_spP p) (z19_size p) (sp_one p) ?_; rw [alloc_setRow]))
        exact ⟨⟨n + 1, left, F, by go_num, rfl, by omega, lb0, lb1, (DRH.out.later hb1).later ((Below.refl _ _).alloc (Nat.le_refl _) _), ED.out⟩, by simp [intOf]; omega⟩
      · have HK := Lib.hid hk
        have ZL := zeroSp
        go_upto_region 16 with (first | (go_at_call 14; ((with_reducible refine RD.out.mono ?_); rintro e w1 ⟨hb1, ho1, ho2⟩; obtain rfl := ho1 HK.out)) | (refine wpList_store_row rfl 62 (.tmp 9) (.tmp 62) rfl w1.heap.size (cellsP (spV s n)).toArray rfl rfl 62 _ (alloc_new _ _) (info_spP _) (z19_size _) (sp_one _) ?_; rw [alloc_setRow]))
        clear ZL ho1 ho2
        have D2 : Hid (Dr w (w1.alloc (.cells (cellsP (spV s n)).toArray 62)) F) := Lib.hid ((DRH.out.later hb1).later ((Below.refl _ _).alloc (Nat.le_refl _) _))
        have P2 : Pn (w1.alloc (.cells (cellsP (spV s n)).toArray 62)) w1.heap.size (spV s n) := ⟨alloc_new _ _⟩
        have NE : w.heap.size + 1 < w1.heap.size := sizeAt (DRH.out.later hb1).rw_
        clear hb1 RD DRH
        generalize w1.alloc _ = w2 at *
        generalize w1.heap.size = pb at *
        have CY := P2.c_y
        have CH := P2.c_boxH
        have LP := P2.lt
        have PO := sp_ok KH.out n
        have POH := Lib.hid PO
        have y0 := PO.y0
        have y1 := PO.y1
        have bh := PO.bh
        have h8 := PO.h
        have hb0 : 8 ≤ (spV s n).boxH := by omega
        have hb1 : (spV s n).boxH ≤ 128 := by omega
        have PH := Lib.hid P2
        have HV : Hid (hits s line n = (okV s n && decide ((spV s n).y ≤ line) && decide (line < (spV s n).y + (spV s n).boxH))) := Lib.hid rfl
        have CB := Lib.hid (cost_bd PO)
        have CA := Lib.hid (cost_any P2 PO)
        clear PO bh h8 P2 hk
        generalize hsp : spV s n = p at *
        have HSP := Lib.hid hsp
        clear hsp
        generalize hpy : p.y = py at *
        generalize hph : p.boxH = ph at *
        have HPY := Lib.hid hpy
        have HPH := Lib.hid hph
        clear hpy hph
        have ew : IntKind.i64.wrap (py + ph) = py + ph := i64_in (by omega) (by omega)
        by_cases hh : py ≤ line ∧ line < py + ph
        · have HM : Hid (hits s line n = true) := Lib.hid (by rw [HV.out, HK.out, decide_eq_true hh.1, decide_eq_true hh.2]; rfl)
          have t1 : decide (line < py) = false := decide_eq_false (by omega)
          have t2 : decide (py + ph ≤ line) = false := decide_eq_false (by omega)
          obtain ⟨c0, c1⟩ := CB.out
          by_cases hc : left - costV p < 0
          · have t3 : decide (left - costV p < 0) = true := decide_eq_true hc
            have EE : Hid (F = drawF s line) := Lib.hid (by rw [← EQH.out, list_stop HM.out (by rw [HSP.out]; exact hc)]; rfl)
            have R0 := Lib.hid D2.out.rc
            have R1 := Lib.hid D2.out.rw_
            have fin : Hid (Below w.heap.size w (w2.setRow w.heap.size (rowC F).toArray)) := Lib.hid (below_only D2.out.bl (only_row (Only.refl R0.out) _) (Nat.le_refl _) D2.out.bl.size)
            clear hh hc HV HM EQH hm2 HD
            generalize costV p = cv at *
            go_wp2_with (first | (go_at_call 15; ((with_reducible refine CA.out.mono ?_); rintro e w' ⟨rfl, rfl⟩)) | (refine wpList_load_row rfl 49 (.tmp 5) rfl (w.heap.size + 1) rfl 49 _ (0, 0) _ R1.out Try.underlying49 rfl (info_rowC _) ?_) | (refine wpList_store_row rfl 49 (.tmp 4) (.tmp 90) rfl w.heap.size (rowC F).toArray rfl rfl 49 (rowC zeroD).toArray R0.out (info_rowC _) (by rw [row_size, row_size]) (row_one _) ?_))
            exact bodyPost_ret (results_cell_row rfl _ _ w.heap.size 49 _ _ _ rfl (setRow_heap _ _ _ _ _ _ R0.out) Try.underlying49 rfl (info_rowC _)) rfl ⟨by rw [← EE.out]; rfl, fin.out⟩
          · have t3 : decide (left - costV p < 0) = false := decide_eq_false hc
            have ED : Hid (layL s line (listV s line (128 - (n + 1)) (n + 1) (left - costV p)) (laidD s p line F) = drawF s line) := Lib.hid (by rw [← EQH.out, list_hit HM.out (by rw [HSP.out]; exact hc), hm2, HSP.out]; rw [← HSP.out]; rfl)
            have SD := Lib.hid (sdraw_any (T := T) SH.out KH.out D2.out.bl (Nat.le_succ _) D2.out.rw_ PH.out POH.out (show pb ≠ w.heap.size + 1 by omega) (line := line) (by omega) (by omega) (by rw [HPY.out]; exact hh.1) (by rw [HPY.out, HPH.out]; exact hh.2))
            have LG := Lib.hid (show 0 ≤ left - costV p ∧ left - costV p ≤ 1210 by omega)
            clear hh hc HV HM EQH hm2
            generalize costV p = cv at *
            go_wp2_with (first | (go_at_call 15; ((with_reducible refine CA.out.mono ?_); rintro e w' ⟨rfl, rfl⟩)) | (go_at_call 16; ((with_reducible refine SD.out.mono ?_); rintro e w3 ⟨rfl, ON⟩)))
            exact ⟨⟨n + 1, left - cv, _, by go_num, rfl, by omega, LG.out.1, LG.out.2, D2.out.only ON, ED.out⟩, by simp [intOf]; omega⟩
        · have HM : Hid (hits s line n = false) := Lib.hid (by rw [HV.out, HK.out, Bool.true_and, ← Bool.decide_and]; exact decide_eq_false hh)
          have hc : decide (line < py) = true ∨ (decide (line < py) = false ∧ decide (py + ph ≤ line) = true) := by
            simp only [decide_eq_true_eq, decide_eq_false_iff_not]; omega
          have ED : Hid (layL s line (listV s line (128 - (n + 1)) (n + 1) left) F = drawF s line) := Lib.hid (by rw [← EQH.out, list_miss HM.out, hm2])
          clear hh HV EQH hm2
          rcases hc with t | ⟨t, t2⟩
          all_goals
            go_wp2_with fail
            exact ⟨⟨n + 1, left, F, by go_num, rfl, by omega, lb0, lb1, D2.out, ED.out⟩, by simp [intOf]; omega⟩
    · have nn : n = 128 := by omega
      have tt : decide ((n : Int) < 128) = false := by simp; omega
      have EE : F = drawF s line := by rw [nn] at EQ; exact EQ
      have R0 := Lib.hid DR.rc
      have R1 := Lib.hid DR.rw_
      have HB := Lib.hid DR.bl
      have HE := Lib.hid EE
      clear nn EQ DR EE hlt HD
      have fin : Hid (Below w.heap.size w (wr.setRow w.heap.size (rowC F).toArray)) := Lib.hid (below_only HB.out (only_row (Only.refl R0.out) _) (Nat.le_refl _) HB.out.size)
      go_wp2_with (first | (refine wpList_load_row rfl 49 (.tmp 5) rfl (w.heap.size + 1) rfl 49 _ (0, 0) _ R1.out Try.underlying49 rfl (info_rowC _) ?_) | (refine wpList_store_row rfl 49 (.tmp 4) (.tmp 90) rfl w.heap.size (rowC F).toArray rfl rfl 49 (rowC zeroD).toArray R0.out (info_rowC _) (by rw [row_size, row_size]) (row_one _) ?_))
      exact bodyPost_ret (results_cell_row rfl _ _ w.heap.size 49 _ _ _ rfl (setRow_heap _ _ _ _ _ _ R0.out) Try.underlying49 rfl (info_rowC _)) rfl ⟨by rw [← HE.out]; rfl, fin.out⟩
theorem D0_heap (w : World) : Dr w ((w.alloc (rowO zeroD)).alloc (rowO zeroD)) zeroD := by
  have A1 : ((w.alloc (rowO zeroD)).alloc (rowO zeroD)).heap[w.heap.size]? = some (rowO zeroD) := alloc_old _ (alloc_new _ _)
  have A2 : ((w.alloc (rowO zeroD)).alloc (rowO zeroD)).heap[w.heap.size + 1]? = some (rowO zeroD) := by
    have := alloc_new (w.alloc (rowO zeroD)) (rowO zeroD)
    simpa using this
  exact ⟨A1, A2, ((Below.refl _ _).alloc (Nat.le_refl _) _).alloc (by simp) _⟩
def nilV (p : Option Addr) (s : Sc) (line : Int) : Nat → Ds := match p with | none => emptyD | some _ => drawF s line
/-- A scene, or none. -/
def Scn (w : World) (p : Option Addr) (T : TypeId) (s : Sc) : Prop := p = none ∨ ∃ sb, p = some ⟨sb, 0, none⟩ ∧ Sn w sb T s ∧ Sok s
set_option maxRecDepth 1000000 in
set_option maxHeartbeats 16000000 in
theorem draw_any {w : World} {p : Option Addr} {T : TypeId} {s : Sc} (h : Scn w p T s) (line : Int) :
    Calls Try.prog 10 #[.pointer p, .int .i64 line] w fun e w' => e = .returned (rowVal (nilV p s line)) ∧ Below w.heap.size w w' := by
  have ZL := zeroRow
  have HH := Lib.hid h
  clear h
  obtain ⟨G, hG⟩ : ∃ G, nilV p s line = G := ⟨_, rfl⟩
  rw [hG]
  have HG := Lib.hid hG
  clear hG
  go_enter Try.func10, Try.ntmps10
  go_upto_block 0 with fail
  clear ZL
  change Code.wp _ _ _ _ ((w.alloc (rowO zeroD)).alloc (rowO zeroD))
  have D0 := Lib.hid (D0_heap w)
  generalize (w.alloc (rowO zeroD)).alloc (rowO zeroD) = w2 at *
  go_cut [] (fun wx => Hid (Dr w wx emptyD))
  case first =>
    have D1 : Hid (Dr w w2 (uptoE 0)) := Lib.hid (D0.out.to (by rw [uptoE_zero]))
    go_wp2_with fail
    go_loopw [11] (fun iv wr => ∃ (n : Nat), iv = .int .i64 n ∧ n ≤ 240 ∧ Dr w wr (uptoE n)) (fun iv _ => 240 - (intOf iv).toNat)
    case atStart => exact ⟨0, rfl, by omega, D1.out⟩
    case round =>
      obtain ⟨n, rfl, hn, DR⟩ := hrel
      by_cases hlt : n < 240
      · have tt : decide ((n : Int) < 240) = true := by simp; omega
        have n0 : (0 : Int) ≤ (n : Int) := by omega
        have n1 : (n : Int) < 240 := by omega
        have lr := sizeAt DR.rw_
        have FRZ := freeAt DR.rw_
        have CCc := (cellsAt DR.rw_ (n * 3)).trans (row_c (uptoE n) hlt)
        have CCp := (cellsAt DR.rw_ (n * 3 + 1)).trans (row_p (uptoE n) hlt)
        have CCs := (cellsAt DR.rw_ (n * 3 + 2)).trans (row_s (uptoE n) hlt)
        have DN : Hid (Dr w (((wr.setCell ⟨w.heap.size + 1, n * 3, none⟩ (.int .u16 32768)).setCell ⟨w.heap.size + 1, n * 3 + 1, none⟩ (.int .i64 0)).setCell ⟨w.heap.size + 1, n * 3 + 2, none⟩ (.bool false)) (uptoE (n + 1))) := by
          have a1 := (((Only.refl DR.rw_).set (j := n * 3) (.int .u16 32768)).set (j := n * 3 + 1) (.int .i64 0)).set (j := n * 3 + 2) (.bool false)
          rw [row_set3 _ hlt, uptoE_set] at a1
          exact Lib.hid (DR.only a1)
        clear DR hlt
        generalize (uptoE n n).c = dc at *
        generalize (uptoE n n).p = dp at *
        generalize (uptoE n n).s = ds at *
        go_wp2_with fail
        exact ⟨⟨n + 1, by go_num, by omega, DN.out⟩, by simp [intOf]; omega⟩
      · have nn : n = 240 := by omega
        have tt : decide ((n : Int) < 240) = false := by simp; omega
        have DE : Hid (Dr w wr emptyD) := by rw [nn] at DR; exact Lib.hid (DR.to uptoE_end)
        clear nn DR hlt
        go_wp2_with fail
        go_meet
        case rel => exact DE
  case rest =>
    go_step
    rcases HH.out with rfl | ⟨sb, rfl, hs, hk⟩
    · obtain rfl : G = emptyD := HG.out.symm
      exact draw_quit (T := T) (s := s) hcut (.inl rfl)
    · by_cases ho : onV s line
      · obtain rfl : G = drawF s line := HG.out.symm
        exact draw_on hcut hs hk ho
      · have e : drawF s line = emptyD := by
          unfold drawF spritesV
          rw [if_neg ho]; rfl
        obtain rfl : G = emptyD := by rw [← e]; exact HG.out.symm
        exact draw_quit (T := T) (s := s) hcut (.inr ⟨sb, rfl, hs, hk, ho⟩)
end Go.Proofs.Ythbpcenobaloaaa.Pj
