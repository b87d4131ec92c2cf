/- Package obj, walked: read. -/
import Derived.Test.YthbpcenobaloaaaPh
namespace Go.Proofs.Ythbpcenobaloaaa.Pf
set_option linter.unusedVariables false
set_option linter.unusedSimpArgs false
open Go.RowKit Go.Proofs.Ythbpcenobaloaaa.Bt Go.Proofs.Ythbpcenobaloaaa.Wk Go.Proofs.Ythbpcenobaloaaa.Sg Go.Proofs.Ythbpcenobaloaaa.Gp Go.Proofs.Ythbpcenobaloaaa.Gm Go.Proofs.Ythbpcenobaloaaa.Pp Go.Proofs.Ythbpcenobaloaaa.Pa Go.Proofs.Ythbpcenobaloaaa.Pb Go.Proofs.Ythbpcenobaloaaa.Pc Go.Proofs.Ythbpcenobaloaaa.Lp Go.Proofs.Ythbpcenobaloaaa.Pg Go.Proofs.Ythbpcenobaloaaa.Ph

set_option maxRecDepth 100000 in
set_option maxHeartbeats 16000000 in
theorem read_any {w : World} {sb : Nat} {T : TypeId} {s : Sc} (h : Sn w sb T s) (k : Sok s) {i : Nat} (hi : i < 128) :
    Calls Try.prog 14 #[.pointer (some ⟨sb, 0, none⟩), .int .i64 i] w fun e w' => ROut w s i e w' := by
  have CO := h.oam
  unfold Mem.v at CO
  have lt := h.lt
  have A0 := Lib.hid (fun w (h : Sn w sb T s) q => ohalf_any (h.oa.drewN q) k.oa (8 * (i : Int)) (by omega) (by omega))
  have A1 := Lib.hid (fun w (h : Sn w sb T s) q => ohalf_any (h.oa.drewN q) k.oa (8 * (i : Int) + 2) (by omega) (by omega))
  have A2 := Lib.hid (fun w (h : Sn w sb T s) q => ohalf_any (h.oa.drewN q) k.oa (8 * (i : Int) + 4) (by omega) (by omega))
  unfold Mem.v at A0 A1 A2
  change Hid (∀ w, Sn w sb T s → ∀ q, Calls Try.prog 22 _ _ fun e w' => e = .returned (.int .u16 (wA s i)) ∧ _) at A0
  change Hid (∀ w, Sn w sb T s → ∀ q, Calls Try.prog 22 _ _ fun e w' => e = .returned (.int .u16 (wB s i)) ∧ _) at A1
  change Hid (∀ w, Sn w sb T s → ∀ q, Calls Try.prog 22 _ _ fun e w' => e = .returned (.int .u16 (wC s i)) ∧ _) at A2
  have BA := wA_bd k i
  have BB := wB_bd k i
  have BC := wC_bd k i
  have ZL := zeroSp
  have n0 : (0 : Int) ≤ (i : Int) := by omega
  have n1 : (i : Int) < 128 := by omega
  have e1 : IntKind.i64.wrap (8 * (i : Int)) = 8 * (i : Int) := i64_in (by omega) (by omega)
  have e2 : IntKind.i64.wrap (8 * (i : Int) + 2) = 8 * (i : Int) + 2 := i64_in (by omega) (by omega)
  have e3 : IntKind.i64.wrap (8 * (i : Int) + 4) = 8 * (i : Int) + 4 := i64_in (by omega) (by omega)
  have hb0 : Below w.heap.size w (w.alloc (.cells z19 62)) := (Below.refl _ _).alloc (Nat.le_refl _) _
  have S1 := h.later hb0
  have R1 := alloc_new w (.cells z19 62)
  have SPV : Hid (spV s i = spV s i) := Lib.hid rfl
  have KH := Lib.hid k
  have HSRC := Lib.hid h
  clear h k CO lt
  go_enter Try.func14, Try.ntmps14
  go_wp2_with fail
  change Code.wp _ _ _ _ (w.alloc (.cells z19 62))
  generalize w.alloc (.cells z19 62) = w1 at *
  have CO := S1.oam
  unfold Mem.v at CO
  have lt := S1.lt
  have B0 := Lib.hid (A0.out _ S1)
  have B1 := Lib.hid (A1.out _ S1)
  have B2 := Lib.hid (A2.out _ S1)
  have S1H := Lib.hid S1
  have R1H := Lib.hid R1
  have HB0 := Lib.hid hb0
  clear S1 A0 A1 A2 R1 hb0 ZL
  generalize hA : wA s i = A at *
  generalize hBB : wB s i = B at *
  generalize hCC : wC s i = C at *
  have HA := Lib.hid hA
  have HBB := Lib.hid hBB
  have HCC := Lib.hid hCC
  clear hA hBB hCC
  go_cut [6, 7, 8] (fun av bv cv wx => av = .int .u16 A ∧ bv = .int .u16 B ∧ cv = .int .u16 C ∧ Hid (∃ q, wx = w1.drewN q))
  case first =>
    go_quiet ((first | (go_at_call 22; with_reducible exact Calls.quiet_of (B0.out _)) | (go_at_call 22; with_reducible exact Calls.quiet_of (B1.out _)) | (go_at_call 22; with_reducible exact Calls.quiet_of (B2.out _))))
    go_wp2_with fail
    go_meet
    case rel => exact ⟨rfl, rfl, rfl, Lib.hid ⟨_, rfl⟩⟩
  case rest =>
    obtain ⟨rfl, rfl, rfl, HQ⟩ := hcut
    have S2 : Hid (Sn wc sb T s) := by obtain ⟨q, e⟩ := HQ.out; rw [e]; exact Lib.hid (S1H.out.drewN q)
    have R2 : Hid (wc.heap[w.heap.size]? = some (.cells z19 62)) := by obtain ⟨q, e⟩ := HQ.out; rw [e]; exact Lib.hid (drewN_heap q R1H.out)
    have HB2 : Hid (Below w.heap.size w wc) := by obtain ⟨q, e⟩ := HQ.out; rw [e]; exact Lib.hid (below_dn HB0.out q)
    clear e1 e2 e3 B0 B1 B2 HQ CO lt S1H R1H HB0
    generalize wc = w2 at *
    obtain ⟨a0, a1⟩ := BA
    obtain ⟨b0, b1⟩ := BB
    obtain ⟨c0, c1⟩ := BC
    have m1 : Go.bits .and .u16 A 255 = A % 256 := by have := and_mask_u16 a0 a1 8 (by decide); simpa using this
    have m2 : Go.bits .and .u16 B 511 = B % 512 := by have := and_mask_u16 b0 b1 9 (by decide); simpa using this
    have m3 := bit16 a0 a1 256 (by decide)
    have m4 : Go.bits .and .u16 (A / 1024) 3 = A / 1024 % 4 := by have := and_mask_u16 (a := A / 1024) (by omega) (by omega) 2 (by decide); simpa using this
    have m5 := bit16 a0 a1 4096 (by decide)
    have m6 := bit16 a0 a1 8192 (by decide)
    have m7 : Go.bits .and .u16 C 1023 = C % 1024 := by have := and_mask_u16 c0 c1 10 (by decide); simpa using this
    have m8 : Go.bits .and .u16 (C / 1024) 3 = C / 1024 % 4 := by have := and_mask_u16 (a := C / 1024) (by omega) (by omega) 2 (by decide); simpa using this
    have m9 := bit16 a0 a1 512 (by decide)
    obtain ⟨P0, hP0⟩ : ∃ P0 : Sp, P0 = ⟨B % 512, A % 256, 0, 0, 0, 0, A / 256 % 2 == 1, A / 1024 % 4, A / 4096 % 2 == 1, A / 8192 % 2 == 1, false, false, 0, 0, 0, 0, C % 1024, C / 1024 % 4, C / 4096⟩ := ⟨_, rfl⟩
    have HP0 := Lib.hid hP0
    clear hP0
    go_upto_region 2 with fail
    go_cut [9] (fun pv wx => pv = .pointer (some ⟨w2.heap.size, 0, none⟩) ∧ w2.alloc (.cells (cellsP P0).toArray 62) = wx)
    case first =>
      have ZL := zeroSp
      go_wp2_with (refine wpList_store_row rfl 62 (.tmp 9) (.tmp 67) rfl w2.heap.size _ rfl rfl 62 _ (alloc_new _ _) info_sp rfl (by simp [Value.oneCell']) ?_; rw [alloc_setRow])
      go_meet
      case rel => exact ⟨rfl, by rw [HP0.out]; rfl⟩
    case rest =>
      obtain ⟨rfl, hw3⟩ := hcut
      have hw3 : w2.alloc (.cells (cellsP P0).toArray 62) = wc := hw3
      have R3 : Hid (wc.heap[w.heap.size]? = some (.cells z19 62)) := Lib.hid (by rw [← hw3]; exact alloc_old _ R2.out)
      have P3 : Hid (wc.heap[w2.heap.size]? = some (.cells (cellsP P0).toArray 62)) := Lib.hid (by rw [← hw3]; exact alloc_new _ _)
      have S3 : Hid (Sn wc sb T s) := Lib.hid (by rw [← hw3]; exact S2.out.later ((Below.refl _ _).alloc (Nat.le_refl _) _))
      have HB3 : Hid (Below w.heap.size w wc) := Lib.hid (by rw [← hw3]; exact HB2.out.alloc HB2.out.size _)
      have lrp : w.heap.size < w2.heap.size := sizeAt R2.out
      have lsz := HB2.out.size
      clear hw3 S2 R2 HB2 m1 m2 m4 m5 m6 m7 m8
      generalize w2.heap.size = pb at *
      generalize wc = w3 at *
      have C6 : w3.cell? ⟨pb, 6, none⟩ = some (.bool (A / 256 % 2 == 1)) := by rw [cellsAt P3.out, HP0.out]; rfl
      have C7 : w3.cell? ⟨pb, 7, none⟩ = some (.int .i64 (A / 1024 % 4)) := by rw [cellsAt P3.out, HP0.out]; rfl
      have LP := sizeAt P3.out
      have OV : Hid (okV s i = (!(A / 16384 == 3) && !(A / 1024 % 4 == 3) && ((A / 256 % 2 == 1) || !(A / 512 % 2 == 1)))) := Lib.hid (by unfold okV; rw [HA.out])
      have RS : Hid (Rs w w3 sb T s pb P0) := Lib.hid ⟨S3.out, R3.out, P3.out, HB3.out, lrp, HSRC.out⟩
      clear HSRC S3 HB3
      by_cases gk : okV s i = true
      · have g1 : (A / 16384 == 3) = false ∧ (A / 1024 % 4 == 3) = false ∧ ((A / 256 % 2 == 1) = true ∨ ((A / 256 % 2 == 1) = false ∧ (A / 512 % 2 == 1) = false)) := by
          have gk' := gk
          rw [OV.out] at gk'
          revert gk'
          cases (A / 16384 == 3) <;> cases (A / 1024 % 4 == 3) <;> cases (A / 256 % 2 == 1) <;> cases (A / 512 % 2 == 1) <;> simp
        have GK := Lib.hid gk
        clear gk OV
        obtain ⟨g1, g2, g3⟩ := g1
        have G1 := Lib.hid g1
        go_upto_region 4 with fail
        go_cut [88] (fun v wx => v = .bool false ∧ w3 = wx)
        case first =>
          rcases g3 with g | ⟨g, gg⟩
          · go_wp2_with fail
            go_meet
            case rel => exact ⟨rfl, rfl⟩
          · go_wp2_with fail
            go_meet
            case rel => exact ⟨rfl, rfl⟩
        case rest =>
        obtain ⟨rfl, rfl⟩ := hcut
        clear C6 C7 g1 g2 g3 m3 P3 R3
        obtain ⟨P1, hP1⟩ : ∃ P1 : Sp, P1 = { P0 with x := if 256 ≤ B % 512 then B % 512 - 512 else B % 512 } := ⟨_, rfl⟩
        have HP1 := Lib.hid hP1
        clear hP1
        have Fz := freeAt RS.out.pn
        have C0 : w3.cell? ⟨pb, 0, none⟩ = some (.int .i64 (B % 512)) := by rw [cellsAt RS.out.pn, HP0.out]; rfl
        go_upto_if 92 with fail
        go_cut [] (fun wx => Hid (Rs w wx sb T s pb P1))
        case first =>
          by_cases gx : 256 ≤ B % 512
          · have gx' : decide (256 ≤ B % 512) = true := decide_eq_true gx
            have e := Lib.hid (show (cellsP P0).toArray.setIfInBounds 0 (.int .i64 (B % 512 - 512)) = (cellsP P1).toArray by rw [HP1.out, HP0.out, if_pos gx]; rfl)
            go_wp2_with fail
            go_meet
            case rel => exact Lib.hid (RS.out.set e.out)
          · have gx' : decide (256 ≤ B % 512) = false := decide_eq_false gx
            have e : Hid (P1 = P0) := Lib.hid (by rw [HP1.out, if_neg gx, HP0.out])
            go_wp2_with fail
            go_meet
            case rel => exact Lib.hid (by rw [e.out]; exact RS.out)
        case rest =>
        clear Fz C0 RS LP
        have RS := hcut
        clear hcut
        generalize wc = w4 at *
        have LP := sizeAt RS.out.pn
        have Fz := freeAt RS.out.pn
        have C1 : w4.cell? ⟨pb, 1, none⟩ = some (.int .i64 (A % 256)) := by rw [cellsAt RS.out.pn, HP1.out, HP0.out]; rfl
        obtain ⟨P2, hP2⟩ : ∃ P2 : Sp, P2 = { P1 with y := if 160 ≤ A % 256 then A % 256 - 256 else A % 256 } := ⟨_, rfl⟩
        have HP2 := Lib.hid hP2
        clear hP2
        go_upto_if 99 with fail
        go_cut [] (fun wx => Hid (Rs w wx sb T s pb P2))
        case first =>
          by_cases gx : 160 ≤ A % 256
          · have gx' : decide (160 ≤ A % 256) = true := decide_eq_true gx
            have e := Lib.hid (show (cellsP P1).toArray.setIfInBounds 1 (.int .i64 (A % 256 - 256)) = (cellsP P2).toArray by rw [HP2.out, HP1.out, HP0.out, if_pos gx]; rfl)
            go_wp2_with fail
            go_meet
            case rel => exact Lib.hid (RS.out.set e.out)
          · have gx' : decide (160 ≤ A % 256) = false := decide_eq_false gx
            have e : Hid (P2 = P1) := Lib.hid (by rw [HP2.out, HP1.out, if_neg gx, HP0.out])
            go_wp2_with fail
            go_meet
            case rel => exact Lib.hid (by rw [e.out]; exact RS.out)
        case rest =>
        clear Fz C1 RS LP
        have RS := hcut
        clear hcut
        generalize wc = w5 at *
        have LP := sizeAt RS.out.pn
        have Fz := freeAt RS.out.pn
        have sn : A / 16384 < 3 := by have := G1.out; simp at this; omega
        have SZ := Lib.hid (size_any (w := w5) (A / 16384) (B / 16384) (by omega) sn (by omega) (by omega))
        generalize hSW : sizW (A / 16384) (B / 16384) = SW at *
        generalize hSH : sizH (A / 16384) (B / 16384) = SH at *
        have HSW := Lib.hid hSW
        have HSH := Lib.hid hSH
        have sbd := Lib.hid (siz_bd (A / 16384) (B / 16384))
        clear hSW hSH
        obtain ⟨P3, hP3⟩ : ∃ P3 : Sp, P3 = { P2 with wide := SW, high := SH } := ⟨_, rfl⟩
        have HP3 := Lib.hid hP3
        clear hP3
        have b14 : IntKind.i64.wrap (B / 16384) = B / 16384 := i64_in (by omega) (by omega)
        have e1 := Lib.hid (show ((cellsP P2).toArray.setIfInBounds 2 (.int .i64 SW)).setIfInBounds 3 (.int .i64 SH) = (cellsP P3).toArray by rw [HP3.out]; rfl)
        have C2 : w5.cell? ⟨pb, 2, none⟩ = some (.int .i64 P2.wide) := cellsAt RS.out.pn 2
        have C3 : w5.cell? ⟨pb, 3, none⟩ = some (.int .i64 P2.high) := cellsAt RS.out.pn 3
        have Fz2 : ∀ q j, ((w5.drewN q).setCell ⟨pb, 2, none⟩ (.int .i64 SW)).frozen? ⟨pb, j, none⟩ = false := fun q => freeAt (set_at _ (drewN_heap q RS.out.pn))
        go_upto_region 10 with fail
        go_cut [] (fun wx => Hid (Rs w wx sb T s pb P3))
        case first =>
          go_wp2_with (go_at_call 23; ((with_reducible refine SZ.out.mono ?_); rintro e w' ⟨rfl, q, rfl⟩; have Fq := Fz2 q))
          go_meet
          case rel => exact Lib.hid (((RS.out.drewN q).set (p' := { P2 with wide := SW }) rfl).set e1.out)
        case rest =>
        clear Fz Fz2 RS LP SZ e1 b14 C2 C3
        have RS := hcut
        clear hcut
        generalize wc = w6 at *
        have LP := sizeAt RS.out.pn
        have Fz := freeAt RS.out.pn
        have C2 : w6.cell? ⟨pb, 2, none⟩ = some (.int .i64 SW) := by rw [cellsAt RS.out.pn, HP3.out]; rfl
        have C3 : w6.cell? ⟨pb, 3, none⟩ = some (.int .i64 SH) := by rw [cellsAt RS.out.pn, HP3.out]; rfl
        have C4 : w6.cell? ⟨pb, 4, none⟩ = some (.int .i64 P3.boxW) := cellsAt RS.out.pn 4
        have C5 : w6.cell? ⟨pb, 5, none⟩ = some (.int .i64 P3.boxH) := cellsAt RS.out.pn 5
        obtain ⟨P4, hP4⟩ : ∃ P4 : Sp, P4 = { P3 with boxW := SW, boxH := SH } := ⟨_, rfl⟩
        have HP4 := Lib.hid hP4
        clear hP4
        have e1 := Lib.hid (show ((cellsP P3).toArray.setIfInBounds 4 (.int .i64 SW)).setIfInBounds 5 (.int .i64 SH) = (cellsP P4).toArray by rw [HP4.out]; rfl)
        have Fz2 : ∀ j, (w6.setCell ⟨pb, 4, none⟩ (.int .i64 SW)).frozen? ⟨pb, j, none⟩ = false := freeAt (set_at _ RS.out.pn)
        go_upto_region 11 with fail
        go_cut [] (fun wx => Hid (Rs w wx sb T s pb P4))
        case first =>
          go_wp2_with fail
          go_meet
          case rel => exact Lib.hid ((RS.out.set (p' := { P3 with boxW := SW }) rfl).set e1.out)
        case rest =>
        clear Fz Fz2 RS LP C2 C3 C4 C5 e1
        have RS := hcut
        clear hcut
        generalize wc = w7 at *
        have LP := sizeAt RS.out.pn
        have Fz := freeAt RS.out.pn
        have C12 : w7.cell? ⟨pb, 12, none⟩ = some (.int .i64 P4.p0) := cellsAt RS.out.pn 12
        have C13 : w7.cell? ⟨pb, 13, none⟩ = some (.int .i64 P4.p1) := cellsAt RS.out.pn 13
        have C14 : w7.cell? ⟨pb, 14, none⟩ = some (.int .i64 P4.p2) := cellsAt RS.out.pn 14
        have C15 : w7.cell? ⟨pb, 15, none⟩ = some (.int .i64 P4.p3) := cellsAt RS.out.pn 15
        obtain ⟨P5, hP5⟩ : ∃ P5 : Sp, P5 = { P4 with p0 := 256, p1 := 0, p2 := 0, p3 := 256 } := ⟨_, rfl⟩
        have HP5 := Lib.hid hP5
        clear hP5
        have e1 := Lib.hid (show (cellsP { P4 with p0 := 256, p1 := 0, p2 := 0 }).toArray.setIfInBounds 15 (.int .i64 256) = (cellsP P5).toArray by rw [HP5.out]; rfl)
        go_upto_region 12 with fail
        go_cut [] (fun wx => Hid (Rs w wx sb T s pb P5))
        case first =>
          go_wp2_with fail
          go_meet
          case rel => exact Lib.hid ((((RS.out.set (p' := { P4 with p0 := 256 }) rfl).set (p' := { P4 with p0 := 256, p1 := 0 }) rfl).set (p' := { P4 with p0 := 256, p1 := 0, p2 := 0 }) rfl).set e1.out)
        case rest =>
        have EQ : P5 = spE s i := by
          have ha := HA.out
          have hb := HBB.out
          have hc := HCC.out
          subst ha
          subst hb
          subst hc
          rw [HP5.out, HP4.out, HP3.out, HP2.out, HP1.out, HP0.out, ← HSW.out, ← HSH.out]
          rfl
        have RE : Hid (Rs w wc sb T s pb (spE s i)) := Lib.hid (by rw [← EQ]; exact hcut.out)
        have a' := HA.out
        have b' := HBB.out
        have c' := HCC.out
        subst a'
        subst b'
        subst c'
        go_step
        exact read_tail hi KH GK RE
      · have NK : Hid (okV s i = false) := Lib.hid (by simpa using gk)
        have g4 : (A / 16384 == 3) = true ∨ ((A / 16384 == 3) = false ∧ (A / 1024 % 4 == 3) = true) ∨ ((A / 16384 == 3) = false ∧ (A / 1024 % 4 == 3) = false ∧ (A / 256 % 2 == 1) = false ∧ (A / 512 % 2 == 1) = true) := by
          rw [OV.out] at gk
          revert gk
          cases (A / 16384 == 3) <;> cases (A / 1024 % 4 == 3) <;> cases (A / 256 % 2 == 1) <;> cases (A / 512 % 2 == 1) <;> simp
        clear gk
        rcases g4 with g | ⟨g, g2⟩ | ⟨g, g2, g3, g4⟩
        · go_upto_region 5 with fail
          go_wp2_with (first | (refine wpList_load_row rfl 62 (.tmp 9) rfl pb rfl 62 _ (0, 0) _ P3.out Try.underlying62 rfl (info_spP P0) ?_) | (refine wpList_store_row rfl 62 (.tmp 4) (.tmp 89) rfl w.heap.size (cellsP P0).toArray rfl rfl 62 z19 R3.out (info_spP P0) (z19_size P0) (sp_one P0) ?_))
          exact bodyPost_ret (results_row_tmp rfl _ _ w.heap.size 62 _ _ _ rfl (setRow_heap _ _ _ _ _ _ R3.out) rfl Try.underlying62 (info_spP P0)) rfl ⟨RS.out.out, fun h => absurd h (by rw [NK.out]; decide), fun _ => ⟨P0, rfl⟩⟩
        · go_upto_region 5 with fail
          go_wp2_with (first | (refine wpList_load_row rfl 62 (.tmp 9) rfl pb rfl 62 _ (0, 0) _ P3.out Try.underlying62 rfl (info_spP P0) ?_) | (refine wpList_store_row rfl 62 (.tmp 4) (.tmp 89) rfl w.heap.size (cellsP P0).toArray rfl rfl 62 z19 R3.out (info_spP P0) (z19_size P0) (sp_one P0) ?_))
          exact bodyPost_ret (results_row_tmp rfl _ _ w.heap.size 62 _ _ _ rfl (setRow_heap _ _ _ _ _ _ R3.out) rfl Try.underlying62 (info_spP P0)) rfl ⟨RS.out.out, fun h => absurd h (by rw [NK.out]; decide), fun _ => ⟨P0, rfl⟩⟩
        · go_upto_region 5 with fail
          go_wp2_with (first | (refine wpList_load_row rfl 62 (.tmp 9) rfl pb rfl 62 _ (0, 0) _ P3.out Try.underlying62 rfl (info_spP P0) ?_) | (refine wpList_store_row rfl 62 (.tmp 4) (.tmp 89) rfl w.heap.size (cellsP P0).toArray rfl rfl 62 z19 R3.out (info_spP P0) (z19_size P0) (sp_one P0) ?_))
          exact bodyPost_ret (results_row_tmp rfl _ _ w.heap.size 62 _ _ _ rfl (setRow_heap _ _ _ _ _ _ R3.out) rfl Try.underlying62 (info_spP P0)) rfl ⟨RS.out.out, fun h => absurd h (by rw [NK.out]; decide), fun _ => ⟨P0, rfl⟩⟩
end Go.Proofs.Ythbpcenobaloaaa.Pf
