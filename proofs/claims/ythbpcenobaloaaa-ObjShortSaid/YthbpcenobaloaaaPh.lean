/- Package obj, walked: read's end. -/
import Derived.Test.YthbpcenobaloaaaPg
namespace Go.Proofs.Ythbpcenobaloaaa.Ph
set_option linter.unusedVariables false
set_option linter.unusedSimpArgs false
open Go.RowKit Go.Proofs.Ythbpcenobaloaaa.Bt Go.Proofs.Ythbpcenobaloaaa.Wk Go.Proofs.Ythbpcenobaloaaa.Sg Go.Proofs.Ythbpcenobaloaaa.Gp Go.Proofs.Ythbpcenobaloaaa.Gm Go.Proofs.Ythbpcenobaloaaa.Pp Go.Proofs.Ythbpcenobaloaaa.Pa Go.Proofs.Ythbpcenobaloaaa.Pb Go.Proofs.Ythbpcenobaloaaa.Pc Go.Proofs.Ythbpcenobaloaaa.Lp Go.Proofs.Ythbpcenobaloaaa.Pg

def aft : Nat → Code → Code
  | 0, c => c
  | n + 1, .seq _ y => aft n y
  | _ + 1, c => c
noncomputable def restR : Code := aft 10 (Try.f14.body.getD .skip)
set_option maxRecDepth 1000000 in
set_option maxHeartbeats 16000000 in
theorem read_tail {w wc : World} {sb pb : Nat} {T : TypeId} {s : Sc} {i : Nat} {u2 u3 u5 u10 u11 u12 u13 u14 u15 u16 u17 u18 u19 u20 u21 u22 u23 u24 u25 u26 u27 u28 u29 u30 u31 u32 u33 u34 u35 u36 u37 u38 u39 u40 u41 u42 u43 u44 u45 u46 u47 u48 u49 u50 u51 u52 u53 u54 u55 u56 u57 u58 u59 u60 u61 u62 u63 u64 u65 u66 u67 u68 u69 u70 u71 u72 u73 u74 u75 u76 u77 u78 u79 u80 u81 u82 u83 u84 u85 u86 u87 u88 u89 u90 u91 u92 u93 u94 u95 u96 u97 u98 u99 u100 u101 u102 u103 u104 u105 u106 u107 u108 u109 u110 u111 u112 u113 u114 u115 u116 u117 u118 u119 u120 u121 u122 u123 u124 u125 u126 u127 u128 u129 u130 u131 u132 u133 u134 u135 u136 u137 u138 u139 u140 u141 u142 u143 u144 u145 u146 u147 u148 u149 u150 u151 u152 u153 u154 u155 u156 u157 u158 u159 u160 u161 u162 u163 u164 u165 u166 u167 u168 u169 : Value} (hi : i < 128) (KH : Hid (Sok s)) (GK : Hid (okV s i = true)) (RS : Hid (Rs w wc sb T s pb (spE s i))) :
    Code.wp Try.prog restR (bodyPost Try.prog Try.f14 (fun e w' => ROut w s i e w')) ⟨#[.pointer (some ⟨sb, 0, none⟩), .int .i64 i, u2, u3, .pointer (some ⟨w.heap.size, 0, none⟩), u5, .int .u16 (wA s i), .int .u16 (wB s i), .int .u16 (wC s i), .pointer (some ⟨pb, 0, none⟩), u10, u11, u12, u13, u14, u15, u16, u17, u18, u19, u20, u21, u22, u23, u24, u25, u26, u27, u28, u29, u30, u31, u32, u33, u34, u35, u36, u37, u38, u39, u40, u41, u42, u43, u44, u45, u46, u47, u48, u49, u50, u51, u52, u53, u54, u55, u56, u57, u58, u59, u60, u61, u62, u63, u64, u65, u66, u67, u68, u69, u70, u71, u72, u73, u74, u75, u76, u77, u78, u79, u80, u81, u82, u83, u84, u85, u86, u87, u88, u89, u90, u91, u92, u93, u94, u95, u96, u97, u98, u99, u100, u101, u102, u103, u104, u105, u106, u107, u108, u109, u110, u111, u112, u113, u114, u115, u116, u117, u118, u119, u120, u121, u122, u123, u124, u125, u126, u127, u128, u129, u130, u131, u132, u133, u134, u135, u136, u137, u138, u139, u140, u141, u142, u143, u144, u145, u146, u147, u148, u149, u150, u151, u152, u153, u154, u155, u156, u157, u158, u159, u160, u161, u162, u163, u164, u165, u166, u167, u168, u169], []⟩ wc := by
  conv => arg 2; whnf
  dsimp only
  have BA := wA_bd KH.out i
  have BB := wB_bd KH.out i
  have lrp := RS.out.lt
  generalize hA : wA s i = A at *
  generalize hBB : wB s i = B at *
  generalize wC s i = C at *
  have HA := Lib.hid hA
  have HBB := Lib.hid hBB
  clear hA hBB
  obtain ⟨a0, a1⟩ := BA
  obtain ⟨b0, b1⟩ := BB
  have C6 : wc.cell? ⟨pb, 6, none⟩ = some (.bool (isTurned s i)) := cellsAt RS.out.pn 6
  have LP := sizeAt RS.out.pn
  have Fz := freeAt RS.out.pn
  have C2 : wc.cell? ⟨pb, 2, none⟩ = some (.int .i64 (spV s i).wide) := cellsAt RS.out.pn 2
  have C3 : wc.cell? ⟨pb, 3, none⟩ = some (.int .i64 (spV s i).high) := cellsAt RS.out.pn 3
  have C4 : wc.cell? ⟨pb, 4, none⟩ = some (.int .i64 (spV s i).wide) := cellsAt RS.out.pn 4
  have C5 : wc.cell? ⟨pb, 5, none⟩ = some (.int .i64 (spV s i).high) := cellsAt RS.out.pn 5
  have C10 : wc.cell? ⟨pb, 10, none⟩ = some (.bool false) := cellsAt RS.out.pn 10
  have C11 : wc.cell? ⟨pb, 11, none⟩ = some (.bool false) := cellsAt RS.out.pn 11
  have PO := sp_ok KH.out i
  have pw := PO.w
  have ph := PO.h
  have w0 : 0 ≤ (spV s i).wide := by omega
  have w1 : (spV s i).wide ≤ 64 := by omega
  have h0 : 0 ≤ (spV s i).high := by omega
  have h1 : (spV s i).high ≤ 64 := by omega
  clear PO pw ph
  have HTV : Hid (isTurned s i = isTurned s i) := Lib.hid rfl
  generalize hW : (spV s i).wide = wd at *
  generalize hH : (spV s i).high = hg at *
  have HWD := Lib.hid hW
  have HHG := Lib.hid hH
  clear hW hH
  go_upto_if 123 with fail
  go_cut [] (fun wx => Hid (Rs w wx sb T s pb (spV s i)))
  case first =>
    cases ht : isTurned s i
    · rw [ht] at C6
      have HT := Lib.hid ht
      clear ht C2 C3 C4 C5 HTV
      have m1 := bit16 b0 b1 4096 (by decide)
      have m2 := bit16 b0 b1 8192 (by decide)
      have E1 := Lib.hid (sp_plain HT.out HBB.out)
      have Fz2 : ∀ j, (wc.setCell ⟨pb, 10, none⟩ (.bool (B / 4096 % 2 == 1))).frozen? ⟨pb, j, none⟩ = false := freeAt (set_at _ RS.out.pn)
      go_wp2_with fail
      go_meet
      case rel => exact Lib.hid ((RS.out.set (p' := { spE s i with flipX := B / 4096 % 2 == 1 }) rfl).set E1.out)
    · rw [ht] at C6
      have HT := Lib.hid ht
      clear ht C10 C11 HTV
      have m9 := bit16 a0 a1 512 (by decide)
      have E0 := Lib.hid (fun g => sp_box0 (s := s) (i := i) HT.out (by rw [HA.out]; exact g))
      have E1 := Lib.hid (fun g => sp_box1 (s := s) (i := i) HT.out (by rw [HA.out]; exact g))
      rw [HWD.out, HHG.out] at E1
      have Fz2 : ∀ j, (wc.setCell ⟨pb, 4, none⟩ (.int .i64 (2 * wd))).frozen? ⟨pb, j, none⟩ = false := freeAt (set_at _ RS.out.pn)
      go_upto_if 127 with fail
      go_cut [] (fun wx => Hid (Rs w wx sb T s pb (spT s i)))
      case first =>
        by_cases g : A / 512 % 2 = 1
        · have gg : (A / 512 % 2 == 1) = true := by rw [g]; rfl
          have E2 := Lib.hid (E1.out g)
          clear g E0 E1
          go_wp2_with fail
          go_meet
          case rel => exact Lib.hid ((RS.out.set (p' := { spE s i with boxW := 2 * wd }) rfl).set E2.out)
        · have gg : (A / 512 % 2 == 1) = false := by simpa using g
          have E2 := Lib.hid (E0.out g)
          clear g E0 E1
          go_wp2_with fail
          go_meet
          case rel => exact Lib.hid (by rw [← E2.out]; exact RS.out)
      case rest =>
        clear C2 C3 C4 C5 C6 LP Fz Fz2 RS E0 E1 m9
        have RS := hcut
        clear hcut
        generalize wc = wd1 at *
        have PB := Lib.hid (fun k => par_bd KH.out i k)
        obtain ⟨t, ht⟩ : ∃ t, B / 512 % 32 = t := ⟨_, rfl⟩
        have t0 : 0 ≤ t := by omega
        have t1 : t < 32 := by omega
        have PV : Hid (∀ k : Int, parV s i k = sext (halfV s.oa (t * 32 + 8 * k + 6))) := Lib.hid fun k => by unfold parV; rw [HBB.out, ht]
        have mt : Go.bits .and .u16 (B / 512) 31 = t := by have := and_mask_u16 (a := B / 512) (by omega) (by omega) 5 (by decide); rw [← ht]; simpa using this
        have HTT := Lib.hid ht
        clear ht
        go_wp2_with fail
        go_loopw [136] (fun kv wr => ∃ k : Nat, kv = .int .i64 k ∧ k ≤ 4 ∧ Rs w wr sb T s pb (parK s i k)) (fun kv _ => 4 - (intOf kv).toNat)
        case atStart => exact ⟨0, rfl, by omega, by rw [parK_zero]; exact RS.out⟩
        case round =>
          obtain ⟨k, rfl, hk, RK⟩ := hrel
          by_cases hlt : k < 4
          · have tt : decide ((k : Int) < 4) = true := by simp; omega
            have k0 : (0 : Int) ≤ (k : Int) := by omega
            have k1 : (k : Int) < 4 := by omega
            have HC := Lib.hid (ohalf_any RK.sn.oa KH.out.oa (t * 32 + 8 * (k : Int) + 6) (by omega) (by omega))
            have CO := RK.sn.oam
            unfold Mem.v at CO HC
            have lts := RK.sn.lt
            have pb' := PB.out k
            have PK := PV.out k
            obtain ⟨v, hv⟩ := parK_at s i hlt
            have CP : wr.cell? ⟨pb, 12 + k, none⟩ = some (.int .i64 v) := by rw [cellsAt RK.pn]; exact hv
            have Fz := freeAt RK.pn
            have LP := sizeAt RK.pn
            have RN : Hid (∀ n, Rs w ((wr.drewN n).setCell ⟨pb, 12 + k, none⟩ (.int .i64 (parV s i k))) sb T s pb (parK s i (k + 1))) := Lib.hid fun n => (RK.drewN n).set (parK_set s i hlt)
            have HB := Lib.hid (halfV_bd KH.out.oa (t * 32 + 8 * (k : Int) + 6))
            generalize halfV s.oa (t * 32 + 8 * (k : Int) + 6) = hh at *
            have ew : IntKind.i16.wrap hh = parV s i k := by rw [PK]; exact wrap_i16s HB.out.1 HB.out.2
            obtain ⟨p0, p1⟩ := pb'
            clear PK RK hv hlt
            generalize parV s i k = pv at *
            go_wp2_with (go_at_call 22; ((with_reducible refine HC.out.mono ?_); rintro e w' ⟨rfl, q, rfl⟩))
            exact ⟨⟨k + 1, by go_num, by omega, RN.out _⟩, by simp [intOf]; omega⟩
          · have nn : k = 4 := by omega
            have tt : decide ((k : Int) < 4) = false := by simp; omega
            have RE : Hid (Rs w wr sb T s pb (spV s i)) := Lib.hid (by rw [← parK_end HT.out]; rw [nn] at RK; exact RK)
            clear nn RK hlt
            go_wp2_with fail
            go_meet
            case rel => exact RE
  case rest =>
    clear C2 C3 C4 C5 C6 C10 C11 LP Fz RS lrp
    have RS := hcut
    clear hcut
    generalize wc = w9 at *
    have P9 := Lib.hid RS.out.pn
    have R9 := Lib.hid RS.out.rc
    have E9 := Lib.hid (RS.out.out (q := spV s i))
    clear RS
    generalize hSP : spV s i = P6 at *
    have HSP := Lib.hid hSP
    clear hSP
    go_wp2_with (first | (refine wpList_load_row rfl 62 (.tmp 9) rfl pb rfl 62 _ (0, 0) _ P9.out Try.underlying62 rfl (info_spP P6) ?_) | (refine wpList_store_row rfl 62 (.tmp 4) (.tmp 169) rfl w.heap.size (cellsP P6).toArray rfl rfl 62 z19 R9.out (info_spP P6) (z19_size P6) (sp_one P6) ?_))
    exact bodyPost_ret (results_row_tmp rfl _ _ w.heap.size 62 _ _ _ rfl (setRow_heap _ _ _ _ _ _ R9.out) rfl Try.underlying62 (info_spP P6)) rfl ⟨E9.out, fun _ => by rw [HSP.out]; rfl, fun h => absurd h (by rw [GK.out]; decide)⟩
end Go.Proofs.Ythbpcenobaloaaa.Ph
