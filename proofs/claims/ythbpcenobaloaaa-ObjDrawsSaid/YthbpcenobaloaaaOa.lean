/- filled, walked. -/
import Derived.Test.YthbpcenobaloaaaHf
namespace Go.Proofs.Ythbpcenobaloaaa.Oa
set_option linter.unusedVariables false
set_option linter.unusedSimpArgs false
open Go.RowKit Go.Proofs.Ythbpcenobaloaaa.Bt Go.Proofs.Ythbpcenobaloaaa.Wk Go.Proofs.Ythbpcenobaloaaa.Sg Go.Proofs.Ythbpcenobaloaaa.Gp Go.Proofs.Ythbpcenobaloaaa.Gm Go.Proofs.Ythbpcenobaloaaa.Hs Go.Proofs.Ythbpcenobaloaaa.Lp Go.Proofs.Ythbpcenobaloaaa.Pg Go.Proofs.Ythbpcenobaloaaa.Hf

theorem ix3 (a0 a1 a2 : Value) (w : World) : (Instr.index 43 (.agg #[a0, a1, a2]) (.int .i64 0)).run Try.prog w = .ok a0 w ∧ (Instr.index 43 (.agg #[a0, a1, a2]) (.int .i64 1)).run Try.prog w = .ok a1 w ∧ (Instr.index 43 (.agg #[a0, a1, a2]) (.int .i64 2)).run Try.prog w = .ok a2 w := ⟨by kernel_rfl, by kernel_rfl, by kernel_rfl⟩
theorem ix_any (f : Nat → Int) {j : Nat} (hj : j < 3) (w : World) : (Instr.index 43 (.agg #[.int .u16 (f 0), .int .u16 (f 1), .int .u16 (f 2)]) (.int .i64 j)).run Try.prog w = .ok (.int .u16 (f j)) w := by
  rcases (show j = 0 ∨ j = 1 ∨ j = 2 by omega) with rfl | rfl | rfl
  · exact (ix3 _ _ _ w).1
  · exact (ix3 _ _ _ w).2.1
  · exact (ix3 _ _ _ w).2.2
theorem upto_vr0 (x : Int) : uptoN (vrO x) (fun _ => 0) 65536 = fun _ => 0 := by
  funext k
  unfold uptoN vrO
  by_cases g : k < 65536
  · rw [if_pos g, if_pos g]
  · rw [if_neg g]
theorem upto_dead {x : Int} {k : Nat} (h : aliveN x k = false) (hk : 65536 + k ≤ 98304) : uptoN (vrO x) (fun _ => 0) (65536 + k) = uptoN (vrO x) (fun _ => 0) 98304 := by
  funext i
  unfold uptoN
  by_cases g : i < 65536 + k
  · rw [if_pos g, if_pos (by omega)]
  · rw [if_neg g]
    by_cases g2 : i < 98304
    · rw [if_pos g2]
      unfold vrO
      have := alive_later h (i - 65536 - k)
      rw [show k + (i - 65536 - k) = i - 65536 by omega] at this
      rw [if_neg (by omega), this]
      rfl
    · rw [if_neg g2]
/-- A look's words as they came in. -/
structure Lo (w : World) (A : Option Addr) (A2 : Option Addr) (d : Ok) : Prop where
  hN : d.N ≤ maxLen
  hM : d.M ≤ maxLen
  hw : Elts w A d.N 3 (fun i => [.int .u16 (d.wd i 0), .int .u16 (d.wd i 1), .int .u16 (d.wd i 2)])
  hn : Elts w A2 d.M 1 (fun i => [.int .i16 (d.nu i)])
  bw : ∀ i, i < d.N → ∀ j, j < 3 → 0 ≤ d.wd i j ∧ d.wd i j < 65536
  bn : ∀ i, i < d.M → -32768 ≤ d.nu i ∧ d.nu i < 32768
def aft : Nat → Code → Code
  | 0, c => c
  | n + 1, .seq _ y => aft n y
  | _ + 1, c => c
noncomputable def restF : Code := aft 6 (Try.f9.body.getD .skip)
set_option maxRecDepth 1000000 in
set_option maxHeartbeats 8000000 in
theorem filled_rest {w w5 : World} {s : Sc} {seed : Int} {L : List Value} {A A2 : Option Addr} {c c2 : Nat} {d : Ok} {bv bq bo : Nat} {fv fq : Nat → Int} {u4 u5 u6 u7 u8 u9 u10 u11 u12 u13 u14 u15 u16 u17 u18 u19 u20 u21 u22 u23 u24 u25 u26 u27 u28 u29 u30 u31 u32 u33 u34 u35 u36 u37 u38 u39 u40 u41 u42 u43 u44 u45 u46 u47 u48 u49 u50 u51 u52 u53 u54 u55 u56 u57 u58 u59 u60 u61 u62 u63 u64 u65 u66 u67 u68 u69 u70 u71 u72 u73 u74 u75 u76 u77 u78 u79 u80 u81 u82 u83 u84 u85 u86 u87 u88 u89 u90 u91 u92 u93 u94 u95 u96 u97 u98 u99 u100 u101 u102 u103 u104 u105 u106 u107 u108 u109 u110 u111 u112 u113 u114 u115 u116 u117 u118 u119 u120 u121 u122 u123 u124 u125 u126 u127 u128 u129 u130 u131 u132 u133 u134 u135 u136 u137 u138 u139 : Value} (HL : Hid (L = (cellsS s) ++ [Value.int .u32 seed, Value.slice A d.N c, Value.slice A2 d.M c2])) (LO : Hid (Lo w A A2 d)) (F5 : Hid (Fil w L (w.heap.size + 1) bv bq bo s fv fq (oaU d 0) w5)) :
    Code.wp Try.prog restF (bodyPost Try.prog Try.f9 (fun e w' => ∃ sb bv bq bo, e = .returned (.pointer (some ⟨sb, 0, none⟩)) ∧ Fil w L sb bv bq bo s fv fq (oaU d 128) w')) ⟨#[.agg L.toArray, .pointer (some ⟨w.heap.size, 0, none⟩), .pointer none, .pointer (some ⟨w.heap.size + 1, 0, none⟩), u4, u5, u6, u7, u8, u9, u10, u11, u12, u13, u14, u15, u16, u17, u18, u19, u20, u21, u22, u23, u24, u25, u26, u27, u28, u29, u30, u31, u32, u33, u34, u35, u36, u37, u38, u39, u40, u41, u42, u43, u44, u45, u46, u47, u48, u49, u50, u51, u52, u53, u54, u55, u56, u57, u58, u59, u60, u61, u62, u63, u64, u65, u66, u67, u68, u69, u70, u71, u72, u73, u74, u75, u76, u77, u78, u79, u80, u81, u82, u83, u84, u85, u86, u87, u88, u89, u90, u91, u92, u93, u94, u95, u96, u97, u98, u99, u100, u101, u102, u103, u104, u105, u106, u107, u108, u109, u110, u111, u112, u113, u114, u115, u116, u117, u118, u119, u120, u121, u122, u123, u124, u125, u126, u127, u128, u129, u130, u131, u132, u133, u134, u135, u136, u137, u138, u139], []⟩ w5 := by
  conv => arg 2; whnf
  dsimp only
  have hN : d.N ≤ maxLen := LO.out.hN
  have hM : d.M ≤ maxLen := LO.out.hM
  unfold maxLen at hN hM
  go_wp2_with fail
  go_loopw [7] (fun iv wr => ∃ (n : Nat), iv = .int .i64 (8 * (n : Int)) ∧ n ≤ 128 ∧ Fil w L (w.heap.size + 1) bv bq bo s fv fq (oaU d n) wr) (fun iv _ => 1024 - (intOf iv).toNat)
  case atStart => exact ⟨0, rfl, by omega, F5.out⟩
  case round =>
    obtain ⟨n, rfl, hn, F⟩ := hrel
    have CO : wr.cell? ⟨w.heap.size + 1, 28, none⟩ = some (.slice (some ⟨bo, 0, none⟩) 1024 1024) := cellsAt F.at_ 28
    have L2 := sizeAt F.at_
    have C30 : wr.cell? ⟨w.heap.size, 30, none⟩ = some (.slice A d.N c) := by
      rw [cellsAt F.bx, toArray_at, HL.out, List.getElem?_append_right (by rw [sc_len]; omega), sc_len]; rfl
    have C31 : wr.cell? ⟨w.heap.size, 31, none⟩ = some (.slice A2 d.M c2) := by
      rw [cellsAt F.bx, toArray_at, HL.out, List.getElem?_append_right (by rw [sc_len]; omega), sc_len]; rfl
    have LB := sizeAt F.bx
    by_cases hlt : n < 128
    · have tt : 8 * (n : Int) < 1024 := by omega
      have n0 : (0 : Int) ≤ (n : Int) := by omega
      have n1 : (n : Int) < 128 := by omega
      have CC : wr.cell? ⟨bo, 8 * n + 1, none⟩ = some (.int .u8 (oaU d n (8 * n + 1))) := by rw [cellsAt F.o]; exact bytes_at _ (by omega)
      have FR := freeAt F.o (8 * n + 1)
      have LL := sizeAt F.o
      have FA : Hid (Fil w L (w.heap.size + 1) bv bq bo s fv fq (oaW d n 0) (wr.setCell ⟨bo, 8 * n + 1, none⟩ (.int .u8 2))) := by
        have := F.oam (8 * n + 1) 2
        rw [oaW_zero] at this
        exact Lib.hid this
      have K1 := F.so
      have K2 := F.lo
      have e8 : 8 * (n : Int) / 8 = n := by omega
      clear F F5
      go_upto_region 20 with fail
      clear CO L2 C30 C31 LB CC FR LL
      generalize wr.setCell ⟨bo, 8 * n + 1, none⟩ (.int .u8 2) = w6 at *
      have C30 : w6.cell? ⟨w.heap.size, 30, none⟩ = some (.slice A d.N c) := by
        rw [cellsAt FA.out.bx, toArray_at, HL.out, List.getElem?_append_right (by rw [sc_len]; omega), sc_len]; rfl
      have LB := sizeAt FA.out.bx
      go_upto_if 78 with fail
      go_cut [] (fun wx => Hid (Fil w L (w.heap.size + 1) bv bq bo s fv fq (oaM d n) wx))
      case first =>
        have L0 := FA.out.be.size
        by_cases hw : n < d.N
        · obtain ⟨a, rfl, hal, hcl⟩ := LO.out.hw.cells FA.out.be hw
          have c0 := hcl 0 (by decide)
          have c1 := hcl 1 (by decide)
          have c2 := hcl 2 (by decide)
          simp only [cellAt, List.getElem?_cons_zero, List.getElem?_cons_succ] at c0 c1 c2
          have t1 : (n : Int) < (d.N : Int) := by omega
          have t2 : decide (n < d.N) = true := by simpa using hw
          have al : (a.add (n * 3)).block < w6.heap.size := by omega
          have FM : Hid (oaW d n 3 = oaM d n) := Lib.hid (by unfold oaM; rw [if_pos hw])
          have BW := Lib.hid (LO.out.bw n hw)
          have IX := Lib.hid (fun j (hj : j < 3) w => ix_any (d.wd n) hj w)
          clear hcl hw
          go_wp2_with fail
          clear c0 c1 c2 al LB C30 hal
          go_loopw [84] (fun jv wr => ∃ (j : Nat), jv = .int .i64 j ∧ j ≤ 3 ∧ Fil w L (w.heap.size + 1) bv bq bo s fv fq (oaW d n j) wr) (fun jv _ => 3 - (intOf jv).toNat)
          case atStart => exact ⟨0, rfl, by omega, FA.out⟩
          case round =>
            obtain ⟨j, rfl, hj, F⟩ := hrel
            by_cases hlt2 : j < 3
            · have j0 : (0 : Int) ≤ (j : Int) := by omega
              have j3 : (j : Int) < 3 := by omega
              have XJ := IX.out j hlt2
              obtain ⟨b0, b1⟩ := BW.out j hlt2
              have CO : wr.cell? ⟨w.heap.size + 1, 28, none⟩ = some (.slice (some ⟨bo, 0, none⟩) 1024 1024) := cellsAt F.at_ 28
              have L2 := sizeAt F.at_
              have CC : wr.cell? ⟨bo, 8 * n + 2 * j, none⟩ = some (.int .u8 (oaW d n j (8 * n + 2 * j))) := by rw [cellsAt F.o]; exact bytes_at _ (by omega)
              have CC1 : wr.cell? ⟨bo, 8 * n + 2 * j + 1, none⟩ = some (.int .u8 (oaW d n j (8 * n + 2 * j + 1))) := by rw [cellsAt F.o]; exact bytes_at _ (by omega)
              have FR := freeAt F.o
              have LL := sizeAt F.o
              have FB : Hid (Fil w L (w.heap.size + 1) bv bq bo s fv fq (oaW d n (j + 1)) ((wr.setCell ⟨bo, 8 * n + 2 * j, none⟩ (.int .u8 (d.wd n j % 256))).setCell ⟨bo, 8 * n + 2 * j + 1, none⟩ (.int .u8 (d.wd n j / 256)))) := by
                have := (F.oam (8 * n + 2 * j) (d.wd n j % 256)).oam (8 * n + 2 * j + 1) (d.wd n j / 256)
                rw [oaW_succ d n hlt2] at this
                exact Lib.hid this
              have FR2 : ∀ k, (wr.setCell ⟨bo, 8 * n + 2 * j, none⟩ (.int .u8 (d.wd n j % 256))).frozen? ⟨bo, k, none⟩ = false := freeAt ((Only.refl F.o).set (j := 8 * n + 2 * j) (.int .u8 (d.wd n j % 256))).at_
              clear F hlt2
              generalize d.wd n j = wd at *
              generalize oaW d n j (8 * n + 2 * j) = x1 at *
              generalize oaW d n j (8 * n + 2 * j + 1) = x2 at *
              go_wp2_with fail
              exact ⟨⟨j + 1, by go_num, by omega, FB.out⟩, by simp [intOf]; omega⟩
            · have nn : j = 3 := by omega
              have j3 : (3 : Int) ≤ (j : Int) := by omega
              have FE : Hid (Fil w L (w.heap.size + 1) bv bq bo s fv fq (oaM d n) wr) := Lib.hid (by rw [nn] at F; rw [← FM.out]; exact F)
              clear F hlt2 nn
              go_wp2_with fail
              go_meet
              case rel => exact FE
        · have t1 : (d.N : Int) ≤ (n : Int) := by omega
          have t2 : decide (n < d.N) = false := by simpa using hw
          have FE : Hid (Fil w L (w.heap.size + 1) bv bq bo s fv fq (oaM d n) w6) := Lib.hid (by unfold oaM; rw [if_neg hw]; exact FA.out)
          clear hw
          go_wp2_with fail
          go_meet
          case rel => exact FE
      case rest =>
        have FA := hcut
        clear hcut LB C30
        generalize wc = w7 at *
        have CO : w7.cell? ⟨w.heap.size + 1, 28, none⟩ = some (.slice (some ⟨bo, 0, none⟩) 1024 1024) := cellsAt FA.out.at_ 28
        have L2 := sizeAt FA.out.at_
        have C31 : w7.cell? ⟨w.heap.size, 31, none⟩ = some (.slice A2 d.M c2) := by
          rw [cellsAt FA.out.bx, toArray_at, HL.out, List.getElem?_append_right (by rw [sc_len]; omega), sc_len]; rfl
        have LB := sizeAt FA.out.bx
        go_upto_if 115 with fail
        by_cases hw : n < d.M
        · obtain ⟨a, rfl, hal, hcl⟩ := LO.out.hn.cells FA.out.be hw
          have c0 := hcl 0 (by decide)
          simp only [cellAt, List.getElem?_cons_zero, Nat.mul_one] at c0
          rw [Nat.mul_one] at hal
          have L0 := FA.out.be.size
          have t1 : (n : Int) < (d.M : Int) := by omega
          have t2 : decide (n < d.M) = true := by simpa using hw
          have al : (a.add n).block < w7.heap.size := by omega
          obtain ⟨b0, b1⟩ := LO.out.bn n hw
          have CC : w7.cell? ⟨bo, 8 * n + 6, none⟩ = some (.int .u8 (oaM d n (8 * n + 6))) := by rw [cellsAt FA.out.o]; exact bytes_at _ (by omega)
          have CC1 : w7.cell? ⟨bo, 8 * n + 7, none⟩ = some (.int .u8 (oaM d n (8 * n + 7))) := by rw [cellsAt FA.out.o]; exact bytes_at _ (by omega)
          have FR := freeAt FA.out.o
          have LL := sizeAt FA.out.o
          have so := FA.out.so
          have FB : Hid (Fil w L (w.heap.size + 1) bv bq bo s fv fq (oaU d (n + 1)) ((w7.setCell ⟨bo, 8 * n + 6, none⟩ (.int .u8 (d.nu n % 256))).setCell ⟨bo, 8 * n + 7, none⟩ (.int .u8 (d.nu n % 65536 / 256)))) := by
            have := (FA.out.oam (8 * n + 6) (d.nu n % 256)).oam (8 * n + 7) (d.nu n % 65536 / 256)
            rw [oaM_yes d hw] at this
            exact Lib.hid this
          have FR2 : ∀ k, (w7.setCell ⟨bo, 8 * n + 6, none⟩ (.int .u8 (d.nu n % 256))).frozen? ⟨bo, k, none⟩ = false := freeAt ((Only.refl FA.out.o).set (j := 8 * n + 6) (.int .u8 (d.nu n % 256))).at_
          clear hw hal hcl
          generalize d.nu n = nu at *
          generalize oaM d n (8 * n + 6) = x1 at *
          generalize oaM d n (8 * n + 7) = x2 at *
          go_upto_region 29 with fail
          go_region
          rw [wrap_u16, show nu % 65536 / 256 % 256 = nu % 65536 / 256 by omega]
          have FC := Lib.hid (FB.out.drewN 1)
          change Hid (Fil w L (w.heap.size + 1) bv bq bo s fv fq (oaU d (n + 1)) (((w7.setCell ⟨bo, 8 * n + 6, none⟩ (.int .u8 (nu % 256))).setCell ⟨bo, 8 * n + 7, none⟩ (.int .u8 (nu % 65536 / 256))).drew)) at FC
          clear CC CC1 FR FR2 LL L2 CO C31 LB al c0
          generalize ((w7.setCell ⟨bo, 8 * n + 6, none⟩ (.int .u8 (nu % 256))).setCell ⟨bo, 8 * n + 7, none⟩ (.int .u8 (nu % 65536 / 256))).drew = w9 at *
          go_wp2_with fail
          exact ⟨⟨n + 1, int_eq (by omega), by omega, FC.out⟩, by simp [intOf]; omega⟩
        · have t1 : (d.M : Int) ≤ (n : Int) := by omega
          have t2 : decide (n < d.M) = false := by simpa using hw
          have FE : Hid (Fil w L (w.heap.size + 1) bv bq bo s fv fq (oaU d (n + 1)) w7) := Lib.hid (by rw [← oaM_no d hw]; exact FA.out)
          clear hw
          go_wp2_with fail
          exact ⟨⟨n + 1, int_eq (by omega), by omega, FE.out⟩, by simp [intOf]; omega⟩
    · have nn : n = 128 := by omega
      have tt : 1024 ≤ 8 * (n : Int) := by omega
      have FE : Hid (Fil w L (w.heap.size + 1) bv bq bo s fv fq (oaU d 128) wr) := Lib.hid (by rw [nn] at F; exact F)
      clear F hlt nn
      go_wp2_with fail
      go_ret
      exact ⟨_, bv, bq, bo, rfl, FE.out⟩
set_option maxRecDepth 1000000 in
set_option maxHeartbeats 8000000 in
theorem filled_any {w : World} {s : Sc} (k : Sok s) (seed : Int) (hseed : 0 ≤ seed ∧ seed < 4294967296) (A A2 : Option Addr) (c c2 : Nat) (d : Ok) (L : List Value) (hL : L = (cellsS s) ++ [Value.int .u32 seed, Value.slice A d.N c, Value.slice A2 d.M c2]) (hlo : Lo w A A2 d) :
    Calls Try.prog 9 #[.agg L.toArray] w fun e w' => ∃ sb bv bq bo, e = .returned (.pointer (some ⟨sb, 0, none⟩)) ∧ Fil w L sb bv bq bo s (uptoN (vrO seed) (fun _ => 0) 98304) (uptoN (palF seed) (fun _ => 0) 1024) (oaU d 128) w' := by
  have LP : ∀ j v, (cellsS s)[j]? = some v → (w.alloc (.cells L.toArray 36)).cell? ⟨w.heap.size, 0 + j, none⟩ = some v := fun j v h => by
    rw [cellsAt (alloc_new _ _), toArray_at, hL, Nat.zero_add, List.getElem?_append_left (by rw [sc_len]; have := (List.getElem?_eq_some_iff.1 h).1; rwa [sc_len] at this), h]
  have LPH := Lib.hid LP
  have HL := Lib.hid hL
  have LO := Lib.hid hlo
  have CS := True.intro
  have CA := True.intro
  clear LP hL hlo
  go_enter Try.func9, Try.ntmps9
  go_upto_region 2 with (first | (refine wpList_load_part rfl 31 (.tmp 12) rfl w.heap.size 0 rfl (cellsS s) _ LPH.out Try.underlying31 rfl (by rw [sc_len]; exact info_scene) ?_) | (refine wpList_store_row rfl 31 (.tmp 3) (.tmp 13) rfl (w.heap.size + 1) _ rfl rfl 31 _ (alloc_new1 _ _ _) (by rw [sc_size]; exact info_scene) (by rw [sc_size]; rfl) (sc_one _) ?_; rw [alloc_setRow1]))
  have AS : (((w.alloc (.cells L.toArray 36)).alloc (.cells (cellsS s).toArray 31))).heap[w.heap.size + 1]? = some (.cells (cellsS s).toArray 31) := alloc_new1 _ _ _
  have F26 := freeAt AS 26
  have F27 := freeAt AS 27
  have F28 := freeAt AS 28
  have SZ := sizeAt AS
  have C26 : ((w.alloc (.cells L.toArray 36)).alloc (.cells (cellsS s).toArray 31)).cell? ⟨w.heap.size + 1, 26, none⟩ = some s.vr.v := cellsAt AS 26
  have C27 : ((w.alloc (.cells L.toArray 36)).alloc (.cells (cellsS s).toArray 31)).cell? ⟨w.heap.size + 1, 27, none⟩ = some s.pa.v := cellsAt AS 27
  have C28 : ((w.alloc (.cells L.toArray 36)).alloc (.cells (cellsS s).toArray 31)).cell? ⟨w.heap.size + 1, 28, none⟩ = some s.oa.v := cellsAt AS 28
  unfold Mem.v at *
  have ASH := Lib.hid AS
  clear AS CS CA
  have hb2 : Below w.heap.size w ((w.alloc (.cells L.toArray 36)).alloc (.cells (cellsS s).toArray 31)) := ((Below.refl _ _).alloc (Nat.le_refl _) _).alloc (by simp) _
  have BH2 := Lib.hid hb2
  have BXH : Hid (((w.alloc (.cells L.toArray 36)).alloc (.cells (cellsS s).toArray 31)).heap[w.heap.size]? = some (.cells L.toArray 36 (0, 0))) := Lib.hid (alloc_old _ (alloc_new _ _))
  clear hb2
  generalize (w.alloc (.cells L.toArray 36)).alloc (.cells (cellsS s).toArray 31) = w2 at *
  obtain ⟨ZV, hZV, MKV⟩ : ∃ Z : Array Value, Hid (Z = (bytesC 98304 fun _ => 0).toArray) ∧ ∀ w : World, (Instr.makeSlice 29 (.int .i64 98304) (.int .i64 98304)).run Try.prog w = .ok (.slice (some ⟨w.heap.size, 0, none⟩) 98304 98304) (w.alloc (.cells Z 5 (0, 0))) := ⟨_, Lib.hid rfl, make_bytes 98304 (by decide)⟩
  obtain ⟨ZM, hZM, MKM⟩ : ∃ Z : Array Value, Hid (Z = (bytesC 1024 fun _ => 0).toArray) ∧ ∀ w : World, (Instr.makeSlice 29 (.int .i64 1024) (.int .i64 1024)).run Try.prog w = .ok (.slice (some ⟨w.heap.size, 0, none⟩) 1024 1024) (w.alloc (.cells Z 5 (0, 0))) := ⟨_, Lib.hid rfl, make_bytes 1024 (by decide)⟩
  go_wp2_with fail
  change Code.wp _ _ _ (Act.mk _ _) _
  have SZ1 : w.heap.size + 1 < w2.heap.size + 1 := by omega
  have SZ2 : w.heap.size + 1 < w2.heap.size + 1 + 1 := by omega
  have SZ3 : w.heap.size + 1 < w2.heap.size + 1 + 1 + 1 := by omega
  go_cut [] (fun wx => Hid (∃ bv bq bo, Fil w L (w.heap.size + 1) bv bq bo s (fun _ => 0) (fun _ => 0) (fun _ => 0) wx))
  case first =>
    go_region
    all_goals
      go_wp2_with fail
      go_meet
      case rel =>
        refine Lib.hid ⟨_, _, _, fil_zero ASH.out BH2.out (Nat.lt_succ_self _) BXH.out ?_ ?_ ?_ ?_ ?_ ?_⟩
        all_goals (first | (first | exact .inl ⟨rfl, by rw [hZV.out]⟩ | exact .inr (.inl ⟨rfl, by rw [hZV.out]⟩) | exact .inr (.inr ⟨rfl, by rw [hZV.out]⟩)) | (first | exact .inl ⟨rfl, by rw [hZM.out]⟩ | exact .inr (.inl ⟨rfl, by rw [hZM.out]⟩) | exact .inr (.inr ⟨rfl, by rw [hZM.out]⟩)) | omega)
  case rest =>
  obtain ⟨bv, bq, bo, F0⟩ := hcut.out
  have sd0 : 0 ≤ seed := by have := hseed; omega
  have CS : wc.cell? ⟨w.heap.size, 29, none⟩ = some (.int .u32 seed) := by
    rw [cellsAt F0.bx, toArray_at, HL.out, List.getElem?_append_right (by rw [sc_len]; omega), sc_len]; rfl
  have CP : wc.cell? ⟨w.heap.size + 1, 27, none⟩ = some (.slice (some ⟨bq, 0, none⟩) 1024 1024) := cellsAt F0.at_ 27
  have FH : Hid (Fil w L (w.heap.size + 1) bv bq bo s (fun _ => 0) (uptoN (palF seed) (fun _ => 0) 0) (fun _ => 0) wc) := Lib.hid (by rw [uptoN_zero]; exact F0)
  clear F0 F26 F27 F28 SZ C26 C27 C28 MKV MKM SZ1 SZ2 SZ3 LPH
  go_wp2_with fail
  go_loopw [4, 25] (fun xv iv wr => ∃ (n : Nat), xv = .int .u32 (rnd seed n) ∧ iv = .int .i64 n ∧ n ≤ 1024 ∧ Fil w L (w.heap.size + 1) bv bq bo s (fun _ => 0) (uptoN (palF seed) (fun _ => 0) n) (fun _ => 0) wr) (fun _ iv _ => 1024 - (intOf iv).toNat)
  case atStart => exact ⟨0, rfl, rfl, by omega, FH.out⟩
  case round =>
    obtain ⟨n, rfl, rfl, hn, F⟩ := hrel
    by_cases hlt : n < 1024
    · have tt : decide ((n : Int) < 1024) = true := by simp; omega
      have n0 : (0 : Int) ≤ (n : Int) := by omega
      have n1 : (n : Int) < 1024 := by omega
      have rb := rnd_bd hseed.1 hseed.2 n
      have CP : wr.cell? ⟨w.heap.size + 1, 27, none⟩ = some (.slice (some ⟨bq, 0, none⟩) 1024 1024) := cellsAt F.at_ 27
      have CC : wr.cell? ⟨bq, n, none⟩ = some (.int .u8 (uptoN (palF seed) (fun _ => 0) n n)) := by rw [cellsAt F.q]; exact bytes_at _ hlt
      have FR := freeAt F.q n
      have LL := sizeAt F.q
      have L2 := sizeAt F.at_
      have RS : rnd seed (n + 1) = nx (rnd seed n) := rfl
      have PF : palF seed n = nx (rnd seed n) / 16777216 := rfl
      unfold nx at RS PF
      have RH := Lib.hid RS
      have PH := Lib.hid PF
      have FH2 := Lib.hid F
      clear RS PF F
      generalize rnd seed n = x at *
      obtain ⟨r0, r1⟩ := rb
      go_wp2_with fail
      refine ⟨⟨n + 1, int_eq (by rw [RH.out]; omega), by go_num, by omega, ?_⟩, by simp [intOf]; omega⟩
      have := FH2.out.pal n (palF seed n)
      rw [uptoN_upd, PH.out] at this
      exact this
    · have nn : n = 1024 := by omega
      have tt : decide ((n : Int) < 1024) = false := by simp; omega
      have FH2 : Hid (Fil w L (w.heap.size + 1) bv bq bo s (uptoN (vrO seed) (fun _ => 0) 65536) (uptoN (palF seed) (fun _ => 0) 1024) (fun _ => 0) wr) := Lib.hid (by rw [upto_vr0, ← nn]; exact F)
      clear hlt F FH
      subst nn
      go_upto_block 2 with fail
      go_cut [] (fun wx => Hid (Fil w L (w.heap.size + 1) bv bq bo s (uptoN (vrO seed) (fun _ => 0) 98304) (uptoN (palF seed) (fun _ => 0) 1024) (oaU d 0) wx))
      case first =>
       go_wp2_with fail
       go_loopw [4, 6] (fun xv iv wr => ∃ (n : Nat), xv = .int .u32 (rnd seed (1024 + n)) ∧ iv = .int .i64 (65536 + (n : Int)) ∧ n ≤ 32768 ∧ (aliveN seed n = !(rnd seed (1024 + n) == 0)) ∧ Fil w L (w.heap.size + 1) bv bq bo s (uptoN (vrO seed) (fun _ => 0) (65536 + n)) (uptoN (palF seed) (fun _ => 0) 1024) (fun _ => 0) wr) (fun _ iv _ => 98304 - (intOf iv).toNat)
       case atStart => exact ⟨0, rfl, rfl, by omega, rfl, FH2.out⟩
       case round =>
         obtain ⟨n, rfl, rfl, hn, hal, F⟩ := hrel
         have rb := rnd_bd hseed.1 hseed.2 (1024 + n)
         have CP : wr.cell? ⟨w.heap.size + 1, 26, none⟩ = some (.slice (some ⟨bv, 0, none⟩) 98304 98304) := cellsAt F.at_ 26
         have L2 := sizeAt F.at_
         have FH3 := Lib.hid F
         by_cases hgo : n < 32768 ∧ ¬ rnd seed (1024 + n) = 0
         · obtain ⟨hlt, hx⟩ := hgo
           have AL : aliveN seed n = true := by rw [hal]; simpa using hx
           have tt : decide (65536 + (n : Int) < 98304) = true := by simp; omega
           have n0 : (0 : Int) ≤ (n : Int) := by omega
           have n1 : (n : Int) < 32768 := by omega
           have xb : (rnd seed (1024 + n) != 0) = true := by simpa using hx
           have CC : wr.cell? ⟨bv, 65536 + n, none⟩ = some (.int .u8 (uptoN (vrO seed) (fun _ => 0) (65536 + n) (65536 + n))) := by rw [cellsAt F.v]; exact bytes_at _ (by omega)
           have FR := freeAt F.v (65536 + n)
           have LL := sizeAt F.v
           have RS : rnd seed (1024 + (n + 1)) = nx (rnd seed (1024 + n)) := rfl
           have PF : vrO seed (65536 + n) = vrB (nx (rnd seed (1024 + n))) := by
             unfold vrO
             rw [if_neg (by omega), show 65536 + n - 65536 = n by omega, AL, if_pos rfl]; rfl
           have ZF : uptoN (vrO seed) (fun _ => 0) (65536 + n) (65536 + n) = 0 := by simp [uptoN]
           have AS2 : aliveN seed (n + 1) = !(rnd seed (1024 + (n + 1)) == 0) := alive_succ AL
           have ASH2 := Lib.hid AS2
           have ZH := Lib.hid ZF
           have RH := Lib.hid RS
           have PH := Lib.hid PF
           have NB := nx_bd (rnd seed (1024 + n))
           have NE : (rnd seed (1024 + n) * 1664525 % 4294967296 + 1013904223) % 4294967296 = nx (rnd seed (1024 + n)) := by unfold nx; omega
           have NE2 : (rnd seed (1024 + n) * 1664525 + 1013904223) % 4294967296 = nx (rnd seed (1024 + n)) := rfl
           clear RS PF F ZF hal hx AL AS2 FH2
           generalize nx (rnd seed (1024 + n)) = y at *
           generalize rnd seed (1024 + n) = x at *
           obtain ⟨r0, r1⟩ := rb
           obtain ⟨y0, y1⟩ := NB
           by_cases gz : y / 1073741824 = 0
           · have gb : (y / 1073741824 != 0) = false := by rw [gz]; rfl
             have VB : vrB y = 0 := if_neg (by rw [gz]; decide)
             have GZ := Lib.hid gz
             clear gz
             go_wp2_with fail
             refine ⟨⟨n + 1, int_eq (by rw [RH.out]; exact NE), int_eq (by omega), by omega, ASH2.out, ?_⟩, by simp [intOf]; omega⟩
             rw [← Nat.add_assoc, uptoN_same (by rw [PH.out]; exact VB)]
             exact FH3.out
           · have gb : (y / 1073741824 != 0) = true := by rw [bne_iff_ne]; exact gz
             have VB : vrB y = y / 4194304 % 256 := if_pos gz
             have VBH := Lib.hid VB
             clear VB gz
             go_wp2_with fail
             refine ⟨⟨n + 1, int_eq (by rw [RH.out]; exact NE), int_eq (by omega), by omega, ASH2.out, ?_⟩, by simp [intOf]; omega⟩
             have := FH3.out.vra (65536 + n) (vrO seed (65536 + n))
             rw [uptoN_upd, PH.out, VBH.out] at this
             exact this
         · have gc : decide (65536 + (n : Int) < 98304) = false ∨ (decide (65536 + (n : Int) < 98304) = true ∧ (rnd seed (1024 + n) != 0) = false) := by
             by_cases g : n < 32768
             · have : rnd seed (1024 + n) = 0 := by
                 by_cases e : rnd seed (1024 + n) = 0
                 · exact e
                 · exact absurd ⟨g, e⟩ hgo
               exact .inr ⟨by simp; omega, by rw [this]; rfl⟩
             · exact .inl (by simp; omega)
           have FH4 : Hid (Fil w L (w.heap.size + 1) bv bq bo s (uptoN (vrO seed) (fun _ => 0) 98304) (uptoN (palF seed) (fun _ => 0) 1024) (oaU d 0) wr) := Lib.hid (by
             rw [oaU_zero]
             by_cases g : n < 32768
             · have e : rnd seed (1024 + n) = 0 := by
                 by_cases e : rnd seed (1024 + n) = 0
                 · exact e
                 · exact absurd ⟨g, e⟩ hgo
               rw [← upto_dead (k := n) (by rw [hal, e]; rfl) (by omega)]
               exact F
             · have e : n = 32768 := by omega
               rw [e] at F
               exact F)
           clear F hal hgo FH3 FH2
           generalize rnd seed (1024 + n) = x at *
           rcases gc with t | ⟨t, t2⟩
           all_goals
             go_wp2_with fail
             go_meet
             case rel => exact FH4
      case rest =>
      have FH5 := hcut
      clear hcut FH2
      generalize wc = w5 at *
      go_step
      exact filled_rest HL LO FH5
end Go.Proofs.Ythbpcenobaloaaa.Oa
