/- The document's channels, walked: Took behind the addresses. -/
import Derived.Test.YtbpeppmajmhmiaaVd
namespace Go.Proofs.Ytbpeppmajmhmiaa.Ve
set_option linter.unusedVariables false
set_option linter.unusedSimpArgs false
open Go.RowKit Go.Proofs.Ytbpeppmajmhmiaa.Bt Go.Proofs.Ytbpeppmajmhmiaa.Wk Go.Proofs.Ytbpeppmajmhmiaa.Sg Go.Proofs.Ytbpeppmajmhmiaa.Dp Go.Proofs.Ytbpeppmajmhmiaa.Da Go.Proofs.Ytbpeppmajmhmiaa.Db Go.Proofs.Ytbpeppmajmhmiaa.Dc Go.Proofs.Ytbpeppmajmhmiaa.Dd Go.Proofs.Ytbpeppmajmhmiaa.De Go.Proofs.Ytbpeppmajmhmiaa.Fq Go.Proofs.Ytbpeppmajmhmiaa.Df Go.Proofs.Ytbpeppmajmhmiaa.Dg Go.Proofs.Ytbpeppmajmhmiaa.Dh Go.Proofs.Ytbpeppmajmhmiaa.Di Go.Proofs.Ytbpeppmajmhmiaa.Dj Go.Proofs.Ytbpeppmajmhmiaa.Dk Go.Proofs.Ytbpeppmajmhmiaa.Va Go.Proofs.Ytbpeppmajmhmiaa.Vb Go.Proofs.Ytbpeppmajmhmiaa.Vc Go.Proofs.Ytbpeppmajmhmiaa.Qt Go.Proofs.Ytbpeppmajmhmiaa.Vd

/-- Within Took: the unit, the plan's block. -/
structure TX (w wx : World) (ub : Nat) (T : TypeId) (u : Nat → Ch) (i : Nat) (c : Ch) (p : Pl) : Prop where
  b : B1 w wx ub T u i c
  box : wx.heap[w.heap.size]? = some (.cells (encP p).toArray 36 (0, 0))
theorem TX.step {w wx wx' : World} {ub : Nat} {T : TypeId} {u : Nat → Ch} {i : Nat} {c c' : Ch} {p : Pl} (h : TX w wx ub T u i c p) (lt : ub < w.heap.size) (b : B1 wx wx' ub T u i c') : TX w wx' ub T u i c' p := ⟨h.b.trans b, b.keep h.box (by omega)⟩
theorem TX.drewN {w wx : World} {ub : Nat} {T : TypeId} {u : Nat → Ch} {i : Nat} {c : Ch} {p : Pl} (h : TX w wx ub T u i c p) (n : Nat) : TX w (wx.drewN n) ub T u i c p := ⟨Only.drewN n h.b, h.box⟩
theorem TX.self {w wx : World} {ub : Nat} {T : TypeId} {u : Nat → Ch} {i : Nat} {c : Ch} {p : Pl} (h : TX w wx ub T u i c p) : B1 wx wx ub T u i c := B1.self h.b
noncomputable def rest8 : Code := aft 8 (Try.f29.body.getD .skip)
set_option maxRecDepth 1000000 in
set_option maxHeartbeats 8000000 in
theorem took_second {w wc : World} {ub i : Nat} {T : TypeId} {u : Nat → Ch} {c : Ch} {p : Pl} {K na nt : Int} {V1 V2 u3 u5 u12 u13 u14 u15 u16 u17 u18 u19 u20 u21 u22 u23 u24 u25 u26 u27 u28 u29 u30 u31 u32 u33 u34 u35 u36 u37 u38 u39 u40 u41 u42 u43 u44 u45 u46 u47 u48 u49 u50 u51 u52 u53 u54 u55 u56 u57 u58 u59 u60 u61 u62 u63 u64 u65 u66 u67 u68 u69 u70 u71 u72 u73 u74 u75 u76 u77 u78 u79 u80 u81 u82 u83 u84 u85 u86 u87 u88 u89 u90 u91 u92 u93 u94 u95 u96 u97 u98 u99 u100 u101 u102 u103 u104 u105 u106 u107 u108 u109 u110 u111 u112 u113 u114 u115 u116 u117 u118 u119 u120 u121 u122 u123 u124 u125 u126 u127 u128 u129 u130 u131 u132 u133 u134 u135 u136 u137 : Value} (FH : Hid (Wf c)) (hi : i < 4) (lt : ub < w.heap.size) (pc : p.ch = i)
    (HNA : Hid (moved c.at_ (c.ctl / 128 % 4) (width c i) = na)) (HNT : Hid (moved c.to_ (toHow c i) (width c i) = nt))
    (E4 : Hid (TX w wc ub T u i { c with first := false, latch := K, at_ := na, to_ := nt } p)) :
    Code.wp Try.prog rest8 (bodyPost Try.prog Try.f29 (fun e w' => e = .returned (.tuple #[.int .u32 K, .bool (took c i K).2.1, .bool (took c i K).2.2]) ∧ B1 w w' ub T u i (took c i K).1)) ⟨#[.pointer (some ⟨ub, 0, none⟩), V1, V2, u3, .pointer (some ⟨w.heap.size, 0, none⟩), u5, .int .u32 0, .bool false, .bool false, .pointer (some ⟨ub, i * 10, none⟩), .int .u32 K, .int .i64 (how c), u12, u13, u14, u15, u16, u17, u18, u19, u20, u21, u22, u23, u24, u25, u26, u27, u28, u29, u30, u31, u32, u33, u34, u35, u36, u37, u38, u39, u40, u41, u42, u43, u44, u45, u46, u47, u48, u49, u50, u51, u52, u53, u54, u55, u56, u57, u58, u59, u60, u61, u62, u63, u64, u65, u66, u67, u68, u69, u70, u71, u72, u73, u74, u75, u76, u77, u78, u79, u80, u81, u82, u83, u84, u85, u86, u87, u88, u89, u90, u91, u92, u93, u94, u95, u96, u97, u98, u99, u100, u101, u102, u103, u104, u105, u106, u107, u108, u109, u110, u111, u112, u113, u114, u115, u116, u117, u118, u119, u120, u121, u122, u123, u124, u125, u126, u127, u128, u129, u130, u131, u132, u133, u134, u135, u136, u137], []⟩ wc := by
  have i0 : (0 : Int) ≤ (i : Int) := by omega
  have i4 : (i : Int) < 4 := by omega
  have hct0 := FH.out.c0
  have hct1 := FH.out.c1
  have l0 := FH.out.l0
  have l1 := FH.out.l1
  have TK := took_eq (l := K) rfl HNA.out HNT.out
  have g14 := Lib.hid (fun w => bits_14_1 c.ctl hct0 hct1 w)
  have g9 := Lib.hid (fun w => bits_9_1 c.ctl hct0 hct1 w)
  have g12 := Lib.hid (fun w => bits_12_2 c.ctl hct0 hct1 w)
  have gm : Go.bits .and .u16 c.ctl 32767 = c.ctl % 32768 := by have := and_mask_u16 hct0 hct1 15 (by decide); simpa using this
  obtain ⟨hw, hhw⟩ : ∃ z, how c = z := ⟨_, rfl⟩
  rw [hhw] at TK
  rw [hhw]
  clear hhw
  conv => arg 2; whnf
  dsimp only
  have b4 := E4.out.self
  have C6 : wc.cell? ⟨ub, i * 10 + 6, none⟩ = some (.int .i64 c.left) := b4.c6 hi
  have Fz := b4.free
  have lt4 := b4.lt
  have S6 := Lib.hid (E4.out.step lt (b4.s6 hi (c.left - 1)))
  clear b4
  go_upto_region 12 with fail
  go_cut [] (fun wx => Hid (TX w wx ub T u i { c with first := false, latch := K, at_ := na, to_ := nt, left := c.left - 1 } p))
  case first =>
    go_wp2_with fail
    go_meet
    case rel => exact S6
  case rest =>
  have E5 := hcut
  clear S6 E4 C6 Fz lt4
  have b5 := E5.out.self
  have C6 : wc.cell? ⟨ub, i * 10 + 6, none⟩ = some (.int .i64 (c.left - 1)) := b5.c6 hi
  have lt5 := b5.lt
  by_cases hz : 0 < c.left - 1
  · have tz : 1 < c.left := by omega
    rw [if_pos hz] at TK
    have TH := Lib.hid TK
    clear TK hz b5
    go_wp2_with fail
    go_ret3
    rw [TH.out]
    exact ⟨rfl, E5.out.b⟩
  have tz : c.left ≤ 1 := by omega
  rw [if_neg hz] at TK
  have TH := Lib.hid TK
  have C7 : wc.cell? ⟨ub, i * 10 + 7, none⟩ = some (.bool c.pend) := b5.c7 hi
  have C3 : wc.cell? ⟨ub, i * 10 + 3, none⟩ = some (.int .u16 c.ctl) := b5.c3 hi
  have Fz := b5.free
  have E6 := Lib.hid (E5.out.step lt (b5.s7 hi false))
  clear TK hz b5 E5
  go_wp2_with fail
  -- the interrupt's bit
  refine (g14.out _).mono ?_
  rintro e w' ⟨rfl, q, rfl⟩
  have E7 := Lib.hid (E6.out.drewN q)
  generalize (wc.setCell ⟨ub, i * 10 + 7, none⟩ (.bool false)).drewN q = w7 at *
  clear E6 C6 C7 C3 Fz lt5
  have b7 := E7.out.self
  have C3 : w7.cell? ⟨ub, i * 10 + 3, none⟩ = some (.int .u16 c.ctl) := b7.c3 hi
  have lt7 := b7.lt
  have Fz := b7.free
  clear b7 g14
  go_wp2_with fail
  refine (g9.out _).mono ?_
  rintro e w' ⟨rfl, q2, rfl⟩
  have E8 := Lib.hid (E7.out.drewN q2)
  generalize w7.drewN q2 = w8 at *
  clear E7 C3 Fz lt7 g9
  have b8 := E8.out.self
  have C3 : w8.cell? ⟨ub, i * 10 + 3, none⟩ = some (.int .u16 c.ctl) := b8.c3 hi
  have lt8 := b8.lt
  have Fz := b8.free
  have S3 := Lib.hid (E8.out.step lt (b8.s3 hi (c.ctl % 32768)))
  clear b8
  have wE : Dp.wh c = c.ctl / 4096 % 4 := rfl
  cases q9 : (c.ctl / 512 % 2 == 1)
  · have TG0 := TH.out
    rw [if_neg (fun h => by simp [h.1] at q9)] at TG0
    have TG := Lib.hid TG0
    clear TG0 TH E8 wE
    generalize c.ctl / 512 % 2 = k9 at *
    go_wp2_with fail
    go_ret3
    rw [TG.out]
    exact ⟨rfl, S3.out.b⟩
  cases qw : (c.ctl / 4096 % 4 != 0)
  · have TG0 := TH.out
    rw [if_neg (fun h => by have := h.2; rw [wE] at this; simp [this] at qw)] at TG0
    have TG := Lib.hid TG0
    clear TG0 TH S3 wE
    generalize c.ctl / 4096 % 4 = wk at *
    generalize c.ctl / 512 % 2 = k9 at *
    go_wp2_with fail
    refine (g12.out _).mono ?_
    rintro e w' ⟨rfl, q3, rfl⟩
    have E9 := Lib.hid (E8.out.drewN q3)
    generalize w8.drewN q3 = w9 at *
    clear E8 C3 Fz lt8
    have b9 := E9.out.self
    have C3 : w9.cell? ⟨ub, i * 10 + 3, none⟩ = some (.int .u16 c.ctl) := b9.c3 hi
    have lt9 := b9.lt
    have Fz := b9.free
    have S3 := Lib.hid (E9.out.step lt (b9.s3 hi (c.ctl % 32768)))
    clear b9 E9
    go_wp2_with fail
    go_ret3
    rw [TG.out]
    exact ⟨rfl, S3.out.b⟩
  have TG0 := TH.out
  rw [if_pos ⟨by simpa using q9, by rw [wE]; simpa using qw⟩] at TG0
  have TG := Lib.hid TG0
  clear TG0 TH S3 wE
  generalize c.ctl / 4096 % 4 = wk at *
  generalize c.ctl / 512 % 2 = k9 at *
  go_upto_if 115 with (go_at_call 32; ((with_reducible refine (g12.out _).mono ?_); rintro e w' ⟨rfl, q3, rfl⟩; have E9 := Lib.hid (E8.out.drewN q3); clear E8 C3 Fz lt8))
  generalize w8.drewN q3 = w9 at *
  have b9 := E9.out.self
  have C1 : w9.cell? ⟨ub, i * 10 + 1, none⟩ = some (.int .u32 c.dst) := b9.c1 hi
  have C5 : w9.cell? ⟨ub, i * 10 + 5, none⟩ = some (.int .u32 nt) := b9.c5 hi
  have lt9 := b9.lt
  have Fz := b9.free
  have X0 : w9.cell? ⟨w.heap.size, 0, none⟩ = some (.int .i64 i) := (cellsAt E9.out.box 0).trans (by rw [← pc]; rfl)
  have XL := sizeAt E9.out.box
  cases q3 : (hw == 3)
  · rw [if_neg (by simpa using q3)] at TG
    have LD := Lib.hid (rload_any b9 hi hct0 hct1)
    clear b9
    go_wp2_with fail
    refine LD.out.mono ?_
    rintro e w10 ⟨rfl, hb⟩
    have EA := Lib.hid (E9.out.step lt hb)
    clear hb
    go_wp2_with fail
    go_ret3
    rw [TG.out]
    exact ⟨rfl, EA.out.b⟩
  · rw [if_pos (by simpa using q3)] at TG
    have S5 := Lib.hid (E9.out.step lt (b9.s5 hi c.dst))
    clear b9
    go_upto_region 20 with fail
    generalize w9.setCell ⟨ub, i * 10 + 5, none⟩ (.int .u32 c.dst) = wA at *
    clear C1 C5 lt9 Fz X0 XL E9
    have X0 : wA.cell? ⟨w.heap.size, 0, none⟩ = some (.int .i64 i) := (cellsAt S5.out.box 0).trans (by rw [← pc]; rfl)
    have XL := sizeAt S5.out.box
    have LD := Lib.hid (rload_any S5.out.self hi hct0 hct1)
    go_wp2_with fail
    refine LD.out.mono ?_
    rintro e w10 ⟨rfl, hb⟩
    have EA := Lib.hid (S5.out.step lt hb)
    clear hb
    go_wp2_with fail
    go_ret3
    rw [TG.out]
    exact ⟨rfl, EA.out.b⟩
end Go.Proofs.Ytbpeppmajmhmiaa.Ve
