/- A unit is brought: Step over the tape, whole. -/
import Derived.Test.YtbpeppmajmhmiaaDh
namespace Go.Proofs.Ytbpeppmajmhmiaa.Di
set_option linter.unusedVariables false
set_option linter.unusedSimpArgs false
open Go.RowKit Go.Proofs.Ytbpeppmajmhmiaa.Bt Go.Proofs.Ytbpeppmajmhmiaa.Wk Go.Proofs.Ytbpeppmajmhmiaa.Sg Go.Proofs.Ytbpeppmajmhmiaa.Dp Go.Proofs.Ytbpeppmajmhmiaa.Da Go.Proofs.Ytbpeppmajmhmiaa.Db Go.Proofs.Ytbpeppmajmhmiaa.Dc Go.Proofs.Ytbpeppmajmhmiaa.Dd Go.Proofs.Ytbpeppmajmhmiaa.De Go.Proofs.Ytbpeppmajmhmiaa.Fq Go.Proofs.Ytbpeppmajmhmiaa.Df Go.Proofs.Ytbpeppmajmhmiaa.Dg Go.Proofs.Ytbpeppmajmhmiaa.Ft Go.Proofs.Ytbpeppmajmhmiaa.Dh

noncomputable def rest8 : Code := aft 8 (Try.f11.body.getD .skip)
set_option maxRecDepth 1000000 in
set_option maxHeartbeats 8000000 in
theorem step_mid {w wc : World} {B ub tb i : Nat} {pv wv : Value} {u : Nat → Ch} {ps : List Pl} {ws : List Int} {c : Ch} {wd cls : Int} {u2 u3 u12 u13 u14 u15 u16 u17 u18 u19 u20 u21 u22 u23 u24 u25 u26 u27 u28 u29 u30 u31 u32 u33 u34 u35 u36 u37 u38 u39 u40 u41 u42 u43 u44 u45 u46 u47 u48 u49 u50 u51 u52 u53 u54 u55 u56 u57 u58 u59 u60 u61 u62 u63 u64 u65 u66 u67 u68 u69 u70 u71 u72 u73 u74 u75 u76 u77 u78 u79 u80 u81 u82 u83 u84 u85 u86 u87 u88 u89 u90 u91 u92 u93 u94 u95 u96 u97 u98 u99 u100 u101 u102 u103 u104 u105 u106 u107 u108 u109 u110 u111 u112 u113 u114 u115 u116 u117 u118 u119 u120 u121 u122 u123 u124 u125 u126 u127 u128 u129 u130 u131 u132 u133 u134 u135 u136 u137 u138 u139 u140 u141 u142 u143 u144 u145 u146 u147 u148 u149 u150 u151 u152 u153 u154 u155 u156 u157 u158 u159 u160 u161 u162 u163 u164 u165 u166 u167 u168 u169 u170 u171 u172 u173 u174 u175 u176 u177 u178 u179 u180 u181 u182 u183 u184 u185 u186 u187 u188 u189 u190 u191 u192 : Value} (FH : Hid (Wf c)) (hi : i < 4) (HW : Hid (wd = width c i)) (w2 : wd = 2 ∨ wd = 4) (HN : Hid (ps.length ≤ 90000)) (HL : Hid (ws.length = ps.length))
    (E1 : Hid (SEnd w wc B ub tb pv wv pv wv (upd u i { c with first := false }) ps ws)) :
    Code.wp Try.prog rest8 (bodyPost Try.prog Try.f11 (fun e w' => e = .returned (.tuple #[.int .i64 i, .bool (took c i (kept c wd)).2.1, .bool ((took c i (kept c wd)).2.1 && (took c i (kept c wd)).2.2)]) ∧
      ∃ pv' wv', SEnd w w' B ub tb pv wv pv' wv' (upd u i (took c i (kept c wd)).1) (ps ++ [planOf c i wd cls]) (ws ++ [kept c wd]))) ⟨#[.pointer (some ⟨ub, 0, none⟩), .iface 25 (.pointer (some ⟨tb, 0, none⟩)), u2, u3, .int .i64 0, .bool false, .bool false, .int .i64 i, .pointer (some ⟨ub, i * 10, none⟩), .int .i64 wd, .int .i64 cls, .int .u32 (4294967296 - wd), u12, u13, u14, u15, u16, u17, u18, u19, u20, u21, u22, u23, u24, u25, u26, u27, u28, u29, u30, u31, u32, u33, u34, u35, u36, u37, u38, u39, u40, u41, u42, u43, u44, u45, u46, u47, u48, u49, u50, u51, u52, u53, u54, u55, u56, u57, u58, u59, u60, u61, u62, u63, u64, u65, u66, u67, u68, u69, u70, u71, u72, u73, u74, u75, u76, u77, u78, u79, u80, u81, u82, u83, u84, u85, u86, u87, u88, u89, u90, u91, u92, u93, u94, u95, u96, u97, u98, u99, u100, u101, u102, u103, u104, u105, u106, u107, u108, u109, u110, u111, u112, u113, u114, u115, u116, u117, u118, u119, u120, u121, u122, u123, u124, u125, u126, u127, u128, u129, u130, u131, u132, u133, u134, u135, u136, u137, u138, u139, u140, u141, u142, u143, u144, u145, u146, u147, u148, u149, u150, u151, u152, u153, u154, u155, u156, u157, u158, u159, u160, u161, u162, u163, u164, u165, u166, u167, u168, u169, u170, u171, u172, u173, u174, u175, u176, u177, u178, u179, u180, u181, u182, u183, u184, u185, u186, u187, u188, u189, u190, u191, u192], []⟩ wc := by
  have i0 : (0 : Int) ≤ (i : Int) := by omega
  have i4 : (i : Int) < 4 := by omega
  have wl : 2 ≤ wd := by omega
  have wd4 : wd ≤ 4 := by omega
  have hct0 := FH.out.c0
  have hct1 := FH.out.c1
  conv => arg 2; whnf
  have b1 := E1.out.b1
  have C4 := b1.c4 hi
  have Fz := b1.free
  have lt1 := b1.lt
  go_upto_if 56 with fail
  have a0 := FH.out.a0
  have a1 := FH.out.a1
  have AL := Lib.hid (fun (a : Int) (h0 : 0 ≤ a) (h1 : a < 4294967296) => (show Go.bits .and .u32 a (4294967296 - wd) = algn a wd ∧ 0 ≤ algn a wd ∧ algn a wd < 4294967296 by
    rcases w2 with e | e
    · rw [e]; exact ⟨and_al2 h0 h1, by unfold algn; omega, by unfold algn; omega⟩
    · rw [e]; exact ⟨and_al4 h0 h1, by unfold algn; omega, by unfold algn; omega⟩))
  go_cut [12] (fun _ wx => ∃ pv1, Hid (SEnd w wx B ub tb pv wv pv1 wv (upd u i { c with first := false, latch := kept c wd }) (ps ++ reads c i wd cls) ws))
  case first =>
    by_cases ha : 33554432 ≤ c.at_
    · have ta : decide (33554432 ≤ c.at_) = true := decide_eq_true ha
      obtain ⟨ga, a2, a3⟩ := AL.out c.at_ a0 a1
      have LD := Lib.hid (fun w0 (e : SEnd w w0 B ub tb pv wv pv wv (upd u i { c with first := false }) ps ws) => Df.load_any e.ps.tp (by have := HN.out; omega) i (algn c.at_ wd) wd cls a2 a3)
      have tlt : decide (c.at_ < 33554432) = false := decide_eq_false (by omega)
      have ML := fun f w => m_Load f ⟨tb, 0, none⟩ w
      have NL := fun f w => n_Load f ⟨tb, 0, none⟩ w
      have vb := val_bd a2 a3
      have KE : kept c wd = rdC c wd (val (algn c.at_ wd)) := by unfold kept; rw [if_pos ha]
      have RE : reads c i wd cls = [⟨i, true, algn c.at_ wd, 0, wd, cls⟩] := by unfold reads; rw [if_pos ha]
      unfold rdC at KE
      generalize algn c.at_ wd = aa at *
      generalize val aa = x at *
      rcases w2 with e2 | e2
      · rw [if_pos e2] at KE
        have tw : (wd == 2) = true := by simp [e2]
        clear e2
        have KH := Lib.hid KE
        have RH := Lib.hid RE
        clear KE RE
        have g1 := and_lo vb.1 vb.2
        have g2 : x * 65536 % 4294967296 = x % 65536 * 65536 := by omega
        have g3 := or_16 x
        go_upto_region 12 with fail
        go_region_with (go_at_call 50; refine (LD.out _ E1.out.drew).mono ?_; rintro e w2 ⟨rfl, pv1, T⟩; have E2 := E1.out.drew.tape T; have b2 := E2.b1; have D := b2.c9 hi; have Fz := b2.free; have S := Lib.hid (E2.store (b2.s9 hi (x % 65536 * 65536 + x % 65536))); clear T E2 b2)
        all_goals
          go_wp2_with fail
          go_meet
          case rel => rw [KH.out, RH.out]; exact ⟨_, S⟩
      · rw [if_neg (by omega)] at KE
        have tw : (wd == 2) = false := by simp [e2]
        clear e2
        have KH := Lib.hid KE
        have RH := Lib.hid RE
        clear KE RE
        go_upto_region 12 with fail
        go_region_with (go_at_call 50; refine (LD.out _ E1.out.drew).mono ?_; rintro e w2 ⟨rfl, pv1, T⟩; have E2 := E1.out.drew.tape T; have b2 := E2.b1; have D := b2.c9 hi; have Fz := b2.free; have S := Lib.hid (E2.store (b2.s9 hi x)); clear T E2 b2)
        all_goals
          go_wp2_with fail
          go_meet
          case rel => rw [KH.out, RH.out]; exact ⟨_, S⟩
    · have KE : kept c wd = c.latch := by unfold kept; rw [if_neg ha]
      have RE : reads c i wd cls = [] := by unfold reads; rw [if_neg ha]
      have tlt : decide (c.at_ < 33554432) = true := decide_eq_true (by omega)
      have ta : decide (33554432 ≤ c.at_) = false := decide_eq_false ha
      have KH := Lib.hid KE
      have RH := Lib.hid RE
      clear KE RE
      go_wp2_with fail
      go_meet
      case rel => rw [KH.out, RH.out, List.append_nil]; exact ⟨_, E1⟩
  case rest =>
  obtain ⟨pv1, E2⟩ := hcut
  have KB : 0 ≤ kept c wd ∧ kept c wd < 4294967296 := by
    obtain ⟨_, a2, a3⟩ := AL.out c.at_ a0 a1
    have vb := val_bd a2 a3
    have l0 := FH.out.x0
    have l1 := FH.out.x1
    unfold kept rdC
    split
    · split <;> omega
    · omega
  have b2 := E2.out.b1
  have C5 : wc.cell? ⟨ub, i * 10 + 5, none⟩ = some (.int .u32 c.to_) := b2.c5 hi
  have C9 : wc.cell? ⟨ub, i * 10 + 9, none⟩ = some (.int .u32 (kept c wd)) := b2.c9 hi
  clear C4 b1 b2
  have t0 := FH.out.t0
  have t1 := FH.out.t1
  obtain ⟨gt, t2, t3⟩ := AL.out c.to_ t0 t1
  have ST := Lib.hid (fun w0 (e : SEnd w w0 B ub tb pv wv pv1 wv (upd u i { c with first := false, latch := kept c wd }) (ps ++ reads c i wd cls) ws) =>
    (show Calls Try.prog 51 #[.pointer (some ⟨tb, 0, none⟩), .int .i64 i, .int .u32 (algn c.to_ wd), .int .i64 wd, .int .i64 cls, .int .u32 (kept c wd)] w0 fun e w' => e = .returned (.tuple #[]) ∧ ∃ pv2 wv2, TEnd w0 w' B tb pv1 wv pv2 wv2 (ps ++ [planOf c i wd cls]) (ws ++ [kept c wd]) by
      have t := e.ps.tp
      have hl := HL.out
      have hn := HN.out
      unfold reads at t
      unfold planOf
      by_cases ha : 33554432 ≤ c.at_
      · rw [if_pos ha] at t
        rw [if_pos ha, decide_eq_true ha]
        refine (store_to i (algn c.to_ wd) wd cls (kept c wd) t hl (by omega)).mono ?_
        rintro e w' ⟨rfl, wv2, T⟩
        exact ⟨rfl, _, wv2, T⟩
      · rw [if_neg ha, List.append_nil] at t
        rw [if_neg ha, decide_eq_false ha]
        exact store_add i (algn c.to_ wd) wd cls (kept c wd) t hl (by omega)))
  have MS := fun f w => m_Store f ⟨tb, 0, none⟩ w
  have NS := fun f w => n_Store f ⟨tb, 0, none⟩ w
  go_upto_region 16 with fail
  go_cut [12] (fun _ wx => ∃ pv2 wv2, Hid (SEnd w wx B ub tb pv wv pv2 wv2 (upd u i { c with first := false, latch := kept c wd }) (ps ++ [planOf c i wd cls]) (ws ++ [kept c wd])))
  case first =>
    generalize algn c.to_ wd = ta at *
    generalize kept c wd = kp at *
    go_region_with (go_at_call 51; refine (ST.out _ E2.out.drew).mono ?_; rintro e w2 ⟨rfl, pv2, wv2, T⟩; have S := Lib.hid (E2.out.drew.tape T); clear T)
    all_goals
      go_wp2_with fail
      go_meet
      case rel => exact ⟨_, _, S⟩
  case rest =>
  obtain ⟨pv2, wv2, E3⟩ := hcut
  go_step
  exact step_second FH hi HW w2 E3
end Go.Proofs.Ytbpeppmajmhmiaa.Di
