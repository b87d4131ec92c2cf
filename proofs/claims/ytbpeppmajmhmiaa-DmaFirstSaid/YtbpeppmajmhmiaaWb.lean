/- A call on both sides: walked behind the call. -/
import Derived.Test.YtbpeppmajmhmiaaWa
namespace Go.Proofs.Ytbpeppmajmhmiaa.Wb
set_option linter.unusedVariables false
set_option linter.unusedSimpArgs false
open Go.RowKit Go.Proofs.Ytbpeppmajmhmiaa.Bt Go.Proofs.Ytbpeppmajmhmiaa.Wk Go.Proofs.Ytbpeppmajmhmiaa.Sg Go.Proofs.Ytbpeppmajmhmiaa.Dp Go.Proofs.Ytbpeppmajmhmiaa.Da Go.Proofs.Ytbpeppmajmhmiaa.Db Go.Proofs.Ytbpeppmajmhmiaa.Dc Go.Proofs.Ytbpeppmajmhmiaa.Dd Go.Proofs.Ytbpeppmajmhmiaa.De Go.Proofs.Ytbpeppmajmhmiaa.Fq Go.Proofs.Ytbpeppmajmhmiaa.Df Go.Proofs.Ytbpeppmajmhmiaa.Dg Go.Proofs.Ytbpeppmajmhmiaa.Dh Go.Proofs.Ytbpeppmajmhmiaa.Di Go.Proofs.Ytbpeppmajmhmiaa.Dj Go.Proofs.Ytbpeppmajmhmiaa.Dk Go.Proofs.Ytbpeppmajmhmiaa.Dl Go.Proofs.Ytbpeppmajmhmiaa.Dm Go.Proofs.Ytbpeppmajmhmiaa.Dt Go.Proofs.Ytbpeppmajmhmiaa.Va Go.Proofs.Ytbpeppmajmhmiaa.Vb Go.Proofs.Ytbpeppmajmhmiaa.Vc Go.Proofs.Ytbpeppmajmhmiaa.Qt Go.Proofs.Ytbpeppmajmhmiaa.Vd Go.Proofs.Ytbpeppmajmhmiaa.Ve Go.Proofs.Ytbpeppmajmhmiaa.Vf Go.Proofs.Ytbpeppmajmhmiaa.Wa

/-- Both sides hold the same. -/
def Rz (Z : Nat → Option Obj) (w1 : World) (n : Nat) (w' : World) : Prop := ∃ u ps ws, Jf Z w1 w' u u ps ws ∧ ws.length = ps.length ∧ ps.length ≤ n
noncomputable def rest3 : Code := aft 2 (Try.f16.body.getD .skip)
set_option maxRecDepth 1000000 in
set_option maxHeartbeats 8000000 in
theorem both_tail {Z : Nat → Option Obj} {w1 wc : World} {n : Nat} {V3 V7 u4 u5 u6 u8 u9 u10 u11 u12 u13 u14 u15 u16 u17 u18 u19 u20 u21 u22 u23 u24 u25 u26 u27 u28 u29 u30 u31 u32 u33 u34 u35 u36 u37 u38 u39 u40 u41 u42 u43 u44 u45 u46 u47 u48 u49 u50 u51 u52 u53 u54 u55 u56 u57 u58 u59 u60 u61 u62 u63 u64 u65 u66 u67 u68 u69 u70 u71 u72 u73 u74 u75 u76 u77 u78 u79 u80 u81 u82 u83 u84 u85 u86 u87 u88 u89 u90 u91 u92 u93 u94 u95 u96 u97 u98 u99 u100 u101 u102 u103 u104 u105 u106 u107 u108 u109 u110 u111 u112 u113 u114 u115 u116 u117 u118 u119 u120 u121 u122 u123 u124 u125 u126 u127 u128 u129 u130 u131 u132 u133 u134 u135 u136 u137 u138 u139 u140 u141 u142 u143 u144 u145 u146 u147 u148 u149 u150 u151 u152 u153 u154 u155 u156 u157 u158 u159 u160 u161 u162 u163 u164 u165 u166 u167 u168 u169 u170 u171 : Value} (E : Hid (Rz Z w1 n wc)) :
    Code.wp Try.prog rest3 (bodyPost Try.prog Try.f16 (fun e w' => e = .returned (.bool true) ∧ Hid (Rz Z w1 n w'))) ⟨#[.pointer (some ⟨w1.heap.size, 0, none⟩), .pointer (some ⟨w1.heap.size + 1, 0, none⟩), .pointer (some ⟨w1.heap.size + 2, 0, none⟩), V3, u4, u5, u6, V7, u8, u9, u10, u11, u12, u13, u14, u15, u16, u17, u18, u19, u20, u21, u22, u23, u24, u25, u26, u27, u28, u29, u30, u31, u32, u33, u34, u35, u36, u37, u38, u39, u40, u41, u42, u43, u44, u45, u46, u47, u48, u49, u50, u51, u52, u53, u54, u55, u56, u57, u58, u59, u60, u61, u62, u63, u64, u65, u66, u67, u68, u69, u70, u71, u72, u73, u74, u75, u76, u77, u78, u79, u80, u81, u82, u83, u84, u85, u86, u87, u88, u89, u90, u91, u92, u93, u94, u95, u96, u97, u98, u99, u100, u101, u102, u103, u104, u105, u106, u107, u108, u109, u110, u111, u112, u113, u114, u115, u116, u117, u118, u119, u120, u121, u122, u123, u124, u125, u126, u127, u128, u129, u130, u131, u132, u133, u134, u135, u136, u137, u138, u139, u140, u141, u142, u143, u144, u145, u146, u147, u148, u149, u150, u151, u152, u153, u154, u155, u156, u157, u158, u159, u160, u161, u162, u163, u164, u165, u166, u167, u168, u169, u170, u171], []⟩ wc := by
  obtain ⟨u, ps, ws, J, hl, hn⟩ := E.out
  have JH := Lib.hid J
  have HL := Lib.hid hl
  have HN := Lib.hid hn
  have R1 := Lib.hid (j_ready_u J)
  have R2 := Lib.hid (j_ready_m J)
  clear J E hl hn
  generalize hr : ready u = r at *
  clear hr
  have rr : (r != r) = false := by simp
  conv => arg 2; whnf
  dsimp only
  go_wp2_with (first | (go_at_call 13; ((with_reducible refine R1.out.mono ?_); rintro e w' ⟨rfl, rfl⟩)) | (go_at_call 27; ((with_reducible refine R2.out.mono ?_); rintro e w' ⟨rfl, rfl⟩)))
  clear R1 R2 rr
  obtain ⟨gm, hgm⟩ : ∃ gm : Nat, gm = 4 := ⟨_, rfl⟩
  have GH := Lib.hid hgm
  clear hgm
  go_loopg [157] gm (fun g s wx => ∃ k : Nat, s = .int .i64 k ∧ k ≤ 4 ∧ g = 4 - k ∧ Hid (Jf Z w1 wx u u ps ws))
  case atStart => exact ⟨0, rfl, by omega, by rw [GH.out], JH⟩
  case round =>
    obtain ⟨k, rfl, hk, hg, JK⟩ := hrel
    clear JH
    have HG := Lib.hid hg
    clear hg
    have k0 : (0 : Int) ≤ (k : Int) := by omega
    by_cases hlt : k < 4
    · have k1 : (k : Int) < 4 := by omega
      have C3 := j_ctl_m JK.out hlt
      have CT := Lib.hid (fun n => j_control (jf_drewN JK.out n) hlt)
      have lt := j_lt JK.out
      generalize (u k).ctl = x at *
      have xx : (x != x) = false := by simp
      go_wp2_with fail
      go_quiet ((go_at_call 14; exact Calls.quiet_of_same (flip (CT.out _))))
      have JN := Lib.hid (jf_drewN JK.out nq)
      go_wp2_with fail
      go_roundg (4 - (k + 1))
      case measure => rw [HG.out]; omega
      case rel => exact ⟨k + 1, by go_num, by omega, rfl, JN⟩
    · obtain rfl : k = 4 := by omega
      have E : Hid (Rz Z w1 n wr) := Lib.hid ⟨u, ps, ws, JK.out, HL.out, HN.out⟩
      clear hlt
      have t : (4 : Int) ≤ ((4 : Nat) : Int) := by decide
      go_wp2_with fail
      go_ret
      exact ⟨rfl, E⟩
end Go.Proofs.Ytbpeppmajmhmiaa.Wb
