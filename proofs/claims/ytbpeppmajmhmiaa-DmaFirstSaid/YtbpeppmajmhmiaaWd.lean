/- A call on both sides: the steps, walked. -/
import Derived.Test.YtbpeppmajmhmiaaWc
import Derived.Deep.RegionHeld3
import Derived.Test.YtbpeppmajmhmiaaDs
namespace Go.Proofs.Ytbpeppmajmhmiaa.Wd
set_option linter.unusedVariables false
set_option linter.unusedSimpArgs false
open Go.RowKit Go.Proofs.Ytbpeppmajmhmiaa.Bt Go.Proofs.Ytbpeppmajmhmiaa.Wk Go.Proofs.Ytbpeppmajmhmiaa.Sg Go.Proofs.Ytbpeppmajmhmiaa.Dp Go.Proofs.Ytbpeppmajmhmiaa.Da Go.Proofs.Ytbpeppmajmhmiaa.Db Go.Proofs.Ytbpeppmajmhmiaa.Dc Go.Proofs.Ytbpeppmajmhmiaa.Dd Go.Proofs.Ytbpeppmajmhmiaa.De Go.Proofs.Ytbpeppmajmhmiaa.Fq Go.Proofs.Ytbpeppmajmhmiaa.Df Go.Proofs.Ytbpeppmajmhmiaa.Dg Go.Proofs.Ytbpeppmajmhmiaa.Dh Go.Proofs.Ytbpeppmajmhmiaa.Di Go.Proofs.Ytbpeppmajmhmiaa.Dj Go.Proofs.Ytbpeppmajmhmiaa.Dk Go.Proofs.Ytbpeppmajmhmiaa.Dl Go.Proofs.Ytbpeppmajmhmiaa.Dm Go.Proofs.Ytbpeppmajmhmiaa.Dt Go.Proofs.Ytbpeppmajmhmiaa.Va Go.Proofs.Ytbpeppmajmhmiaa.Vb Go.Proofs.Ytbpeppmajmhmiaa.Vc Go.Proofs.Ytbpeppmajmhmiaa.Qt Go.Proofs.Ytbpeppmajmhmiaa.Vd Go.Proofs.Ytbpeppmajmhmiaa.Ve Go.Proofs.Ytbpeppmajmhmiaa.Vf Go.Proofs.Ytbpeppmajmhmiaa.Wa Go.Proofs.Ytbpeppmajmhmiaa.Wb Go.Proofs.Ytbpeppmajmhmiaa.Wc

def Rk (Z : Nat → Option Obj) (w1 : World) (n : Nat) (w' : World) : Prop := Rz Z w1 n w'
set_option maxRecDepth 100000 in
set_option maxHeartbeats 8000000 in
theorem both_steps {w1 wr : World} {u : Nat → Ch} {ps : List Pl} {ws : List Int} {n : Nat} {i part x nn addr : Int} (JH : Hid (Jf (fun _ => none) w1 wr u u ps ws)) (HL : Hid (ws.length = ps.length)) (HN : Hid (ps.length ≤ n)) (hn8 : n ≤ 80000) :
    Calls Try.prog 16 #[.pointer (some ⟨w1.heap.size, 0, none⟩), .pointer (some ⟨w1.heap.size + 1, 0, none⟩), .pointer (some ⟨w1.heap.size + 2, 0, none⟩), .agg #[.int .i64 3, .int .i64 i, .int .i64 part, .int .u16 x, .int .i64 nn, .int .u32 addr]] wr fun e w' => e = .returned (.bool true) ∧ Hid (Rz (fun _ => none) w1 (n + 60) w') := by
  go_enter Try.func16, Try.ntmps16
  go_upto_block 0 with fail
  go_cut [] (fun wx => Hid (Rz (fun _ => none) w1 (n + 60) wx))
  case first =>
    have J0 : Hid (Rz (Zb wr.heap.size 3 i part x nn addr) w1 n (wr.alloc (.cells #[.int .i64 3, .int .i64 i, .int .i64 part, .int .u16 x, .int .i64 nn, .int .u32 addr] 52))) := Lib.hid ⟨u, ps, ws, jf_alloc JH.out _, HL.out, HN.out⟩
    have BL : wr.heap.size < (wr.alloc (.cells #[.int .i64 3, .int .i64 i, .int .i64 part, .int .u16 x, .int .i64 nn, .int .u32 addr] 52)).heap.size := by simp
    generalize wr.alloc (.cells #[.int .i64 3, .int .i64 i, .int .i64 part, .int .u16 x, .int .i64 nn, .int .u32 addr] 52) = W0 at *
    generalize wr.heap.size = bx at *
    clear JH HL HN u ps ws
    go_wp2_with fail
    obtain ⟨gm, hgm⟩ : ∃ gm : Nat, gm = 60 := ⟨_, rfl⟩
    have GH := Lib.hid hgm
    clear hgm
    go_loopg [9] gm (fun g s wx => ∃ k : Nat, s = .int .i64 k ∧ k ≤ 60 ∧ g = 60 - k ∧ Hid (Rz (Zb bx 3 i part x nn addr) w1 (n + k) wx))
    case atStart => exact ⟨0, rfl, by omega, by rw [GH.out], J0⟩
    case round =>
      obtain ⟨kk, rfl, hkk, hg, JK⟩ := hrel
      clear J0 BL
      have HG := Lib.hid hg
      clear hg
      have k0 : (0 : Int) ≤ (kk : Int) := by omega
      have k60 : (kk : Int) ≤ 60 := by omega
      obtain ⟨u, ps, ws, J, hl, hn⟩ := JK.out
      have JH := Lib.hid J
      have HL := Lib.hid hl
      have HN := Lib.hid hn
      have X4 : wr.cell? ⟨bx, 4, none⟩ = some (.int .i64 nn) := cellsAt (jf_box J (upd_same _ _ _)) 4
      have XL := sizeAt (jf_box J (upd_same _ _ _))
      have EX : Hid (Rz (fun _ => none) w1 (n + 60) wr) := Lib.hid ⟨u, ps, ws, jf_weak J (zb_none _ _ _ _ _ _ _), hl, by omega⟩
      clear J hl hn JK
      obtain ⟨tn, htn⟩ : ∃ b, decide ((kk : Int) < nn) = b := ⟨_, rfl⟩
      by_cases go : (kk : Int) < nn ∧ (kk : Int) < 60
      · have g1 := go.1
        have g2 := go.2
        obtain rfl : tn = true := by rw [← htn]; exact decide_eq_true g1
        have R1 := Lib.hid (j_ready_m JH.out)
        by_cases hr : ready u < 0
        · generalize ready u = r at *
          clear htn go JH
          go_wp2_with (go_at_call 27; ((with_reducible refine R1.out.mono ?_); rintro e w' ⟨rfl, rfl⟩))
          go_meet
          case rel => exact EX
        · obtain ⟨k, hk⟩ := Int.eq_ofNat_of_zero_le (show 0 ≤ ready u by omega)
          obtain ⟨hi, hp⟩ := ready_pend hk
          have R2 := R1.out
          rw [hk] at R2
          have R3 := Lib.hid R2
          have kp : (0 : Int) ≤ (k : Int) := by omega
          have NX := j_next JH.out hk
          have TK0 := Lib.hid (fun (Z : Nat → Option Obj) (w' : World) (h : Jf Z w1 w' u u ps ws) => j_took h hk)
          have SPX : stepP u k = ⟨k, decide (33554432 ≤ (u k).at_), if 33554432 ≤ (u k).at_ then algn (u k).at_ (width (u k) k) else 0, algn (u k).to_ (width (u k) k), width (u k) k, cls (u k)⟩ := rfl
          have RPX : rplan (u k) k = ⟨k, decide (33554432 ≤ (u k).at_), algn (u k).at_ (width (u k) k), algn (u k).to_ (width (u k) k), width (u k) k, cls (u k)⟩ := rfl
          obtain ⟨hV0, hV1⟩ := (show 0 ≤ algn (u k).at_ (width (u k) k) ∧ algn (u k).at_ (width (u k) k) < 4294967296 by
            obtain ⟨pv, wv, P, V, _⟩ := JH.out
            exact algn_bd (width_or (u k) k) (V k hi).wf.a0 (V k hi).wf.a1)
          have ST0 := Lib.hid (fun (Z : Nat → Option Obj) (w' : World) (um : Nat → Ch) (h : Jf Z w1 w' u um ps ws) => j_step_u h hk HL.out (by have := HN.out; omega))
          rw [RPX] at NX
          have TK1 := TK0.out
          rw [RPX] at TK1
          generalize algn (u k).at_ (width (u k) k) = fa at *
          generalize algn (u k).to_ (width (u k) k) = ft at *
          generalize width (u k) k = wd at *
          generalize cls (u k) = cl at *
          obtain ⟨rd, hrd⟩ : ∃ b, decide (33554432 ≤ (u k).at_) = b := ⟨_, rfl⟩
          have SP : stepP u k = ⟨k, rd, if rd then fa else 0, ft, wd, cl⟩ := by
            rw [SPX, ← hrd]; simp
          rw [hrd] at NX TK1
          have SPH := Lib.hid SP
          have TK := Lib.hid (show ∀ (Z : Nat → Option Obj) (w' : World), Jf Z w1 w' u u ps ws → Calls Try.prog 29 #[.pointer (some ⟨w1.heap.size + 1, 0, none⟩), .agg #[.int .i64 (k : Int), .bool rd, .int .u32 fa, .int .u32 ft, .int .i64 wd, .int .i64 cl], .int .u32 (val fa)] w' fun e w'' => e = .returned (.tuple #[.int .u32 (stepK u k), .bool (stepD u k), .bool (stepA u k)]) ∧ Jf Z w1 w'' u (stepU u k) ps ws from TK1)
          have NXH := Lib.hid (show Calls Try.prog 28 #[.pointer (some ⟨w1.heap.size + 1, 0, none⟩)] wr fun e w' => e = .returned (.agg #[.int .i64 (k : Int), .bool rd, .int .u32 fa, .int .u32 ft, .int .i64 wd, .int .i64 cl]) ∧ Jf (Zb bx 3 i part x nn addr) w1 w' u u ps ws from NX)
          have VL := Lib.hid (fun w => value_any fa hV0 hV1 w)
          have HK := Lib.hid hk
          clear SPX RPX SP TK1 TK0 NX hrd R1 R2 hr hk htn go hp
          go_wp2_with (go_at_call 27; ((with_reducible refine R3.out.mono ?_); rintro e w' ⟨rfl, rfl⟩))
          refine NXH.out.mono ?_
          rintro e W1 ⟨rfl, J1⟩
          have bp : bx ≠ W1.heap.size := by have := sizeAt (jf_box J1 (upd_same _ _ _)); omega
          have J2 := Lib.hid (jf_alloc J1 (.cells #[.int .i64 (k : Int), .bool rd, .int .u32 fa, .int .u32 ft, .int .i64 wd, .int .i64 cl] 36))
          have PBL : W1.heap.size < (W1.alloc (.cells #[.int .i64 (k : Int), .bool rd, .int .u32 fa, .int .u32 ft, .int .i64 wd, .int .i64 cl] 36)).heap.size := by simp
          clear J1 JH NXH X4 XL
          go_upto_region 17 with fail
          generalize W1.alloc (.cells #[.int .i64 (k : Int), .bool rd, .int .u32 fa, .int .u32 ft, .int .i64 wd, .int .i64 cl] 36) = W2 at *
          generalize W1.heap.size = pb at *
          generalize hsk : stepK u k = sk at *
          generalize hsd : stepD u k = sd at *
          generalize hsa : stepA u k = sa at *
          have SKH := Lib.hid (And.intro hsk (And.intro hsd hsa))
          clear hsk hsd hsa
          go_cut [11, 12, 13] (fun s1 s2 s3 wx => s1 = .int .u32 sk ∧ s2 = .bool sd ∧ s3 = .bool sa ∧ Hid (Jf (upd (Zb bx 3 i part x nn addr) pb (some (.cells #[.int .i64 (k : Int), .bool rd, .int .u32 fa, .int .u32 ft, .int .i64 wd, .int .i64 cl] 36 (0, 0)))) w1 wx u (stepU u k) ps ws))
          case first =>
            have PC : ∀ j, W2.cell? ⟨pb, j, none⟩ = (#[.int .i64 (k : Int), .bool rd, .int .u32 fa, .int .u32 ft, .int .i64 wd, .int .i64 cl] : Array Value)[j]? := cellsAt (jf_box J2.out (upd_same _ _ _))
            go_region_held3 (fun w' => (∀ j, w'.cell? ⟨pb, j, none⟩ = (#[.int .i64 (k : Int), .bool rd, .int .u32 fa, .int .u32 ft, .int .i64 wd, .int .i64 cl] : Array Value)[j]?) ∧ pb < w'.heap.size)
              (first
                | (go_split_ands
                   exact ⟨by assumption, by assumption⟩)
                | (go_split_ands
                   exact ⟨cellsAt (jf_box J3.out (upd_same _ _ _)), sizeAt (jf_box J3.out (upd_same _ _ _))⟩))
              (first
                | (go_at_call 12; ((with_reducible refine (VL.out _).mono ?_); rintro e w' ⟨rfl, rfl⟩))
                | (go_at_call 29; (refine (TK.out _ _ (jf_later J2.out (bd _))).mono ?_; rintro e w3 ⟨rfl, q⟩; have J3 := Lib.hid q; clear q)))
            go_wp2_with fail
            go_meet
            case rel => exact ⟨rfl, rfl, rfl, J3⟩
          case rest =>
          obtain ⟨rfl, rfl, rfl, J4⟩ := hcut
          clear J2 PBL TK VL
          have P1 : wc.cell? ⟨pb, 1, none⟩ = some (.bool rd) := cellsAt (jf_box J4.out (upd_same _ _ _)) 1
          have P2 : wc.cell? ⟨pb, 2, none⟩ = some (.int .u32 fa) := cellsAt (jf_box J4.out (upd_same _ _ _)) 2
          have PF := freeAt (jf_box J4.out (upd_same _ _ _)) 2
          have PS := sizeAt (jf_box J4.out (upd_same _ _ _))
          obtain ⟨fz, hfz⟩ : ∃ z : Int, (if rd then fa else 0) = z := ⟨_, rfl⟩
          have SP2 := SPH.out
          rw [hfz] at SP2
          have SP3 := Lib.hid SP2
          have FZ := Lib.hid hfz
          clear SP2 SPH hfz
          go_upto_if 88 with fail
          go_cut [] (fun wx => Hid (Jf (upd (Zb bx 3 i part x nn addr) pb (some (.cells #[.int .i64 (k : Int), .bool rd, .int .u32 fz, .int .u32 ft, .int .i64 wd, .int .i64 cl] 36 (0, 0)))) w1 wx u (stepU u k) ps ws))
          case first =>
            cases rd
            · have e : fz = 0 := by rw [← FZ.out]; rfl
              have JS := jf_set (j := 2) J4.out (.int .u32 0) (upd_same _ _ _)
              rw [upd_upd] at JS
              have E : Hid (Jf (upd (Zb bx 3 i part x nn addr) pb (some (.cells #[.int .i64 (k : Int), .bool false, .int .u32 fz, .int .u32 ft, .int .i64 wd, .int .i64 cl] 36 (0, 0)))) w1 (wc.setCell ⟨pb, 2, none⟩ (.int .u32 0)) u (stepU u k) ps ws) := Lib.hid (by rw [e]; exact JS)
              clear e JS
              go_wp2_with fail
              go_meet
              case rel => exact E
            · have e : fz = fa := by rw [← FZ.out]; rfl
              have E : Hid (Jf (upd (Zb bx 3 i part x nn addr) pb (some (.cells #[.int .i64 (k : Int), .bool true, .int .u32 fz, .int .u32 ft, .int .i64 wd, .int .i64 cl] 36 (0, 0)))) w1 wc u (stepU u k) ps ws) := Lib.hid (by rw [e]; exact J4.out)
              clear e
              go_wp2_with fail
              go_meet
              case rel => exact E
          case rest =>
          have J5 := hcut
          clear J4 P1 P2 PF PS FZ
          obtain ⟨a0, cap0, T0, _⟩ := j_plans J5.out
          have tl := j_lt J5.out
          have ST := Lib.hid (ST0.out _ _ _ J5.out)
          clear ST0
          obtain ⟨N, hN⟩ : ∃ N : Nat, ps.length = N := ⟨_, rfl⟩
          rw [hN] at T0
          have NH := Lib.hid hN
          clear hN
          go_wp2_with fail
          refine ST.out.mono ?_
          rintro e W6 ⟨rfl, q⟩
          have J6 := Lib.hid q
          clear q ST J5 T0 tl
          obtain ⟨a6, cap6, T6, L6⟩ := j_plans J6.out
          obtain ⟨b6, cap7, T7, L7⟩ := j_wrote J6.out
          have l1 : (ps ++ [stepP u k]).length = N + 1 := by rw [List.length_append, NH.out]; rfl
          have l2 : (ws ++ [sk]).length = N + 1 := by rw [List.length_append, HL.out, NH.out]; rfl
          rw [l1] at T6 L6
          rw [l2] at T7 L7
          obtain ⟨g6, rfl, gl6, pc6⟩ := L6 N (by omega)
          obtain ⟨g7, rfl, gl7, pc7⟩ := L7 N (by omega)
          have pe : (ps ++ [stepP u k]).getD N ⟨0, false, 0, 0, 0, 0⟩ = ⟨k, rd, fz, ft, wd, cl⟩ := by
            rw [List.getD_eq_getElem?_getD, List.getElem?_append_right (by rw [NH.out]; exact Nat.le_refl _), NH.out, Nat.sub_self, ← SP3.out]; rfl
          have we : (ws ++ [sk]).getD N 0 = sk := by
            rw [List.getD_eq_getElem?_getD, List.getElem?_append_right (by rw [HL.out, NH.out]; exact Nat.le_refl _), HL.out, NH.out, Nat.sub_self]; rfl
          rw [pe] at pc6
          rw [we] at pc7
          have d0 : W6.cell? ⟨g6, N * 6, none⟩ = some (.int .i64 (k : Int)) := pc6 0 (by decide)
          have d1 : W6.cell? ⟨g6, N * 6 + 1, none⟩ = some (.bool rd) := pc6 1 (by decide)
          have d2 : W6.cell? ⟨g6, N * 6 + 2, none⟩ = some (.int .u32 fz) := pc6 2 (by decide)
          have d3 : W6.cell? ⟨g6, N * 6 + 3, none⟩ = some (.int .u32 ft) := pc6 3 (by decide)
          have d4 : W6.cell? ⟨g6, N * 6 + 4, none⟩ = some (.int .i64 wd) := pc6 4 (by decide)
          have d5 : W6.cell? ⟨g6, N * 6 + 5, none⟩ = some (.int .i64 cl) := pc6 5 (by decide)
          have d7 : W6.cell? ⟨g7, N, none⟩ = some (.int .u32 sk) := pc7
          have PB := jf_box J6.out (upd_same _ _ _)
          have q0 : W6.cell? ⟨pb, 0, none⟩ = some (.int .i64 (k : Int)) := cellsAt PB 0
          have q1 : W6.cell? ⟨pb, 1, none⟩ = some (.bool rd) := cellsAt PB 1
          have q2 : W6.cell? ⟨pb, 2, none⟩ = some (.int .u32 fz) := cellsAt PB 2
          have q3 : W6.cell? ⟨pb, 3, none⟩ = some (.int .u32 ft) := cellsAt PB 3
          have q4 : W6.cell? ⟨pb, 4, none⟩ = some (.int .i64 wd) := cellsAt PB 4
          have q5 : W6.cell? ⟨pb, 5, none⟩ = some (.int .i64 cl) := cellsAt PB 5
          have pbl := sizeAt PB
          have tl := j_lt J6.out
          have EQ := fun w => Ds.plan_eq (k : Int) rd fz ft wd cl w
          have N8 : N ≤ 80060 := by have := HN.out; have := NH.out; omega
          have n0 : (0 : Int) ≤ (N : Int) := by omega
          have n1 : (N : Int) < (N : Int) + 1 := by omega
          have n2 : (N : Int) ≤ 80060 := by omega
          have wr1 : IntKind.i64.wrap ((N : Int) + 1) = (N : Int) + 1 := by rw [IntKind.wrap_i64]; omega
          have kk1 : ((k : Int) != (k : Int)) = false := by simp
          have bb : ∀ b : Bool, (b != b) = false := fun b => by cases b <;> rfl
          have nn1 : (((N + 1 : Nat) : Int) != (N : Int) + 1) = false := by simp
          have ss : (sk != sk) = false := by simp
          have E : Hid (∀ q, Rz (Zb bx 3 i part x nn addr) w1 (n + (kk + 1)) (W6.drewN q)) := Lib.hid (fun q => ⟨stepU u k, _, _, jf_weak (jf_drewN J6.out q) (fun k' o' hk' => by
              by_cases e : k' = pb
              · subst e
                unfold Zb at hk'
                rw [upd_ne _ _ (fun h => bp h.symm)] at hk'
                cases hk'
              · rw [upd_ne _ _ e]; exact hk'), by rw [l1, l2], by rw [l1]; have := HN.out; have := NH.out; omega⟩)
          clear pc6 pc7 pe we L6 L7 PB l1 l2 J6
          cases sd
          all_goals
            go_wp2_with fail
            go_quiet (fail)
            have E2 := Lib.hid (E.out nq)
            go_wp2_with fail
            go_roundg (60 - (kk + 1))
            case measure => rw [HG.out]; omega
            case rel => exact ⟨kk + 1, by go_num, by omega, rfl, E2⟩
      · by_cases g1 : (kk : Int) < nn
        · have g2 : (60 : Int) ≤ (kk : Int) := by omega
          clear htn go JH
          go_wp2_with fail
          go_meet
          case rel => exact EX
        · have g2 : nn ≤ (kk : Int) := by omega
          clear htn go JH g1
          go_wp2_with fail
          go_meet
          case rel => exact EX
  case rest =>
  have E := hcut
  clear JH HL HN
  go_step
  exact both_tail E
end Go.Proofs.Ytbpeppmajmhmiaa.Wd
