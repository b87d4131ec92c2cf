/- A channel that begins again at each moment: walked. -/
import Derived.Test.YtbpeppmajmhmiaaDv
namespace Go.Proofs.Ytbpeppmajmhmiaa.Dw
set_option linter.unusedVariables false
set_option linter.unusedSimpArgs false
open Go.RowKit Go.Proofs.Ytbpeppmajmhmiaa.Bt Go.Proofs.Ytbpeppmajmhmiaa.Wk Go.Proofs.Ytbpeppmajmhmiaa.Sg Go.Proofs.Ytbpeppmajmhmiaa.Dp Go.Proofs.Ytbpeppmajmhmiaa.Da Go.Proofs.Ytbpeppmajmhmiaa.Db Go.Proofs.Ytbpeppmajmhmiaa.Dc Go.Proofs.Ytbpeppmajmhmiaa.Dd Go.Proofs.Ytbpeppmajmhmiaa.De Go.Proofs.Ytbpeppmajmhmiaa.Fq Go.Proofs.Ytbpeppmajmhmiaa.Df Go.Proofs.Ytbpeppmajmhmiaa.Dg Go.Proofs.Ytbpeppmajmhmiaa.Dh Go.Proofs.Ytbpeppmajmhmiaa.Di Go.Proofs.Ytbpeppmajmhmiaa.Dj Go.Proofs.Ytbpeppmajmhmiaa.Dk Go.Proofs.Ytbpeppmajmhmiaa.Dl Go.Proofs.Ytbpeppmajmhmiaa.Dm Go.Proofs.Ytbpeppmajmhmiaa.Dr Go.Proofs.Ytbpeppmajmhmiaa.Dt Go.Proofs.Ytbpeppmajmhmiaa.Du Go.Proofs.Ytbpeppmajmhmiaa.Dv

theorem tm20 (x : Int) : -20 < Int.tmod x 20 ∧ Int.tmod x 20 < 20 := ⟨Int.lt_tmod_of_pos x (by decide), Int.tmod_lt_of_pos x (by decide)⟩
theorem tm5 (x : Int) : -5 < Int.tmod x 5 ∧ Int.tmod x 5 < 5 := ⟨Int.lt_tmod_of_pos x (by decide), Int.tmod_lt_of_pos x (by decide)⟩
set_option maxRecDepth 100000 in
set_option maxHeartbeats 8000000 in
theorem repeats_law (n times how : Int) (h1 : (Lit.int .i64 n).wf = true) (h2 : (Lit.int .i64 times).wf = true) (h3 : (Lit.int .i64 how).wf = true) (w : World) :
    Calls Try.prog 4 #[.int .i64 n, .int .i64 times, .int .i64 how] w fun e w' => e = .returned (.bool true) ∧ Below w.heap.size w w' := by
  clear h1 h2 h3
  obtain ⟨t1a, t1b⟩ := tm20 n
  obtain ⟨t2a, t2b⟩ := tm5 times
  obtain ⟨N, hN⟩ : ∃ N : Int, Int.tmod n 20 % 20 + 1 = N := ⟨_, rfl⟩
  obtain ⟨m, hm⟩ := Int.eq_ofNat_of_zero_le (show 0 ≤ Int.tmod times 5 % 5 + 1 by omega)
  have N1 : 1 ≤ N := by omega
  have N2 : N ≤ 20 := by omega
  have M1 : (1 : Int) ≤ (m : Int) := by omega
  have M2 : (m : Int) ≤ 5 := by omega
  obtain ⟨ag, hag⟩ : ∃ b : Bool, (Go.bits .and .i64 how 2 != 0) = b := ⟨_, rfl⟩
  have g1 : Go.bits .and .i64 how 1 = how % 2 := by have := and_mask_i64 how 1 (by decide); simpa using this
  obtain ⟨h, hh⟩ : ∃ h : Int, how % 2 + 1 = h := ⟨_, rfl⟩
  have h12 : h = 1 ∨ h = 2 := by omega
  have H1 : 1 ≤ h := by omega
  have H2 : h ≤ 2 := by omega
  have HH := Lib.hid h12
  have o1 : Go.bits .or .u16 32864 (h * 4096) = 32864 + h * 4096 := by rcases h12 with rfl | rfl <;> decide
  have o2 : Go.bits .or .u16 (32864 + h * 4096) 512 = 32864 + h * 4096 + 512 := by rcases h12 with rfl | rfl <;> decide
  have CT := Lib.hid (show ctR h ag = 32864 + h * 4096 + (if ag then 512 else 0) from rfl)
  have CB : 0 ≤ ctR h ag ∧ ctR h ag < 65536 := by unfold ctR; rcases h12 with rfl | rfl <;> cases ag <;> decide
  have AW := Lib.hid (awake_any w)
  generalize ctR h ag = ctl at *
  clear h12
  go_enter Try.func4, Try.ntmps4
  go_wp2_with (go_at_call 8; ((with_reducible refine AW.out.mono ?_); rintro e w1 ⟨rfl, hb⟩; have LW := Lib.hid hb; clear hb))
  refine (new_any w1).mono ?_
  rintro e w2 ⟨rfl, rfl⟩
  go_wp2_with fail
  have G := Lib.hid (cfg_start w1)
  generalize (w1.alloc (.cells (cells fun _ => zeroCh).toArray 62)).alloc (.cells #[.slice none 0 0, .slice none 0 0] 29) = w2 at *
  have C1 : Calls Try.prog 10 #[.pointer (some ⟨w1.heap.size, 0, none⟩), .int .i64 3, .int .i64 1, .int .u16 512] w2 _ := cfg_write G.out (i := 3) (by decide) 1 512 (by decide) (by decide)
  refine C1.mono ?_
  rintro e w3 ⟨rfl, g⟩
  have G2 := Lib.hid g
  clear g G C1
  go_wp2_with fail
  have C1 : Calls Try.prog 10 #[.pointer (some ⟨w1.heap.size, 0, none⟩), .int .i64 3, .int .i64 3, .int .u16 768] w3 _ := cfg_write G2.out (i := 3) (by decide) 3 768 (by decide) (by decide)
  refine C1.mono ?_
  rintro e w4 ⟨rfl, g⟩
  have G := Lib.hid g
  clear g G2 C1
  go_wp2_with fail
  have C1 : Calls Try.prog 10 #[.pointer (some ⟨w1.heap.size, 0, none⟩), .int .i64 3, .int .i64 4, .int .u16 N] w4 _ := cfg_write G.out (i := 3) (by decide) 4 N (by omega) (by omega)
  refine C1.mono ?_
  rintro e w5 ⟨rfl, g⟩
  have G2 := Lib.hid g
  clear g G C1
  go_upto_if 54 with fail
  go_cut [11] (fun s wx => s = .int .u16 ctl ∧ w5 = wx)
  case first =>
    cases ag
    · go_wp2_with fail
      go_meet
      case rel => exact ⟨by rw [CT.out]; simp, rfl⟩
    · go_wp2_with fail
      go_meet
      case rel => exact ⟨by rw [CT.out]; simp, rfl⟩
  case rest =>
  obtain ⟨rfl, rfl⟩ := hcut
  go_wp2_with fail
  have C1 : Calls Try.prog 10 #[.pointer (some ⟨w1.heap.size, 0, none⟩), .int .i64 3, .int .i64 5, .int .u16 ctl] w5 _ := cfg_write G2.out (i := 3) (by decide) 5 ctl CB.1 CB.2
  refine C1.mono ?_
  rintro e w6 ⟨rfl, g⟩
  have G : Hid (Rr w1 N h ag 0 w6) := Lib.hid (by
    have e : ctl = ctR h ag := CT.out
    subst e
    rw [startR HH.out (by omega) (by omega)] at g
    exact ⟨_, _, _, g, rfl, .inl ⟨⟨.inr rfl, 0, rfl⟩, by simpa using pn_nil N⟩⟩)
  clear g G2 C1 o1 o2 g1 CT
  go_wp2_with fail
  go_loopg [61] m (fun g s wx => ∃ k : Nat, s = .int .i64 k ∧ k ≤ m ∧ g = m - k ∧ Hid (Rr w1 N h ag k wx))
  case atStart => exact ⟨0, rfl, by omega, rfl, G⟩
  case round =>
    obtain ⟨k, rfl, hk, hg, GK⟩ := hrel
    clear G
    have HG := Lib.hid hg
    clear hg
    have k0 : (0 : Int) ≤ (k : Int) := by omega
    have k1 : (k : Int) ≤ (m : Int) := by omega
    by_cases hlt : (k : Int) < (m : Int)
    · have t : decide ((k : Int) < (m : Int)) = true := decide_eq_true hlt
      have R1 := Lib.hid (rr_ready GK.out)
      have R2 := Lib.hid (rr_other GK.out HH.out)
      go_wp2_with (go_at_call 13; ((with_reducible refine R1.out.mono ?_); rintro e w' ⟨rfl, rfl⟩))
      refine R2.out.mono ?_
      rintro e w7 ⟨rfl, GM⟩
      have R3 := Lib.hid (rr_ready GM)
      have GMH := Lib.hid GM
      clear GM R1 R2 GK
      go_wp2_with (go_at_call 13; ((with_reducible refine R3.out.mono ?_); rintro e w' ⟨rfl, rfl⟩))
      have MV : Calls Try.prog 15 #[.pointer (some ⟨w1.heap.size, 0, none⟩), .int .i64 h] w7 fun e w' => e = .returned (.tuple #[]) ∧ ((Ra w1 N h ag k 0 w' ∧ (ag || (k : Int) == 0) = true) ∨ (Rr w1 N h ag (k + 1) w' ∧ (ag || (k : Int) == 0) = false)) := by
        by_cases a : ag = true ∨ k = 0
        · refine (rr_go GMH.out HH.out a).mono ?_
          rintro e w' ⟨rfl, q⟩
          refine ⟨rfl, .inl ⟨q, ?_⟩⟩
          rcases a with a | a <;> simp [a]
        · refine (rr_stay GMH.out a).mono ?_
          rintro e w' ⟨rfl, q⟩
          refine ⟨rfl, .inr ⟨q, ?_⟩⟩
          have a1 : ag = false := by cases ag; · rfl
                                     · exact absurd (.inl rfl) a
          simp only [a1, Bool.false_or]
          simp
          omega
      refine MV.mono ?_
      rintro e w8 ⟨rfl, X⟩
      have XH := Lib.hid X
      have RX : ∃ r : Int, Hid (Calls Try.prog 13 #[.pointer (some ⟨w1.heap.size, 0, none⟩)] w8 fun e w' => e = .returned (.int .i64 r) ∧ w8 = w') ∧ (r == 3) = (ag || (k : Int) == 0) := by
        rcases X with ⟨q, e⟩ | ⟨q, e⟩
        · exact ⟨3, Lib.hid (ra_ready q), by rw [e]; rfl⟩
        · exact ⟨-1, Lib.hid (rr_ready q), by rw [e]; rfl⟩
      obtain ⟨r, R4, hr⟩ := RX
      clear MV X R3 GMH
      go_upto_region 22 with fail
      go_cut [85] (fun s wx => s = .bool false ∧ w8 = wx)
      case first =>
        have bb : ∀ b : Bool, (b != b) = false := fun b => by cases b <;> rfl
        cases ag
        · obtain ⟨kz, hkz⟩ : ∃ b, ((k : Int) == 0) = b := ⟨_, rfl⟩
          rw [hkz, Bool.false_or] at hr
          go_wp2_with (go_at_call 13; ((with_reducible refine R4.out.mono ?_); rintro e w' ⟨rfl, rfl⟩))
          go_meet
          case rel => exact ⟨by first | rfl | (cases kz <;> rfl), rfl⟩
        · go_wp2_with (go_at_call 13; ((with_reducible refine R4.out.mono ?_); rintro e w' ⟨rfl, rfl⟩))
          go_meet
          case rel => exact ⟨by simp, rfl⟩
      case rest =>
      obtain ⟨rfl, rfl⟩ := hcut
      clear R4 hr
      go_wp2_with fail
      have GM : ∃ gm : Nat, Hid ((Ra w1 N h ag k 0 w8 ∧ 0 < N ∧ (gm : Int) = N - ((0 : Nat) : Int)) ∨ (Rr w1 N h ag (k + 1) w8 ∧ gm = 0)) := by
        rcases XH.out with ⟨q, _⟩ | ⟨q, _⟩
        · exact ⟨N.toNat, Lib.hid (.inl ⟨q, by omega, by omega⟩)⟩
        · exact ⟨0, Lib.hid (.inr ⟨q, rfl⟩)⟩
      obtain ⟨gm, GX⟩ := GM
      clear XH
      go_loopg [13] gm (fun g s wx => ∃ i : Nat, s = .int .i64 i ∧ i ≤ 20 ∧ Hid ((Ra w1 N h ag k i wx ∧ (i : Int) < N ∧ (g : Int) = N - (i : Int)) ∨ (Rr w1 N h ag (k + 1) wx ∧ g = 0)))
      case atStart => exact ⟨0, rfl, by omega, GX⟩
      case round =>
        obtain ⟨i, rfl, hi, GI⟩ := hrel
        clear GX
        have i0 : (0 : Int) ≤ (i : Int) := by omega
        have i1 : (i : Int) ≤ 20 := by omega
        rcases GI.out with ⟨q, hiN, hg⟩ | ⟨q, hg⟩
        · have R1 := Lib.hid (ra_ready q)
          have ST := ra_step q HH.out hiN N2 (by omega)
          obtain ⟨d, hd⟩ : ∃ d, decide ((i : Int) + 1 = N) = d := ⟨_, rfl⟩
          rw [hd] at ST
          have e1 : ((i : Int) == N - 1) = d := by
            rw [← hd, beq_eq_decide]
            by_cases q : (i : Int) + 1 = N
            · rw [decide_eq_true q, decide_eq_true (by omega)]
            · rw [decide_eq_false q, decide_eq_false (by omega)]
          have dd : (d != d) = false := by cases d <;> rfl
          have SH := Lib.hid ST
          have HG2 := Lib.hid hg
          clear hd ST q GI hg
          go_wp2_with (first | (go_at_call 13; ((with_reducible refine R1.out.mono ?_); rintro e w' ⟨rfl, rfl⟩)) | (go_at_call 11; ((with_reducible refine SH.out.mono ?_); rintro e w9 ⟨bb, rfl, z⟩; have Z := Lib.hid z; clear z)))
          rcases Z.out with ⟨z1, z2⟩ | ⟨z1, z2⟩
          · have Z1 := Lib.hid z1
            have Z2 := Lib.hid z2
            clear z1 z2 Z
            go_roundg (N - ((i + 1 : Nat) : Int)).toNat
            case measure => have := Z1.out; have := HG2.out; omega
            case rel => exact ⟨i + 1, by go_num, by have := Z1.out; omega, Lib.hid (.inl ⟨Z2.out, by have := Z1.out; omega, by have := Z1.out; omega⟩)⟩
          · have Z1 := Lib.hid z1
            have Z2 := Lib.hid z2
            clear z1 z2 Z
            go_roundg 0
            case measure => have := Z1.out; have := HG2.out; omega
            case rel => exact ⟨i + 1, by go_num, by have := Z1.out; omega, Lib.hid (.inr ⟨Z2.out, rfl⟩)⟩
        · have R1 := Lib.hid (rr_ready q)
          have QH := Lib.hid q
          clear q GI hg
          go_wp2_with (go_at_call 13; ((with_reducible refine R1.out.mono ?_); rintro e w' ⟨rfl, rfl⟩))
          go_roundg (m - (k + 1))
          case measure => rw [HG.out]; omega
          case rel => exact ⟨k + 1, by go_num, by omega, rfl, QH⟩
    · obtain rfl : k = m := by omega
      have t : decide ((k : Int) < (k : Int)) = false := decide_eq_false (by omega)
      obtain ⟨c, ps, ws, C, P⟩ := rr_end GK.out (by omega)
      have LE := Lib.hid (below_then LW.out (cfg_below C) LW.out.size)
      obtain ⟨a, cap, T0, PL⟩ := cfg_plans C
      have PLH := Lib.hid PL
      have P1 := P.1
      have P2 := Lib.hid P.2
      have l1 := cfg_lt C
      have NM : 0 ≤ N * (k : Int) ∧ N * (k : Int) ≤ 100 := by
        constructor
        · exact Int.mul_nonneg (by omega) (by omega)
        · have e1 : N * (k : Int) ≤ 20 * (k : Int) := Int.mul_le_mul_of_nonneg_right (by omega) (by omega)
          omega
      obtain ⟨NM0, NM1⟩ := NM
      have WB : want N ag k = if ag then N * (k : Int) else N := rfl
      have W0 : (ps.length : Int) ≤ 100 := by rw [P1, WB]; split <;> omega
      have WBH := Lib.hid WB
      have P1H := Lib.hid P1
      clear PL P GK C WB P1
      go_upto_if 107 with fail
      go_cut [17] (fun s wx => s = .int .i64 (want N ag k) ∧ wr = wx)
      case first =>
        cases ag
        · go_wp2_with fail
          go_meet
          case rel => exact ⟨by rw [WBH.out]; simp, rfl⟩
        · go_wp2_with fail
          go_meet
          case rel => exact ⟨by rw [WBH.out]; simp, rfl⟩
      case rest =>
      obtain ⟨rfl, hw⟩ := hcut
      subst hw
      have pe : ((ps.length : Int) != want N ag k) = false := by rw [P1H.out]; simp
      go_wp2_with fail
      clear WBH pe T0
      rename World => WQ
      obtain ⟨gm, hgm⟩ : ∃ gm : Nat, gm = ps.length := ⟨_, rfl⟩
      have GH := Lib.hid hgm
      clear hgm
      go_loopg [123] gm (fun g s wx => ∃ i : Nat, s = .int .i64 i ∧ i ≤ ps.length ∧ g = ps.length - i ∧ Hid (Below WQ.heap.size WQ wx))
      case atStart => exact ⟨0, rfl, by omega, by rw [GH.out]; rfl, Lib.hid (Below.refl _ _)⟩
      case round =>
        obtain ⟨i, rfl, hi, hg, LXH⟩ := hrel
        have HG2 := Lib.hid hg
        clear hg
        have i0 : (0 : Int) ≤ (i : Int) := by omega
        have i1 : (i : Int) ≤ 100 := by omega
        by_cases hlt : (i : Int) < (ps.length : Int)
        · have t : decide ((i : Int) < (ps.length : Int)) = true := decide_eq_true hlt
          obtain ⟨g, rfl, gl, pc⟩ := PLH.out i (by omega)
          obtain ⟨f1, f2⟩ := P2.out i (by omega)
          have hsz := LXH.out.size
          generalize ps.getD i ⟨0, false, 0, 0, 0, 0⟩ = p at *
          obtain ⟨pch, prd, pfr, pto, pwd, pcl⟩ := p
          dsimp only at f1 f2
          subst f1
          subst f2
          have mb : 0 ≤ (i : Int) % N ∧ (i : Int) % N ≤ 20 := by
            have := Int.emod_nonneg (i : Int) (show N ≠ 0 by omega)
            have := Int.emod_lt_of_pos (i : Int) (show 0 < N by omega)
            omega
          obtain ⟨mb0, mb1⟩ := mb
          have tm : Int.tmod (i : Int) N = (i : Int) % N := Int.tmod_eq_emod_of_nonneg (by omega)
          have d0 : wr.cell? ⟨g, i * 6, none⟩ = some (.int .i64 pch) := (LXH.out.cell (p := ⟨g, i * 6, none⟩) gl).trans (pc 0 (by decide))
          have d1 : wr.cell? ⟨g, i * 6 + 1, none⟩ = some (.bool prd) := (LXH.out.cell (p := ⟨g, i * 6 + 1, none⟩) gl).trans (pc 1 (by decide))
          have d2 : wr.cell? ⟨g, i * 6 + 2, none⟩ = some (.int .u32 (33554432 + 2 * (i : Int))) := (LXH.out.cell (p := ⟨g, i * 6 + 2, none⟩) gl).trans (pc 2 (by decide))
          have d3 : wr.cell? ⟨g, i * 6 + 3, none⟩ = some (.int .u32 (50331648 + 2 * ((i : Int) % N))) := (LXH.out.cell (p := ⟨g, i * 6 + 3, none⟩) gl).trans (pc 3 (by decide))
          have d4 : wr.cell? ⟨g, i * 6 + 4, none⟩ = some (.int .i64 pwd) := (LXH.out.cell (p := ⟨g, i * 6 + 4, none⟩) gl).trans (pc 4 (by decide))
          have d5 : wr.cell? ⟨g, i * 6 + 5, none⟩ = some (.int .i64 pcl) := (LXH.out.cell (p := ⟨g, i * 6 + 5, none⟩) gl).trans (pc 5 (by decide))
          have gr : g < wr.heap.size := Nat.lt_of_lt_of_le gl hsz
          have Nz : (N == 0) = false := by
            have : N ≠ 0 := by omega
            simpa using this
          have r1 : IntKind.i64.wrap (2 * (i : Int)) = 2 * (i : Int) := by rw [IntKind.wrap_i64]; omega
          have r2 : IntKind.i64.wrap (33554432 + 2 * (i : Int)) = 33554432 + 2 * (i : Int) := by rw [IntKind.wrap_i64]; omega
          have r3 : IntKind.i64.wrap (2 * ((i : Int) % N)) = 2 * ((i : Int) % N) := by rw [IntKind.wrap_i64]; omega
          have r4 : IntKind.i64.wrap (50331648 + 2 * ((i : Int) % N)) = 50331648 + 2 * ((i : Int) % N) := by rw [IntKind.wrap_i64]; omega
          have r5 : IntKind.u32.wrap (33554432 + 2 * (i : Int)) = 33554432 + 2 * (i : Int) := by rw [wrap_u32]; omega
          have r6 : IntKind.u32.wrap (50331648 + 2 * ((i : Int) % N)) = 50331648 + 2 * ((i : Int) % N) := by rw [wrap_u32]; omega
          have r7 : IntKind.i64.wrap ((i : Int) % N) = (i : Int) % N := by rw [IntKind.wrap_i64]; omega
          clear pc
          generalize (i : Int) % N = im at *
          go_wp2_with fail
          go_quiet (fail)
          go_wp2_with fail
          go_roundg (ps.length - (i + 1))
          case measure => rw [HG2.out]; omega
          case rel => exact ⟨i + 1, by go_num, by omega, rfl, Lib.hid (below_dn (LXH.out.alloc LXH.out.size _) _)⟩
        · have t : decide ((i : Int) < (ps.length : Int)) = false := decide_eq_false hlt
          have LF := Lib.hid (below_then LE.out LXH.out LE.out.size)
          have hge : (ps.length : Int) ≤ (i : Int) := by omega
          clear hlt
          go_wp2_with fail
          go_ret
          exact ⟨rfl, LF.out⟩
end Go.Proofs.Ytbpeppmajmhmiaa.Dw
