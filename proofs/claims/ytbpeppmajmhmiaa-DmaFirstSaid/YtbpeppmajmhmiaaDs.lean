/- A channel that goes up copies just its units: walked. -/
import Derived.Test.YtbpeppmajmhmiaaDr
import Derived.Test.YtbpeppmajmhmiaaDt
namespace Go.Proofs.Ytbpeppmajmhmiaa.Ds
set_option linter.unusedVariables false
set_option linter.unusedSimpArgs false
open Go.RowKit Go.Proofs.Ytbpeppmajmhmiaa.Bt Go.Proofs.Ytbpeppmajmhmiaa.Wk Go.Proofs.Ytbpeppmajmhmiaa.Sg Go.Proofs.Ytbpeppmajmhmiaa.Dp Go.Proofs.Ytbpeppmajmhmiaa.Da Go.Proofs.Ytbpeppmajmhmiaa.Db Go.Proofs.Ytbpeppmajmhmiaa.Dc Go.Proofs.Ytbpeppmajmhmiaa.Dd Go.Proofs.Ytbpeppmajmhmiaa.De Go.Proofs.Ytbpeppmajmhmiaa.Fq Go.Proofs.Ytbpeppmajmhmiaa.Df Go.Proofs.Ytbpeppmajmhmiaa.Dg Go.Proofs.Ytbpeppmajmhmiaa.Dh Go.Proofs.Ytbpeppmajmhmiaa.Di Go.Proofs.Ytbpeppmajmhmiaa.Dj Go.Proofs.Ytbpeppmajmhmiaa.Dk Go.Proofs.Ytbpeppmajmhmiaa.Dl Go.Proofs.Ytbpeppmajmhmiaa.Dm Go.Proofs.Ytbpeppmajmhmiaa.Dr Go.Proofs.Ytbpeppmajmhmiaa.Dt

theorem plan_eq (c : Int) (r : Bool) (f t wd cl : Int) (w : World) : (Op.equalIn 10000 36 (.agg #[.int .i64 c, .bool r, .int .u32 f, .int .u32 t, .int .i64 wd, .int .i64 cl]) (.agg #[.int .i64 c, .bool r, .int .u32 f, .int .u32 t, .int .i64 wd, .int .i64 cl])).run Try.prog w = .ok true w := by
  rw [run_equalIn_agg (P := Try.prog) w 9999 36 _ _ (by kernel_rfl) (by kernel_rfl)]
  go_simp
theorem tm100 (x : Int) : -100 < Int.tmod x 100 ∧ Int.tmod x 100 < 100 := by
  have a := Int.tmod_lt_of_pos x (show (0 : Int) < 100 by decide)
  have b := Int.lt_tmod_of_pos x (show (0 : Int) < 100 by decide)
  exact ⟨b, a⟩
theorem tm4 (x : Int) : -4 < Int.tmod x 4 ∧ Int.tmod x 4 < 4 := by
  have a := Int.tmod_lt_of_pos x (show (0 : Int) < 4 by decide)
  have b := Int.lt_tmod_of_pos x (show (0 : Int) < 4 by decide)
  exact ⟨b, a⟩
theorem cfgC_step {w1 : World} {c : Nat} {n wd ctl : Int} {k : Nat} {wr : World} (h : Cfg w1 wr (uC c n wd ctl k) (plsC c wd k) (wrsC wd k)) (hc : c < 4) (hK : Kd wd ctl) (hk : (k : Int) < n) (n2 : n ≤ 100) :
    Calls Try.prog 11 #[.pointer (some ⟨w1.heap.size, 0, none⟩), .iface 25 (.pointer (some ⟨w1.heap.size + 1, 0, none⟩))] wr fun e w' => e = .returned (.tuple #[.int .i64 c, .bool (decide ((k : Int) + 1 = n)), .bool (decide ((k : Int) + 1 = n))]) ∧ Cfg w1 w' (uC c n wd ctl (k + 1)) (plsC c wd (k + 1)) (wrsC wd (k + 1)) := by
  obtain ⟨s1, s2, s3, s4, s5⟩ := stepC hc hK hk n2
  have := cfg_step h (readyC hc hk) (by rw [plsC_len, wrsC_len]) (by rw [plsC_len]; omega)
  rw [s3, s2, s1, s4, s5, plsC_succ, wrsC_succ] at this
  exact this
set_option maxRecDepth 100000 in
set_option maxHeartbeats 3000000 in
theorem copies_law (n : Int) (b : Bool) (ch : Int) (h1 : (Lit.int .i64 n).wf = true) (h2 : (Lit.int .i64 ch).wf = true) (w : World) :
    Calls Try.prog 3 #[.int .i64 n, .bool b, .int .i64 ch] w fun e w' => e = .returned (.bool true) ∧ Below w.heap.size w w' := by
  clear h1 h2
  have t1 := tm100 n
  have t2 := tm4 ch
  obtain ⟨m, hm⟩ := Int.eq_ofNat_of_zero_le (show 0 ≤ Int.tmod n 100 % 100 by omega)
  obtain ⟨c, hc⟩ := Int.eq_ofNat_of_zero_le (show 0 ≤ Int.tmod ch 4 % 4 by omega)
  have m1 : (m : Int) < 100 := by omega
  have c1 : (c : Int) < 4 := by omega
  have m0 : (0 : Int) ≤ (m : Int) := by omega
  have c0 : (0 : Int) ≤ (c : Int) := by omega
  have AW := Lib.hid (awake_any w)
  obtain ⟨t1a, t1b⟩ := t1
  obtain ⟨t2a, t2b⟩ := t2
  have hN : ((m : Int) + 1) ≤ 100 := by omega
  have ci : c < 4 := by omega
  obtain ⟨wd, ctl, hwd, hctl⟩ : ∃ wd ctl : Int, wd = (if b then 4 else 2) ∧ ctl = (if b then 50176 else 49152) := ⟨_, _, rfl, rfl⟩
  have K : Hid (Kd wd ctl) := Lib.hid (by rw [hwd, hctl]; cases b <;> simp [Kd])
  have HB := Lib.hid (And.intro hwd hctl)
  clear hwd hctl
  go_enter Try.func3, Try.ntmps3
  go_wp2_with (go_at_call 8; ((with_reducible refine AW.out.mono ?_); rintro e w1 ⟨rfl, hb⟩; have LW := Lib.hid hb; clear hb))
  refine (new_any w1).mono ?_
  rintro e w2 ⟨rfl, rfl⟩
  go_wp2_with fail
  have G := Lib.hid (cfg_start w1)
  generalize (w1.alloc (.cells (cells fun _ => zeroCh).toArray 62)).alloc (.cells #[.slice none 0 0, .slice none 0 0] 29) = w2 at *
  refine (cfg_write G.out (i := c) ci 1 513 (by decide) (by decide)).mono ?_
  rintro e w3 ⟨rfl, g⟩
  have G2 := Lib.hid g
  clear g G
  go_wp2_with fail
  refine (cfg_write G2.out (i := c) ci 3 770 (by decide) (by decide)).mono ?_
  rintro e w4 ⟨rfl, g⟩
  have G := Lib.hid g
  clear g G2
  go_wp2_with fail
  refine (cfg_write G.out (i := c) ci 4 ((m : Int) + 1) (by omega) (by omega)).mono ?_
  rintro e w5 ⟨rfl, g⟩
  have G2 := Lib.hid g
  clear g G
  go_upto_if 45 with fail
  go_cut [9, 10] (fun s9 s10 wx => s9 = .int .u16 ctl ∧ s10 = .int .i64 wd ∧ w5 = wx)
  case first =>
    obtain ⟨q1, q2⟩ := HB.out
    cases b
    · go_wp2_with fail
      go_meet
      case rel => exact ⟨by rw [q2]; rfl, by rw [q1]; rfl, rfl⟩
    · go_wp2_with fail
      go_meet
      case rel => exact ⟨by rw [q2]; rfl, by rw [q1]; rfl, rfl⟩
  case rest =>
  obtain ⟨rfl, rfl, rfl⟩ := hcut
  go_wp2_with fail
  have cb : 0 ≤ ctl ∧ ctl < 65536 := by rcases K.out with ⟨_, e⟩ | ⟨_, e⟩ <;> rw [e] <;> decide
  refine (cfg_write G2.out (i := c) ci 5 ctl cb.1 cb.2).mono ?_
  rintro e w6 ⟨rfl, g⟩
  rw [startC ci K.out (by omega) (by omega)] at g
  have G := Lib.hid g
  clear g G2
  go_wp2_with fail
  go_loopw [51] (fun i wr => ∃ k : Nat, i = .int .i64 k ∧ k ≤ m + 1 ∧ Hid (Cfg w1 wr (uC c (m + 1) wd ctl k) (plsC c wd k) (wrsC wd k))) (fun i _ => m + 1 - (intOf i).toNat)
  case atStart => exact ⟨0, rfl, by omega, G⟩
  case round =>
    obtain ⟨k, rfl, hk, GK⟩ := hrel
    clear G
    have k0 : (0 : Int) ≤ (k : Int) := by omega
    have k1 : (k : Int) ≤ (m : Int) + 1 := by omega
    by_cases hlt : (k : Int) < (m : Int) + 1
    · have t : decide ((k : Int) < (m : Int) + 1) = true := decide_eq_true hlt
      have ST := cfgC_step GK.out ci K.out hlt hN
      obtain ⟨d, hd⟩ : ∃ d, decide ((k : Int) + 1 = (m : Int) + 1) = d := ⟨_, rfl⟩
      rw [hd] at ST
      have e1 : ((k : Int) == (m : Int)) = d := by
        rw [← hd, beq_eq_decide]
        by_cases q : (k : Int) = (m : Int)
        · rw [decide_eq_true q, decide_eq_true (by omega)]
        · rw [decide_eq_false q, decide_eq_false (by omega)]
      clear hd
      have SH := Lib.hid ST
      clear ST
      have dd : (d != d) = false := by cases d <;> rfl
      have cc : ((c : Int) != (c : Int)) = false := by simp
      go_wp2_with (go_at_call 11; ((with_reducible refine SH.out.mono ?_); rintro e w' ⟨rfl, g⟩; have GN := Lib.hid g; clear g))
      go_roundw
      case rel => exact ⟨k + 1, by go_num, by omega, GN⟩
      case measure => simp [intOf]; omega
    · obtain rfl : k = m + 1 := by omega
      clear hlt
      obtain ⟨a, cap, T0, PL⟩ := cfg_plans GK.out
      rw [plsC_len] at T0 PL
      have t : decide (((m + 1 : Nat) : Int) < (m : Int) + 1) = false := decide_eq_false (by omega)
      have l1 := cfg_lt GK.out
      obtain ⟨ad, cap2, T1, WL⟩ := cfg_wrote GK.out
      rw [wrsC_len] at T1 WL
      have PLH := Lib.hid PL
      have WLH := Lib.hid WL
      have T1H := Lib.hid T1
      have RD := Lib.hid (cfg_ready GK.out)
      have CT := Lib.hid (cfg_control GK.out ci)
      clear PL WL T1
      go_wp2_with fail
      rename World => W0
      obtain ⟨gm, hgm⟩ : ∃ gm : Nat, gm = m + 1 := ⟨_, rfl⟩
      have GH := Lib.hid hgm
      clear hgm
      go_loopg [84] gm (fun g i wx => ∃ k : Nat, i = .int .i64 k ∧ k ≤ m + 1 ∧ g = m + 1 - k ∧ Hid (Below W0.heap.size W0 wx))
      case atStart => exact ⟨0, rfl, by omega, by rw [GH.out]; rfl, Lib.hid (Below.refl _ _)⟩
      case round =>
        obtain ⟨k, rfl, hk, hg, LXH⟩ := hrel
        have LX := LXH.out
        have HG := Lib.hid hg
        clear hg
        have k0 : (0 : Int) ≤ (k : Int) := by omega
        have k1 : (k : Int) ≤ (m : Int) + 1 := by omega
        by_cases hlt : (k : Int) < (m : Int) + 1
        · have t : decide ((k : Int) < (m : Int) + 1) = true := decide_eq_true hlt
          have hkk : k < m + 1 := by omega
          obtain ⟨g, rfl, gl, pc⟩ := PLH.out k hkk
          obtain ⟨g2, rfl, gl2, wc⟩ := WLH.out k hkk
          have pe : (plsC c wd (m + 1)).getD k ⟨0, false, 0, 0, 0, 0⟩ = plC c wd k := by
            rw [List.getD_eq_getElem?_getD, List.getElem?_eq_getElem (by rw [plsC_len]; exact hkk), plsC_at]; rfl
          have we : (wrsC wd (m + 1)).getD k 0 = lv wd k := by
            rw [List.getD_eq_getElem?_getD, List.getElem?_eq_getElem (by rw [wrsC_len]; exact hkk), wrsC_at]; rfl
          rw [pe] at pc
          rw [we] at wc
          have hsz := LX.size
          have w2 : wd = 2 ∨ wd = 4 := by rcases K.out with ⟨e, _⟩ | ⟨e, _⟩ <;> simp [e]
          have kw : 0 ≤ (k : Int) * wd ∧ (k : Int) * wd ≤ 400 := by rcases w2 with e | e <;> rw [e] <;> omega
          obtain ⟨kw0, kw1⟩ := kw
          have w2l : 2 ≤ wd := by omega
          have w2h : wd ≤ 4 := by omega
          have VB := val_bd (a := 33619968 + (k : Int) * wd) (by omega) (by omega)
          have VL := Lib.hid (fun w => value_any (33619968 + (k : Int) * wd) (by omega) (by omega) w)
          obtain ⟨cl, hcl⟩ : ∃ cl : Int, cl = if k = 0 then 0 else 1 := ⟨_, rfl⟩
          have EQ := fun w => plan_eq (c : Int) true (33619968 + (k : Int) * wd) (50462720 + (k : Int) * wd) wd cl w
          have d0 : wr.cell? ⟨g, k * 6, none⟩ = some (.int .i64 c) := (LX.cell (p := ⟨g, k * 6, none⟩) gl).trans (pc 0 (by decide))
          have d1 : wr.cell? ⟨g, k * 6 + 1, none⟩ = some (.bool true) := (LX.cell (p := ⟨g, k * 6 + 1, none⟩) gl).trans (pc 1 (by decide))
          have d2 : wr.cell? ⟨g, k * 6 + 2, none⟩ = some (.int .u32 (33619968 + (k : Int) * wd)) := (LX.cell (p := ⟨g, k * 6 + 2, none⟩) gl).trans (pc 2 (by decide))
          have d3 : wr.cell? ⟨g, k * 6 + 3, none⟩ = some (.int .u32 (50462720 + (k : Int) * wd)) := (LX.cell (p := ⟨g, k * 6 + 3, none⟩) gl).trans (pc 3 (by decide))
          have d4 : wr.cell? ⟨g, k * 6 + 4, none⟩ = some (.int .i64 wd) := (LX.cell (p := ⟨g, k * 6 + 4, none⟩) gl).trans (pc 4 (by decide))
          have d5 : wr.cell? ⟨g, k * 6 + 5, none⟩ = some (.int .i64 cl) := (LX.cell (p := ⟨g, k * 6 + 5, none⟩) gl).trans ((pc 5 (by decide)).trans (by rw [hcl]; rfl))
          have dt : wr.cell? ⟨w1.heap.size + 1, 1, none⟩ = some (.slice (some ⟨g2, 0, none⟩) ((m + 1 : Nat)) cap2) := (LX.cell (p := ⟨w1.heap.size + 1, 1, none⟩) l1).trans T1H.out
          have dw : wr.cell? ⟨g2, k, none⟩ = some (.int .u32 (lv wd k)) := (LX.cell (p := ⟨g2, k, none⟩) gl2).trans wc
          have gr : g < wr.heap.size := Nat.lt_of_lt_of_le gl hsz
          have gr2 : g2 < wr.heap.size := Nat.lt_of_lt_of_le gl2 hsz
          have l1r : w1.heap.size + 1 < wr.heap.size := Nat.lt_of_lt_of_le l1 hsz
          have CLH := Lib.hid hcl
          have LV : lv wd k = if wd = 2 then val (33619968 + (k : Int) * wd) % 65536 * 65536 + val (33619968 + (k : Int) * wd) % 65536 else val (33619968 + (k : Int) * wd) := rfl
          clear pc wc pe we LX hcl w2
          generalize val (33619968 + (k : Int) * wd) = x at *
          obtain ⟨x0, x1⟩ := VB
          generalize lv wd k = lvk at *
          go_upto_if 95 with fail
          go_cut [18] (fun s wx => s = .int .i64 cl ∧ wx = wr.alloc (.cells #[.int .i64 c, .bool true, .int .u32 (33619968 + (k : Int) * wd), .int .u32 (50462720 + (k : Int) * wd), .int .i64 wd, .int .i64 cl] 36))
          case first =>
            by_cases q : k = 0
            · have tk : ((k : Int) == 0) = true := by simp [q]
              have qc : cl = 0 := by rw [CLH.out, if_pos q]
              have QC := Lib.hid qc
              clear q CLH qc
              go_wp2_with fail
              go_meet
              case rel => exact ⟨by rw [QC.out], rfl⟩
            · have tk : ((k : Int) == 0) = false := by simp [q]
              have qc : cl = 1 := by rw [CLH.out, if_neg q]
              have QC := Lib.hid qc
              clear q CLH qc
              go_wp2_with fail
              go_meet
              case rel => exact ⟨by rw [QC.out], rfl⟩
          case rest =>
          obtain ⟨rfl, rfl⟩ := hcut
          cases b
          · have e2 : wd = 2 := HB.out.1
            rw [if_pos e2] at LV
            clear e2
            have LH := Lib.hid LV
            clear LV
            have g1 := and_lo x0 x1
            have g2' : x * 65536 % 4294967296 = x % 65536 * 65536 := by omega
            have g3 := or_16 x
            have nn : (lvk != (x % 65536 * 65536 + x % 65536)) = false := by rw [LH.out]; simp
            go_wp2_with (go_at_call 12; ((with_reducible refine (VL.out _).mono ?_); rintro e w' ⟨rfl, rfl⟩))
            go_roundg (m + 1 - (k + 1))
            case measure => rw [HG.out]; omega
            case rel => exact ⟨k + 1, by go_num, by omega, rfl, Lib.hid (LXH.out.alloc LXH.out.size _)⟩
          · have e2 : ¬ wd = 2 := by rw [HB.out.1]; decide
            rw [if_neg e2] at LV
            clear e2
            have LH := Lib.hid LV
            clear LV
            have nn : (lvk != x) = false := by rw [LH.out]; simp
            go_wp2_with (go_at_call 12; ((with_reducible refine (VL.out _).mono ?_); rintro e w' ⟨rfl, rfl⟩))
            go_roundg (m + 1 - (k + 1))
            case measure => rw [HG.out]; omega
            case rel => exact ⟨k + 1, by go_num, by omega, rfl, Lib.hid (LXH.out.alloc LXH.out.size _)⟩
        · obtain rfl : k = m + 1 := by omega
          clear hlt
          have t : decide (((m + 1 : Nat) : Int) < (m : Int) + 1) = false := decide_eq_false (by omega)
          have RDW := (cfg_later GK.out LX)
          have RD2 := cfg_ready RDW
          rw [readyE (by omega)] at RD2
          have RD3 := Lib.hid RD2
          have CT2 := cfg_control RDW ci
          rw [ctlE (by omega)] at CT2
          have CT3 := Lib.hid CT2
          have LE := Lib.hid ((below_then LW.out (cfg_below RDW) LW.out.size))
          have dt : wr.cell? ⟨w1.heap.size + 1, 0, none⟩ = some (.slice a ((m + 1 : Nat)) cap) := (LX.cell (p := ⟨w1.heap.size + 1, 0, none⟩) l1).trans T0
          have l1r : w1.heap.size + 1 < wr.heap.size := Nat.lt_of_lt_of_le l1 LX.size
          have ga : Go.bits .and .u16 ctl 32767 = ctl % 32768 := by
            rcases K.out with ⟨_, e⟩ | ⟨_, e⟩ <;> rw [e] <;> decide
          have mm : (((m + 1 : Nat) : Int) == (m : Int) + 1) = true := by simp
          clear RD CT RD2 CT2 RDW LX
          go_wp2_with (first | (go_at_call 13; ((with_reducible refine RD3.out.mono ?_); rintro e w' ⟨rfl, rfl⟩)) | (go_at_call 14; ((with_reducible refine CT3.out.mono ?_); rintro e w' ⟨rfl, rfl⟩)))
          go_ret
          exact ⟨rfl, LE.out⟩
end Go.Proofs.Ytbpeppmajmhmiaa.Ds
