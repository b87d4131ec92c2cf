/- Package obj, walked: a sprite's part of a line. -/
import Derived.Test.YthbpcenobaloaaaPc
import Derived.Test.YthbpcenobaloaaaPd
import Derived.Test.YthbpcenobaloaaaQt
namespace Go.Proofs.Ythbpcenobaloaaa.Pe
set_option linter.unusedVariables false
set_option linter.unusedSimpArgs false
open Go.RowKit Go.Proofs.Ythbpcenobaloaaa.Bt Go.Proofs.Ythbpcenobaloaaa.Wk Go.Proofs.Ythbpcenobaloaaa.Sg Go.Proofs.Ythbpcenobaloaaa.Gp Go.Proofs.Ythbpcenobaloaaa.Gm Go.Proofs.Ythbpcenobaloaaa.Gs Go.Proofs.Ythbpcenobaloaaa.Pp Go.Proofs.Ythbpcenobaloaaa.Pa Go.Proofs.Ythbpcenobaloaaa.Pb Go.Proofs.Ythbpcenobaloaaa.Pc Go.Proofs.Ythbpcenobaloaaa.Pd Go.Proofs.Ythbpcenobaloaaa.Qt

theorem max_if (a b : Int) : (if a < b then b else a) = max a b := by split <;> omega
set_option maxRecDepth 100000 in
set_option maxHeartbeats 16000000 in
theorem sdraw_any {W w : World} {b sb rb : Nat} {T : TypeId} {s : Sc} {p : Sp} {F : Nat → Ds} (h : Sn W sb T s) (k : Sok s) (hB : Below W.heap.size W w) (hr : W.heap.size ≤ rb) (hR : w.heap[rb]? = some (rowO F)) (hp : Pn w b p) (kp : Pok p) (hbr : b ≠ rb)
    {line : Int} (l0 : 0 ≤ line) (l1 : line < 160) (ly : p.y ≤ line) (lh : line < p.y + p.boxH) :
    Calls Try.prog 16 #[.pointer (some ⟨b, 0, none⟩), .pointer (some ⟨sb, 0, none⟩), .pointer (some ⟨rb, 0, none⟩), .int .i64 line] w fun r w' => r = .returned (.tuple #[]) ∧ Only rb (rowO (laidD s p line F)) w w' := by
  have h' := h.later hB
  have CM := hp.c_mosaic
  have CX := hp.c_x
  have CY := hp.c_y
  have CO := h'.mos
  have lt := hp.lt
  have lts := h'.lt
  have o0 := k.m0
  have o1 := k.m1
  obtain ⟨a0, a1⟩ := acr_bd k p
  obtain ⟨d0, d1⟩ := dwn_bd k p
  have AV : Hid (acrP s p = if p.mosaic then s.mos / 256 % 16 + 1 else 1) := Lib.hid rfl
  have DV : Hid (dwnP s p = if p.mosaic then s.mos / 4096 + 1 else 1) := Lib.hid rfl
  have YV : Hid (yP s p line = max (line - line % dwnP s p) p.y - p.y) := Lib.hid rfl
  have bwb : p.boxW ≤ 128 := by have := kp.bw; have := kp.w; omega
  have bw0 : 8 ≤ p.boxW := by have := kp.bw; have := kp.w; omega
  have bhb : p.boxH ≤ 128 := by have := kp.bh; have := kp.h; omega
  have px0 := kp.x0
  have px1 := kp.x1
  have py0 := kp.y0
  have py1 := kp.y1
  obtain ⟨m0, m1, m2⟩ := floor_bd l0 d0
  have yb0 : 0 ≤ yP s p line := by rw [YV.out]; omega
  have yb1 : yP s p line < 128 := by rw [YV.out]; omega
  have SH := Lib.hid h
  have KH := Lib.hid k
  have OH := Lib.hid (Only.refl hR)
  have BH := Lib.hid hB
  have PH := Lib.hid hp
  have KP := Lib.hid kp
  have HVV : Hid (∀ x, hitV s p line x = inBoxV s p (max (x - x % acrP s p) p.x - p.x) (yP s p line)) := Lib.hid fun _ => rfl
  clear h k h' hB hR hp kp
  generalize hac : acrP s p = ac at *
  generalize hdn : dwnP s p = dn at *
  generalize hyy : yP s p line = yy at *
  generalize hmo : s.mos = mo at *
  generalize hms : p.mosaic = ms at *
  generalize hpx : p.x = px at *
  generalize hpy : p.y = py at *
  have HMO := Lib.hid hmo
  have HMS := Lib.hid hms
  have HPX := Lib.hid hpx
  have HPY := Lib.hid hpy
  have HAC := Lib.hid hac
  have HDN := Lib.hid hdn
  have HYY := Lib.hid hyy
  clear hmo hms hpx hpy hac hdn hyy
  go_enter Try.func16, Try.ntmps16
  go_upto_if 17 with fail
  go_cut [8, 9] (fun av dv wx => av = .int .i64 ac ∧ dv = .int .i64 dn ∧ Hid (∃ q, wx = w.drewN q))
  case first =>
    have AH := AV.out
    have DH := DV.out
    cases ms
    · have AH2 := Lib.hid AH
      have DH2 := Lib.hid DH
      clear AH DH
      go_wp2_with fail
      go_meet
      case rel => exact ⟨by rw [AH2.out]; rfl, by rw [DH2.out]; rfl, Lib.hid ⟨0, rfl⟩⟩
    · have AH2 := Lib.hid AH
      have DH2 := Lib.hid DH
      clear AH DH
      have ga : Go.bits .and .u16 (mo / 256) 15 = mo / 256 % 16 := by have := and_mask_u16 (a := mo / 256) (by omega) (by omega) 4 (by decide); simpa using this
      have r0 : 0 ≤ mo / 256 % 16 := by omega
      have r1 : mo / 256 % 16 < 16 := by omega
      have e1 : IntKind.i64.wrap (mo / 256 % 16 + 1) = mo / 256 % 16 + 1 := i64_in (by omega) (by omega)
      have e2 : IntKind.i64.wrap (mo / 4096 + 1) = mo / 4096 + 1 := i64_in (by omega) (by omega)
      have e3 : IntKind.i64.wrap (mo / 256 % 16) = mo / 256 % 16 := i64_in (by omega) (by omega)
      have e4 : IntKind.i64.wrap (mo / 4096) = mo / 4096 := i64_in (by omega) (by omega)
      go_wp2_with fail
      go_quiet (fail)
      go_wp2_with fail
      go_meet
      case rel => exact ⟨by rw [AH2.out]; rfl, by rw [DH2.out]; rfl, Lib.hid ⟨_, rfl⟩⟩
  case rest =>
    obtain ⟨rfl, rfl, HQ⟩ := hcut
    have OW : Hid (Only rb (rowO F) w wc) := by obtain ⟨q, e⟩ := HQ.out; rw [e]; exact Lib.hid (OH.out.drewN q)
    have PW : Pn wc b p := by obtain ⟨q, e⟩ := HQ.out; rw [e]; exact PH.out.drewN q
    clear CM CX CY CO lt lts HQ OH
    have CX := PW.c_x
    have CY := PW.c_y
    have lt := PW.lt
    rw [HPX.out] at CX
    rw [HPY.out] at CY
    have t1 : Int.tmod line dn = line % dn := Int.tmod_eq_emod_of_nonneg l0
    have t2 : IntKind.i64.wrap (line - line % dn) = line - line % dn := i64_in (by omega) (by omega)
    have t3 : IntKind.i64.wrap ((if line - line % dn < py then py else line - line % dn) - py) = yy := by rw [max_if, YV.out]; exact i64_in (by omega) (by omega)
    have z1 : (dn = 0) = False := eq_false (by omega)
    generalize wc = wA at *
    go_upto_region 3 with fail
    go_cut [10] (fun yv wx => yv = .int .i64 yy ∧ Hid (∃ q, wx = wA.drewN q))
    case first =>
      go_quiet (fail)
      have HQ : Hid (∃ q, wA.drewN nq = wA.drewN q) := Lib.hid ⟨_, rfl⟩
      generalize wA.drewN nq = w4 at *
      go_wp2_with fail
      all_goals
        go_meet
        case rel => exact ⟨rfl, HQ⟩
    case rest =>
      obtain ⟨rfl, HQ⟩ := hcut
      have OW2 : Hid (Only rb (rowO (uptoD s p line F (max 0 px))) w wc) := by
        rw [upto_start s p line F (by rw [HPX.out]; exact Int.le_refl _)]
        obtain ⟨q, e⟩ := HQ.out; rw [e]; exact Lib.hid (OW.out.drewN q)
      have PW2 : Pn wc b p := by obtain ⟨q, e⟩ := HQ.out; rw [e]; exact PW.drewN q
      clear CX CY lt t1 t2 t3 z1 HQ OW PW
      have CX := PW2.c_x
      rw [HPX.out] at CX
      have lt := PW2.lt
      go_upto_region 4 with fail
      go_cut [11] (fun xv wx => xv = .int .i64 (max 0 px) ∧ wc = wx)
      case first =>
        go_wp2_with fail
        all_goals
          go_meet
          case rel => exact ⟨by congr 1; omega, rfl⟩
      case rest =>
        obtain ⟨rfl, rfl⟩ := hcut
        clear CX lt
        go_wp2_with fail
        go_loopw [11] (fun xv wr => ∃ (n : Nat), xv = .int .i64 n ∧ max 0 px ≤ n ∧ (n : Int) ≤ max (max 0 px) (min 240 (px + p.boxW)) ∧ Only rb (rowO (uptoD s p line F n)) w wr) (fun xv _ => 300 - (intOf xv).toNat)
        case atStart =>
          obtain ⟨n, hn⟩ := Int.eq_ofNat_of_zero_le (show 0 ≤ max 0 px by omega)
          rw [hn] at OW2 ⊢
          exact ⟨n, rfl, by omega, by omega, OW2.out⟩
        case round =>
          obtain ⟨n, rfl, hn0, hn1, ON⟩ := hrel
          have PN : Pn wr b p := ⟨ON.keep PH.out.at_ hbr⟩
          have CX := PN.c_x
          rw [HPX.out] at CX
          have CB := PN.c_boxW
          have lt := PN.lt
          generalize hbw : p.boxW = bw at *
          have HBW := Lib.hid hbw
          clear hbw
          have e1 : IntKind.i64.wrap (px + bw) = px + bw := i64_in (by omega) (by omega)
          by_cases hlt : (n : Int) < min 240 (px + bw)
          · have mc : (px + bw < 240 ∧ (n : Int) < px + bw) ∨ (240 ≤ px + bw ∧ (n : Int) < 240) := by omega
            have hn240 : n < 240 := by omega
            have hpn : px ≤ n := by omega
            have hpb : (n : Int) < px + bw := by omega
            have ONH := Lib.hid ON
            clear ON hlt
            go_upto_if 64 with (go_quiet (fail))
            have HW : Hid (∀ m, ∃ q, (wr.drewN nq).drewN m = wr.drewN q) := Lib.hid fun m => ⟨_, World.drewN_drewN _ _ _⟩
            have ON5 : Hid (Only rb (rowO (uptoD s p line F n)) w (wr.drewN nq)) := Lib.hid (ONH.out.drewN nq)
            clear CX CB lt ONH
            generalize wr.drewN nq = w5 at *
            go_cut [] (fun wx => w5 = wx)
            case first =>
              rcases mc with ⟨g1, g2⟩ | ⟨g1, g2⟩
              all_goals
                go_wp2_with fail
                go_meet
                case rel => rfl
            case rest =>
              have hcut2 : w5 = wc := hcut
              subst hcut2
              have P5 : Pn w5 b p := ⟨ON5.out.keep PH.out.at_ hbr⟩
              have S5 := SH.out.later (below_only BH.out ON5.out hr BH.out.size)
              have CX := P5.c_x
              rw [HPX.out] at CX
              have lt := P5.lt
              have n0 : (0 : Int) ≤ (n : Int) := by omega
              obtain ⟨f0, f1, f2⟩ := floor_bd n0 a0
              obtain ⟨xx, hxx⟩ : ∃ xx, max ((n : Int) - n % ac) px - px = xx := ⟨_, rfl⟩
              have xx0 : 0 ≤ xx := by omega
              have xx1 : xx < 128 := by omega
              have IB := Lib.hid (fun q => inBox_any (P5.drewN q) KP.out (S5.drewN q) KH.out xx0 xx1 yb0 yb1)
              have HH := HVV.out n
              rw [hxx] at HH
              rw [← HH] at IB
              have t1 : Int.tmod n ac = n % ac := Int.tmod_eq_emod_of_nonneg n0
              have t2 : IntKind.i64.wrap ((n : Int) - n % ac) = n - n % ac := i64_in (by omega) (by omega)
              have t3 : IntKind.i64.wrap ((if (n : Int) - n % ac < px then px else n - n % ac) - px) = xx := by rw [max_if, hxx]; exact i64_in (by omega) (by omega)
              have z1 : (ac = 0) = False := eq_false (by omega)
              have HXX := Lib.hid hxx
              have HHH := Lib.hid HH
              clear hxx HH S5
              have hb : 0 ≤ hitV s p line n ∧ hitV s p line n < 256 := by rw [HHH.out]; exact colP_bd KH.out KP.out _ _
              go_upto_region 7 with fail
              go_cut [12] (fun hv wx => hv = .int .i64 (hitV s p line n) ∧ Hid (∃ q, wx = w5.drewN q))
              case first =>
                go_quiet ((go_at_call 24; exact Calls.quiet_of (IB.out _)))
                have HQ : Hid (∃ q, w5.drewN nq = w5.drewN q) := Lib.hid ⟨_, rfl⟩
                generalize w5.drewN nq = w6 at *
                go_wp2_with fail
                all_goals
                  go_meet
                  case rel => exact ⟨rfl, HQ⟩
              case rest =>
                obtain ⟨rfl, HQ⟩ := hcut
                clear t1 t2 t3 z1 IB CX lt
                have ON6 : Hid (Only rb (rowO (uptoD s p line F n)) w wc) := by obtain ⟨q, e⟩ := HQ.out; rw [e]; exact Lib.hid (ON5.out.drewN q)
                have P6 : Pn wc b p := ⟨ON6.out.keep PH.out.at_ hbr⟩
                have ST : Hid (stepD s p line n (uptoD s p line F n n) = if hitV s p line n = 0 then uptoD s p line F n n else if p.mode = 2 then { (uptoD s p line F n n) with w := true }
                  else if (uptoD s p line F n n).c = 32768 ∨ p.prio < (uptoD s p line F n n).p then ⟨colourV s (256 + hitV s p line n), p.prio, p.mode == 1, (uptoD s p line F n n).w⟩ else uptoD s p line F n n) := Lib.hid rfl
                have US := upto_step s p line F (n := n) (by rw [HPX.out]; exact hpn)
                have USE : Hid (stepD s p line n (uptoD s p line F n n) = uptoD s p line F n n → uptoD s p line F ((n : Int) + 1) = uptoD s p line F n) := Lib.hid (upto_same s p line F (by rw [HPX.out]; exact hpn))
                have USH := Lib.hid US
                clear US HQ ON5 P5 mc
                generalize hitV s p line n = H at *
                generalize wc = w6 at *
                obtain ⟨hb0, hb1⟩ := hb
                by_cases gh : H = 0
                · have e := ST.out
                  rw [if_pos gh] at e
                  have e2 := USE.out e
                  have ON7 : Hid (Only rb (rowO (uptoD s p line F ((n : Int) + 1))) w w6) := Lib.hid (by rw [e2]; exact ON6.out)
                  have ghb : (H == 0) = true := by rw [gh]; rfl
                  have GH := Lib.hid gh
                  clear e e2 gh
                  go_wp2_with fail
                  exact ⟨⟨n + 1, by go_num, by omega, by omega, ON7.out⟩, by simp [intOf]; omega⟩
                · have ghb : (H == 0) = false := by simpa using gh
                  have CM := P6.c_mode
                  have CP := P6.c_prio
                  have lt := P6.lt
                  have lr := sizeAt ON6.out.at_
                  have FRZ := freeAt ON6.out.at_
                  have CCc := (cellsAt ON6.out.at_ (n * 3)).trans (row_c (uptoD s p line F n) hn240)
                  have CCp := (cellsAt ON6.out.at_ (n * 3 + 1)).trans (row_p (uptoD s p line F n) hn240)
                  have CCs := (cellsAt ON6.out.at_ (n * 3 + 2)).trans (row_s (uptoD s p line F n) hn240)
                  have CCw := (cellsAt ON6.out.at_ (720 + n)).trans (row_w (uptoD s p line F n) hn240)
                  have S6 := SH.out.later (below_only BH.out ON6.out hr BH.out.size)
                  have CO := Lib.hid (fun q => colour_any (S6.drewN q) KH.out (256 + H) (by omega) (by omega))
                  clear S6
                  have n1 : (n : Int) < 240 := by omega
                  have e := ST.out
                  rw [if_neg gh] at e
                  clear ST USE gh
                  have RW := row_setw (uptoD s p line F n) hn240 true
                  have R3 := row_set3 (uptoD s p line F n) hn240 (colourV s (256 + H)) p.prio (p.mode == 1)
                  by_cases gm : p.mode = 2
                  · rw [if_pos gm] at e
                    have ON7 : Hid (Only rb (rowO (uptoD s p line F ((n : Int) + 1))) w (w6.setCell ⟨rb, 720 + n, none⟩ (.bool true))) := by
                      have a1 := ON6.out.set (j := 720 + n) (.bool true)
                      rw [RW, ← e, USH.out] at a1
                      exact Lib.hid a1
                    have gmb : (p.mode == 2) = true := by rw [gm]; rfl
                    have GM := Lib.hid gm
                    clear gm e RW R3 CO CCc CCp CCs
                    generalize (uptoD s p line F n n).w = dw at *
                    generalize p.mode = md at *
                    go_wp2_with fail
                    exact ⟨⟨n + 1, by go_num, by omega, by omega, ON7.out⟩, by simp [intOf]; omega⟩
                  · rw [if_neg gm] at e
                    have gmb : (p.mode == 2) = false := by simpa using gm
                    clear gm RW CCw
                    generalize hD : uptoD s p line F n n = D at *
                    obtain ⟨dc, dp, ds, dw⟩ := D
                    have HD := Lib.hid hD
                    clear hD
                    dsimp only at e CCc CCp CCs R3
                    by_cases gd : dc = 32768 ∨ p.prio < dp
                    · rw [if_pos gd] at e
                      have gdd : (dc == 32768) = true ∨ ((dc == 32768) = false ∧ decide (p.prio < dp) = true) := by
                        by_cases g : dc = 32768
                        · exact .inl (by simpa using g)
                        · exact .inr ⟨by simpa using g, decide_eq_true (by omega)⟩
                      have ON7 : Hid (∀ q, Only rb (rowO (uptoD s p line F ((n : Int) + 1))) w ((((w6.drewN q).setCell ⟨rb, n * 3, none⟩ (.int .u16 (colourV s (256 + H)))).setCell ⟨rb, n * 3 + 1, none⟩ (.int .i64 p.prio)).setCell ⟨rb, n * 3 + 2, none⟩ (.bool (p.mode == 1)))) := by
                        refine Lib.hid fun q => ?_
                        have a1 := (((ON6.out.drewN q).set (j := n * 3) (.int .u16 (colourV s (256 + H)))).set (j := n * 3 + 1) (.int .i64 p.prio)).set (j := n * 3 + 2) (.bool (p.mode == 1))
                        rw [R3, ← e, USH.out] at a1
                        exact a1
                      clear gd e R3
                      generalize colourV s (256 + H) = cv at *
                      generalize p.mode = md at *
                      generalize p.prio = pr at *
                      rcases gdd with gd | ⟨gd, gd2⟩
                      all_goals
                        go_wp2_with fail
                        go_quiet (fail)
                        have w256 : IntKind.i64.wrap (256 + H) = 256 + H := i64_in (by omega) (by omega)
                        go_wp2_with fail
                        have CO2 : Hid (∀ q, Calls Try.prog 25 #[.pointer (some ⟨sb, 0, none⟩), .int .i64 (256 + H)] ((w6.drewN nq).drewN q) fun e w' => e = .returned (.int .u16 cv) ∧ ∃ m, w' = ((w6.drewN nq).drewN q).drewN m) := by
                          refine Lib.hid fun q => ?_
                          rw [World.drewN_drewN]
                          exact CO.out _
                        have ON8 : Hid (∀ q, Only rb (rowO (uptoD s p line F ((n : Int) + 1))) w (((((w6.drewN nq).drewN q).setCell ⟨rb, n * 3, none⟩ (.int .u16 cv)).setCell ⟨rb, n * 3 + 1, none⟩ (.int .i64 pr)).setCell ⟨rb, n * 3 + 2, none⟩ (.bool (md == 1)))) := by
                          refine Lib.hid fun q => ?_
                          rw [World.drewN_drewN]
                          exact ON7.out _
                        have F8 : Hid (∀ q j, ((w6.drewN nq).drewN q).frozen? ⟨rb, j, none⟩ = false) := Lib.hid fun q j => FRZ j
                        have X0 : Hid (∀ q, ((w6.drewN nq).drewN q).cell? ⟨rb, n * 3, none⟩ = some (.int .u16 dc)) := Lib.hid fun q => CCc
                        have X1 : Hid (∀ q, ((w6.drewN nq).drewN q).cell? ⟨rb, n * 3 + 1, none⟩ = some (.int .i64 dp)) := Lib.hid fun q => CCp
                        have X2 : Hid (∀ q, ((w6.drewN nq).drewN q).cell? ⟨rb, n * 3 + 2, none⟩ = some (.bool ds)) := Lib.hid fun q => CCs
                        have XL : Hid (∀ q, rb < ((w6.drewN nq).drewN q).heap.size) := Lib.hid fun q => lr
                        have PX : Hid ((w6.drewN nq).cell? ⟨b, 7, none⟩ = some (.int .i64 md) ∧ (w6.drewN nq).cell? ⟨b, 17, none⟩ = some (.int .i64 pr) ∧ b < (w6.drewN nq).heap.size) := Lib.hid ⟨CM, CP, lt⟩
                        clear CM CP lt lr FRZ CCc CCp CCs ON6 P6
                        generalize w6.drewN nq = w7 at *
                        obtain ⟨CM, CP, lt⟩ := PX.out
                        refine region_quiet_tail 16 (by kernel_rfl) (by kernel_rfl) ?_
                        simp only [List.take_succ_cons, List.take_zero, List.drop_succ_cons, List.drop_zero]
                        repeat (quiet_step ((go_at_call 25; exact Calls.quiet_of (CO2.out _))))
                        refine wpQuiet_nil ?_
                        intro _ hw'
                        obtain ⟨nq2, hw''⟩ := hw'
                        subst hw''
                        have Y0 := X0.out nq2
                        have Y1 := X1.out nq2
                        have Y2 := X2.out nq2
                        have YF := F8.out nq2
                        have YL := XL.out nq2
                        have ON9 := Lib.hid (ON8.out nq2)
                        clear CM CP lt
                        generalize w7.drewN nq2 = w8 at *
                        go_wp2_with fail
                        exact ⟨⟨n + 1, by go_num, by omega, by omega, ON9.out⟩, by simp [intOf]; omega⟩
                    · rw [if_neg gd] at e
                      have e2 : uptoD s p line F ((n : Int) + 1) = uptoD s p line F n := by
                        have := USH.out
                        rw [e] at this
                        rw [← this]
                        funext k
                        unfold upd
                        split
                        · next g => rw [g, HD.out]
                        · rfl
                      have ON7 : Hid (∀ q, Only rb (rowO (uptoD s p line F ((n : Int) + 1))) w (w6.drewN q)) := Lib.hid fun q => by rw [e2]; exact ON6.out.drewN q
                      have gd1 : (dc == 32768) = false := by
                        have : dc ≠ 32768 := fun h => gd (.inl h)
                        simpa using this
                      have gd2 : decide (p.prio < dp) = false := decide_eq_false (fun h => gd (.inr h))
                      clear e e2 gd R3 CO
                      generalize p.mode = md at *
                      generalize p.prio = pr at *
                      go_wp2_with fail
                      go_quiet (fail)
                      go_wp2_with fail
                      exact ⟨⟨n + 1, by go_num, by omega, by omega, ON7.out _⟩, by simp [intOf]; omega⟩
          · have mc : (px + bw < 240 ∧ px + bw ≤ (n : Int)) ∨ (240 ≤ px + bw ∧ 240 ≤ (n : Int)) := by omega
            have OE : Hid (∀ q, Only rb (rowO (laidD s p line F)) w (wr.drewN q)) := by
              refine Lib.hid fun q => (ON.drewN q).to ?_
              have := upto_end s p line F (n := n) (by rw [HPX.out]; exact hn0) (by rw [HPX.out, HBW.out]; omega) (by rw [HPX.out, HBW.out]; exact hn1)
              unfold rowO
              rw [this]
            clear ON hlt
            rcases mc with ⟨g1, g2⟩ | ⟨g1, g2⟩
            all_goals
              go_upto_if 64 with (go_quiet (fail))
              go_wp2_with fail
              go_end0
              exact ⟨rfl, OE.out _⟩
end Go.Proofs.Ythbpcenobaloaaa.Pe
