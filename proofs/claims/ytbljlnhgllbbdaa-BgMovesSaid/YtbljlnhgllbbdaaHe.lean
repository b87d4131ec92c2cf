/- The document's backgrounds, walked: Dot. -/
import Derived.Test.YtbljlnhgllbbdaaHc
import Derived.Test.YtbljlnhgllbbdaaHd
import Derived.Test.YtbljlnhgllbbdaaGz
namespace Go.Proofs.Ytbljlnhgllbbdaa.He
set_option linter.unusedVariables false
set_option linter.unusedSimpArgs false
open Go.RowKit Go.Proofs.Ytbljlnhgllbbdaa.Bt Go.Proofs.Ytbljlnhgllbbdaa.Wk Go.Proofs.Ytbljlnhgllbbdaa.Sg Go.Proofs.Ytbljlnhgllbbdaa.Gp Go.Proofs.Ytbljlnhgllbbdaa.Gm Go.Proofs.Ytbljlnhgllbbdaa.Gs Go.Proofs.Ytbljlnhgllbbdaa.Gh Go.Proofs.Ytbljlnhgllbbdaa.Gc Go.Proofs.Ytbljlnhgllbbdaa.Gt Go.Proofs.Ytbljlnhgllbbdaa.Gv Go.Proofs.Ytbljlnhgllbbdaa.Gw Go.Proofs.Ytbljlnhgllbbdaa.Gx Go.Proofs.Ytbljlnhgllbbdaa.Gy Go.Proofs.Ytbljlnhgllbbdaa.Gz Go.Proofs.Ytbljlnhgllbbdaa.Ha Go.Proofs.Ytbljlnhgllbbdaa.Hb Go.Proofs.Ytbljlnhgllbbdaa.Hc Go.Proofs.Ytbljlnhgllbbdaa.Hd

theorem w32_addr (a b : Int) : w32 (a + w32 b) = w32 (a + b) := by rw [Int.add_comm, w32_add, Int.add_comm]
theorem w32_subl (a b : Int) : w32 (w32 a - b) = w32 (a - b) := by unfold w32; rw [IntKind.wrap_i32, IntKind.wrap_i32, IntKind.wrap_i32]; omega
theorem w32_subr (a b : Int) : w32 (a - w32 b) = w32 (a - b) := by unfold w32; rw [IntKind.wrap_i32, IntKind.wrap_i32, IntKind.wrap_i32]; omega
theorem w32_two (r u v : Int) : w32 (w32 (r + w32 u) - w32 v) = w32 (w32 (r - w32 v) + u) := by
  rw [w32_addr, w32_subl, w32_subr, w32_subr, w32_add, show r + u - v = r - v + u by omega]
theorem kind_vals {s : Sc} {i : Int} (hs : shownV s i = true) (h : kindV s i ≠ 1) : kindV s i = 2 ∨ kindV s i = 3 ∧ (modeV s = 3 ∨ modeV s = 4 ∨ modeV s = 5) := by
  unfold shownV at hs
  simp only [Bool.and_eq_true, decide_eq_true_eq, bne_iff_ne] at hs
  have hk := hs.1.2
  have m0 : 0 ≤ modeV s ∧ modeV s < 8 := by unfold modeV; omega
  unfold kindV at h hk ⊢
  revert h hk
  repeat' split
  all_goals omega
section
variable {w : World} {b : Nat} {T : TypeId} {s : Sc}
set_option maxHeartbeats 16000000 in
theorem rdot_out (h : Sn w b T s) (k : Sok s) (i x line : Int) (sh : Bool) (hs : shownV s i = sh) (hc : sh = false ∨ line < 0 ∨ 160 ≤ line) :
    Calls Try.prog 12 #[.pointer (some ⟨b, 0, none⟩), .int .i64 i, .int .i64 x, .int .i64 line] w fun r w' => r = .returned (.int .u16 32768) ∧ ∃ q, w' = w.drewN q := by
  have SW := Lib.hid (rshown_any h k i)
  rw [hs] at SW
  clear h k hs
  have hc' : sh = false ∨ (sh = true ∧ line < 0) ∨ (sh = true ∧ 0 ≤ line ∧ 159 < line) := by cases sh <;> simp at hc ⊢ <;> omega
  clear hc
  rcases hc' with hs | ⟨hs, h1⟩ | ⟨hs, h1, h2⟩
  all_goals
    subst hs
    go_enter Try.func12, Try.ntmps12
    go_wp2_with (go_at_call 14; ((with_reducible refine SW.out.mono ?_); rintro e w' ⟨rfl, q, rfl⟩))
    go_ret
    exact ⟨rfl, _, rfl⟩
set_option maxRecDepth 100000 in
set_option maxHeartbeats 16000000 in
theorem rdot_in (h : Sn w b T s) (k : Sok s) {n : Nat} (n4 : n < 4) {x : Nat} (hx : x < 240) {line : Int} (hs : shownV s n = true) (l0 : 0 ≤ line) (l1 : line < 160) :
    Calls Try.prog 12 #[.pointer (some ⟨b, 0, none⟩), .int .i64 n, .int .i64 x, .int .i64 line] w fun r w' => r = .returned (.int .u16 (drawnV s n line x)) ∧ ∃ q, w' = w.drewN q := by
  have SW := Lib.hid (rshown_any h k n)
  rw [hs] at SW
  obtain ⟨c0, c1⟩ := k.b n n4
  have B6 := Lib.hid (fun w => bits_lit (w := w) c0 c1 6 1 6 1 (s.bg n / 64 % 2) (by decide) (by decide) rfl rfl rfl)
  have Bm0 := Lib.hid (fun w => bits_lit (w := w) k.m0 k.m1 0 4 0 4 (s.mos % 16) (by decide) (by decide) rfl rfl (by omega))
  have Bm4 := Lib.hid (fun w => bits_lit (w := w) k.m0 k.m1 4 4 4 4 (s.mos / 16 % 16) (by decide) (by decide) rfl rfl rfl)
  have SH := Lib.hid h
  have KH := Lib.hid k
  have CB := h.bg n4
  have CM := h.mos
  have lt := h.lt
  have m0 := k.m0
  obtain ⟨a0, a1⟩ := across_bd s n
  obtain ⟨d0, d1⟩ := down_bd s n
  have hac : (s.bg n / 64 % 2 = 0 ∧ acrossV s n = 1 ∧ downV s n = 1) ∨ (s.bg n / 64 % 2 = 1 ∧ acrossV s n = s.mos % 16 + 1 ∧ downV s n = s.mos / 16 % 16 + 1) := by
    unfold acrossV downV
    by_cases g : s.bg n / 64 % 2 = 0
    · rw [if_pos g, if_pos g]; exact .inl ⟨g, rfl, rfl⟩
    · rw [if_neg g, if_neg g]; exact .inr ⟨by omega, rfl, rfl⟩
  have HS := Lib.hid hs
  clear h k hs
  generalize hbg : s.bg n = c at *
  have HBG := Lib.hid hbg
  clear hbg
  generalize hac' : acrossV s n = ac at *
  generalize hdn' : downV s n = dn at *
  have HAC := Lib.hid hac'
  have HDN := Lib.hid hdn'
  generalize hmm : s.mos = mo at *
  have HMO := Lib.hid hmm
  clear hac' hdn' hmm
  have i0 : (0 : Int) ≤ (n : Int) := by omega
  have i4' : (n : Int) < 4 := by omega
  have x0 : (0 : Int) ≤ (x : Int) := by omega
  have x1 : (x : Int) < 240 := by omega
  go_enter Try.func12, Try.ntmps12
  go_upto_if 34 with (first | (go_at_call 14; ((with_reducible refine SW.out.mono ?_); rintro e w' ⟨rfl, q, rfl⟩)) | (go_at_call 20; ((with_reducible refine (B6.out _).mono ?_); rintro e w' ⟨rfl, q, rfl⟩)))
  generalize hw5 : w.drewN (_ + _) = w5 at *
  have S5 : Sn w5 b T s := by rw [← hw5]; exact SH.out.drewN _
  have HW5 := Lib.hid hw5
  have CM5 := S5.mos
  have lt5 := S5.lt
  rw [HMO.out] at CM5
  have SH5 := Lib.hid S5
  clear hw5 S5 CB CM lt SH SW
  go_cut [9, 10] (fun av dv wx => av = .int .i64 ac ∧ dv = .int .i64 dn ∧ Hid (∃ q, wx = w5.drewN q))
  case first =>
    have mq0 : 0 ≤ mo % 16 := by omega
    have mq1 : mo % 16 < 16 := by omega
    have mq2 : 0 ≤ mo / 16 % 16 := by omega
    have mq3 : mo / 16 % 16 < 16 := by omega
    rcases hac with ⟨g, ha, hd⟩ | ⟨g, ha, hd⟩
    all_goals
      have HA := Lib.hid ha
      have HD := Lib.hid hd
      clear ha hd
      go_wp2_with (first | (go_at_call 20; ((with_reducible refine (Bm0.out _).mono ?_); rintro e w' ⟨rfl, q, rfl⟩)) | (go_at_call 20; ((with_reducible refine (Bm4.out _).mono ?_); rintro e w' ⟨rfl, q, rfl⟩)))
      go_meet
      case rel => first | exact ⟨by rw [HA.out], by rw [HD.out], Lib.hid ⟨0, rfl⟩⟩ | exact ⟨by rw [HA.out], by rw [HD.out], Lib.hid ⟨_, rfl⟩⟩
  case rest =>
    obtain ⟨rfl, rfl, HW6⟩ := hcut
    have S6 : Sn wc b T s := by obtain ⟨q, rfl⟩ := HW6.out; exact SH5.out.drewN q
    have SH6 := Lib.hid S6
    have HW7 : Hid (∀ m, ∃ q, wc.drewN m = w.drewN q) := by
      obtain ⟨q, e⟩ := HW6.out
      exact Lib.hid fun m => ⟨_, by rw [e, ← HW5.out]; exact drew3 _ _ _ _⟩
    have HW8 : Hid (∃ q, wc = w.drewN q) := by
      obtain ⟨q, e⟩ := HW6.out
      exact Lib.hid ⟨_, by rw [e, ← HW5.out]; exact World.drewN_drewN _ _ _⟩
    clear S6 CM5 lt5 SH5 HW5 HW6 hac Bm0 Bm4 B6
    obtain ⟨p0, p1, p2⟩ := mod_sub_bd x0 a0
    obtain ⟨r0, r1, r2⟩ := mod_sub_bd l0 d0
    have ex : (x : Int) / ac * ac = x - x % ac := by have := Int.mul_ediv_add_emod (x : Int) ac; rw [Int.mul_comm] at this; omega
    have el : line / dn * dn = line - line % dn := by have := Int.mul_ediv_add_emod line dn; rw [Int.mul_comm] at this; omega
    have KD := Lib.hid (fun q => rkind_any (SH6.out.drewN q) KH.out (i := (n : Int)) (by omega) (by omega))
    have KD0 := Lib.hid (rkind_any SH6.out KH.out (i := (n : Int)) (by omega) (by omega))
    have qx : wrap64 ((x : Int) / ac) = (x : Int) / ac := wrap64_id (by have := Int.ediv_nonneg x0 (show 0 ≤ ac by omega); omega) (by have := Int.ediv_le_self ac x0; omega)
    have ql : wrap64 (line / dn) = line / dn := wrap64_id (by have := Int.ediv_nonneg l0 (show 0 ≤ dn by omega); omega) (by have := Int.ediv_le_self dn l0; omega)
    have wx : wrap64 (wrap64 ((x : Int) / ac) * ac) = x - x % ac := by rw [qx, ex]; exact wrap64_id (by omega) (by omega)
    have WX := Lib.hid wx
    have WL : Hid (wrap64 (line / dn * dn) = line - line % dn) := Lib.hid (by rw [el]; exact wrap64_id (by omega) (by omega))
    clear ex el qx ql wx
    obtain ⟨kz, hkz⟩ : ∃ kz, kindV s n = kz := ⟨_, rfl⟩
    rw [hkz] at KD KD0
    have DV : Hid (drawnV s n line x = if kindV s n = 1 then textV s (n : Int).toNat line x else turnedV s ((n : Int).toNat - 2) line x) := Lib.hid rfl
    by_cases g1 : kz = 1
    · subst g1
      have TX := Lib.hid (fun q => rtext_any (SH6.out.drewN q) KH.out n4 (x := x - x % ac) (line := line - line % dn) (A := textA s n x) (y := textY s n line) p1 (by omega) r1 (by omega) (by unfold textA; rw [HAC.out]) (by unfold textY; rw [HDN.out]))
      have DV1 : Hid (drawnV s n line x = tileV s (s.bg n / 4 % 4 * 16384) (entryV s (rowV (s.bg n) (textY s n line)) (textA s n x / 8)) (textA s n x % 8) (textY s n line % 8) (s.bg n / 128 % 2 == 1)) := by
        refine Lib.hid ?_
        rw [DV.out, if_pos hkz, Int.toNat_natCast]
        rfl
      rw [← DV1.out] at TX
      have HKZ := Lib.hid hkz
      clear hkz KD
      go_upto_if 55 with (go_at_call 21; ((with_reducible refine (KD0.out).mono ?_); rintro e w' ⟨rfl, q, rfl⟩))
      rw [WX.out]
      go_wp2_with fail
      rw [WL.out]
      refine (TX.out _).mono ?_
      rintro e w' ⟨rfl, q, rfl⟩
      go_wp2_with fail
      go_ret
      exact ⟨rfl, HW7.out _⟩
    · have n2 := kind_two HS.out (by rw [hkz]; exact g1)
      obtain ⟨j, rfl⟩ : ∃ j, n = j + 2 := ⟨n - 2, by omega⟩
      have ek : (kz == 1) = false := by simpa using g1
      have ecast : ((j + 2 : Nat) : Int) = (j : Int) + 2 := by omega
      have j2 : j < 2 := by omega
      rw [ecast] at DV KD KD0 hkz HS
      rw [ecast]
      have HKZ := Lib.hid hkz
      have i0' : (0 : Int) ≤ (j : Int) := by omega
      have R0 := Sn.ref1 SH6.out j2 (j := 0) (by decide)
      have R1 := Sn.ref1 SH6.out j2 (j := 1) (by decide)
      have P0 := Sn.par1 SH6.out j2 (j := 0) (by decide)
      have P1 := Sn.par1 SH6.out j2 (j := 1) (by decide)
      have P2 := Sn.par1 SH6.out j2 (j := 2) (by decide)
      have P3 := Sn.par1 SH6.out j2 (j := 3) (by decide)
      rw [Nat.add_zero] at R0 P0
      rw [Nat.add_zero] at R0 P0
      have lt := SH6.out.lt
      have DV2 : Hid (drawnV s ((j : Int) + 2) line x = dotV s (j + 2) (stepV (begV s j line 0 1) (s.par (j * 4)) (x - x % ac) / 256) (stepV (begV s j line 1 3) (s.par (j * 4 + 2)) (x - x % ac) / 256)) := by
        refine Lib.hid ?_
        rw [DV.out, if_neg (by rw [hkz]; exact g1), show ((j : Int) + 2).toNat - 2 = j by omega]
        unfold turnedV
        rw [HAC.out]
      have EX : Hid (begV s j line 0 1 = w32 (s.ref (j * 2) - w32 (line % dn * s.par (j * 4 + 1)))) := by
        refine Lib.hid ?_
        unfold begV
        rw [HDN.out]
        rfl
      have EY : Hid (begV s j line 1 3 = w32 (s.ref (j * 2 + 1) - w32 (line % dn * s.par (j * 4 + 3)))) := by
        refine Lib.hid ?_
        unfold begV
        rw [HDN.out]
      have KP := KH.out
      have bp0 := KP.p (j * 4) (by omega)
      have bp1 := KP.p (j * 4 + 1) (by omega)
      have bp2 := KP.p (j * 4 + 2) (by omega)
      have bp3 := KP.p (j * 4 + 3) (by omega)
      clear hkz KP
      have m3 : line % dn < 16 := by have := Int.emod_lt_of_pos line (show 0 < dn by omega); omega
      generalize s.ref (j * 2) = r0' at *
      generalize s.ref (j * 2 + 1) = r1' at *
      generalize s.par (j * 4) = p0' at *
      generalize s.par (j * 4 + 1) = p1' at *
      generalize s.par (j * 4 + 2) = p2' at *
      generalize s.par (j * 4 + 3) = p3' at *
      generalize begV s j line 0 1 = bx at *
      generalize begV s j line 1 3 = by' at *
      have j0 : (0 : Int) ≤ (j : Int) := by omega
      have j2' : (j : Int) < 2 := by omega
      go_upto_if 55 with (go_at_call 21; ((with_reducible refine (KD0.out).mono ?_); rintro e w' ⟨rfl, q, rfl⟩))
      rw [WX.out]
      generalize hxx : (x : Int) - x % ac = xx at *
      have HXX := Lib.hid hxx
      generalize hbk : line % dn = bk at *
      have HBK := Lib.hid hbk
      have tbk : IntKind.i32.wrap bk = bk := by rw [IntKind.wrap_i32]; omega
      clear hxx
      generalize hw7 : wc.drewN _ = w7 at *
      have S7 : Sn w7 b T s := by rw [← hw7]; exact SH6.out.drewN _
      have HW9 : Hid (∀ n, ∃ q, w7.drewN n = w.drewN q) := by
        obtain ⟨q9, e⟩ := HW8.out
        exact Lib.hid fun n => ⟨_, by rw [← hw7, e]; exact drew3 _ _ _ _⟩
      have R0 : w7.cell? ⟨b, 21 + j * 2, none⟩ = some (.int .i32 r0') := by rw [← hw7]; exact R0
      have R1 : w7.cell? ⟨b, 21 + j * 2 + 1, none⟩ = some (.int .i32 r1') := by rw [← hw7]; exact R1
      have P0 : w7.cell? ⟨b, 13 + j * 4, none⟩ = some (.int .i16 p0') := by rw [← hw7]; exact P0
      have P1 : w7.cell? ⟨b, 13 + j * 4 + 1, none⟩ = some (.int .i16 p1') := by rw [← hw7]; exact P1
      have P2 : w7.cell? ⟨b, 13 + j * 4 + 2, none⟩ = some (.int .i16 p2') := by rw [← hw7]; exact P2
      have P3 : w7.cell? ⟨b, 13 + j * 4 + 3, none⟩ = some (.int .i16 p3') := by rw [← hw7]; exact P3
      have lt := S7.lt
      have SH7 := Lib.hid S7
      clear hw7 S7 SH6 HW7 HW8 KD0 WL WX
      have xx1 : IntKind.i32.wrap xx = xx := by rw [IntKind.wrap_i32]; omega
      have y0 : IntKind.i32.wrap p0' = p0' := by rw [IntKind.wrap_i32]; omega
      have y1 : IntKind.i32.wrap p1' = p1' := by rw [IntKind.wrap_i32]; omega
      have y2 : IntKind.i32.wrap p2' = p2' := by rw [IntKind.wrap_i32]; omega
      have y3 : IntKind.i32.wrap p3' = p3' := by rw [IntKind.wrap_i32]; omega
      obtain ⟨u1, hu1⟩ : ∃ u, w32 (xx * p0') = u := ⟨_, rfl⟩
      obtain ⟨u2, hu2⟩ : ∃ u, w32 (r0' + u1) = u := ⟨_, rfl⟩
      obtain ⟨u3, hu3⟩ : ∃ u, w32 (bk * p1') = u := ⟨_, rfl⟩
      obtain ⟨v1, hv1⟩ : ∃ u, w32 (xx * p2') = u := ⟨_, rfl⟩
      obtain ⟨v2, hv2⟩ : ∃ u, w32 (r1' + v1) = u := ⟨_, rfl⟩
      obtain ⟨v3, hv3⟩ : ∃ u, w32 (bk * p3') = u := ⟨_, rfl⟩
      have e1 : IntKind.i32.wrap (xx * p0') = u1 := hu1
      have e2 : IntKind.i32.wrap (r0' + u1) = u2 := hu2
      have e3 : IntKind.i32.wrap (bk * p1') = u3 := hu3
      have e4 : IntKind.i32.wrap (u2 - u3) = stepV bx p0' xx := by
        show w32 (u2 - u3) = w32 (bx + xx * p0')
        rw [← hu2, ← hu1, ← hu3, EX.out]
        exact w32_two _ _ _
      have f1 : IntKind.i32.wrap (xx * p2') = v1 := hv1
      have f2 : IntKind.i32.wrap (r1' + v1) = v2 := hv2
      have f3 : IntKind.i32.wrap (bk * p3') = v3 := hv3
      have f4 : IntKind.i32.wrap (v2 - v3) = stepV by' p2' xx := by
        show w32 (v2 - v3) = w32 (by' + xx * p2')
        rw [← hv2, ← hv1, ← hv3, EY.out]
        exact w32_two _ _ _
      have bX := w32_bd (bx + xx * p0')
      have bY := w32_bd (by' + xx * p2')
      change -2147483648 ≤ stepV bx p0' xx ∧ stepV bx p0' xx < 2147483648 at bX
      change -2147483648 ≤ stepV by' p2' xx ∧ stepV by' p2' xx < 2147483648 at bY
      generalize stepV bx p0' xx = px at *
      generalize stepV by' p2' xx = py at *
      clear hu1 hu2 hu3 hv1 hv2 hv3
      go_wp2_with fail
      go_quiet (fail)
      go_wp2_with fail
      go_quiet (fail)
      clear e1 e2 e3 e4 f1 f2 f3 f4 y0 y1 y2 y3 xx1 tbk
      have KV := kind_vals HS.out (by rw [HKZ.out]; exact g1)
      rw [HKZ.out] at KV
      have KD7 := Lib.hid (fun q => rkind_any (SH7.out.drewN q) KH.out (i := (j : Int) + 2) (by omega) (by omega))
      rw [HKZ.out] at KD7
      have FX := Lib.hid (fun w => floor_any px bX.1 bX.2 w)
      have FY := Lib.hid (fun w => floor_any py bY.1 bY.2 w)
      have TT := fun q => rturned_any (SH7.out.drewN q) KH.out (i := j + 2) (by omega) (px / 256) (py / 256)
      rw [ecast] at TT
      have TT := Lib.hid TT
      have BB : Hid (modeV s = 3 ∨ modeV s = 4 ∨ modeV s = 5 → ∀ q, Calls Try.prog 25 #[.pointer (some ⟨b, 0, none⟩), .int .i64 (px / 256), .int .i64 (py / 256)] (w7.drewN q) fun r w' => r = .returned (.int .u16 (bitD s (px / 256) (py / 256))) ∧ ∃ m, w' = (w7.drewN q).drewN m) :=
        Lib.hid fun hm q => rbitmap_any (SH7.out.drewN q) KH.out hm (px / 256) (py / 256)
      have DW : Hid (dotV s (j + 2) (px / 256) (py / 256) = if kindV s ((j + 2 : Nat) : Int) = 3 then bitD s (px / 256) (py / 256) else fieldV s (j + 2) (px / 256) (py / 256)) := Lib.hid rfl
      rcases KV with hk | ⟨hk, hm⟩
      · have HD := Lib.hid (show drawnV s ((j : Int) + 2) line x = fieldV s (j + 2) (px / 256) (py / 256) by
          rw [DV2.out, DW.out, ecast, HKZ.out, if_neg (by omega)])
        subst hk
        clear BB DW g1 ek
        go_wp2_with (first | (go_at_call 21; ((with_reducible refine (KD7.out _).mono ?_); rintro e w' ⟨rfl, q, rfl⟩)) | (go_at_call 24; ((with_reducible refine (FX.out _).mono ?_); rintro e w' ⟨rfl, rfl⟩)) | (go_at_call 24; ((with_reducible refine (FY.out _).mono ?_); rintro e w' ⟨rfl, rfl⟩)) | (go_at_call 23; ((with_reducible refine (TT.out _).mono ?_); rintro e w' ⟨rfl, q, rfl⟩)))
        go_ret
        exact ⟨by rw [ecast, HD.out]; rfl, HW9.out _⟩
      · have HD := Lib.hid (show drawnV s ((j : Int) + 2) line x = bitD s (px / 256) (py / 256) by
          rw [DV2.out, DW.out, ecast, HKZ.out, if_pos hk])
        subst hk
        have BB2 := Lib.hid (BB.out hm)
        clear BB DW g1 ek hm
        go_wp2_with (first | (go_at_call 21; ((with_reducible refine (KD7.out _).mono ?_); rintro e w' ⟨rfl, q, rfl⟩)) | (go_at_call 24; ((with_reducible refine (FX.out _).mono ?_); rintro e w' ⟨rfl, rfl⟩)) | (go_at_call 24; ((with_reducible refine (FY.out _).mono ?_); rintro e w' ⟨rfl, rfl⟩)) | (go_at_call 25; ((with_reducible refine (BB2.out _).mono ?_); rintro e w' ⟨rfl, q, rfl⟩)))
        go_ret
        exact ⟨by rw [ecast, HD.out]; rfl, HW9.out _⟩
theorem rdot_any (h : Sn w b T s) (k : Sok s) (i : Int) (x : Nat) (hx : x < 240) (line : Int) :
    Calls Try.prog 12 #[.pointer (some ⟨b, 0, none⟩), .int .i64 i, .int .i64 x, .int .i64 line] w fun r w' => r = .returned (.int .u16 (lineV s i line x)) ∧ ∃ q, w' = w.drewN q := by
  by_cases g : shownV s i = true ∧ 0 ≤ line ∧ line < 160
  · have e : lineV s i line x = drawnV s i line x := if_pos g
    rw [e]
    have hi : 0 ≤ i ∧ i < 4 := by
      have := g.1
      unfold shownV at this
      simp only [Bool.and_eq_true, decide_eq_true_eq] at this
      exact this.1.1.1
    obtain ⟨n, rfl⟩ := Int.eq_ofNat_of_zero_le hi.1
    exact rdot_in h k (by omega) hx g.1 g.2.1 g.2.2
  · have e : lineV s i line x = 32768 := if_neg g
    rw [e]
    refine rdot_out h k i x line _ rfl ?_
    cases hs : shownV s i
    · exact .inl rfl
    · exact .inr (by simp [hs] at g; omega)
end
end Go.Proofs.Ytbljlnhgllbbdaa.He
