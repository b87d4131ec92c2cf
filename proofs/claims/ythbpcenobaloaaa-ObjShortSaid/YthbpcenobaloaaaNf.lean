/- The document's sprites, walked: colour. -/
import Derived.Test.YthbpcenobaloaaaNe
namespace Go.Proofs.Ythbpcenobaloaaa.Nf
set_option linter.unusedVariables false
set_option linter.unusedSimpArgs false
open Go.RowKit Go.Proofs.Ythbpcenobaloaaa.Bt Go.Proofs.Ythbpcenobaloaaa.Wk Go.Proofs.Ythbpcenobaloaaa.Sg Go.Proofs.Ythbpcenobaloaaa.Gp Go.Proofs.Ythbpcenobaloaaa.Gm Go.Proofs.Ythbpcenobaloaaa.Pp Go.Proofs.Ythbpcenobaloaaa.Pa Go.Proofs.Ythbpcenobaloaaa.Pb Go.Proofs.Ythbpcenobaloaaa.Pc Go.Proofs.Ythbpcenobaloaaa.Pg Go.Proofs.Ythbpcenobaloaaa.Ph Go.Proofs.Ythbpcenobaloaaa.Pi Go.Proofs.Ythbpcenobaloaaa.Ha Go.Proofs.Ythbpcenobaloaaa.Na Go.Proofs.Ythbpcenobaloaaa.Nb Go.Proofs.Ythbpcenobaloaaa.Nc Go.Proofs.Ythbpcenobaloaaa.Nd Go.Proofs.Ythbpcenobaloaaa.Ne

section
variable {w : World} {g o sb : Nat} {T : TypeId} {s : Sc} {i : Nat}
set_option maxHeartbeats 8000000 in
theorem rcol_out (h : Rn w g o (full9 s i)) (k : Sok s) {sp : Option Addr} {x y : Int} (ho : x < 0 ∨ y < 0 ∨ (spV s i).wide ≤ x ∨ (spV s i).high ≤ y) :
    Calls Try.prog 20 #[.pointer (some ⟨g, o, none⟩), .pointer sp, .int .i64 x, .int .i64 y] w fun e w' => e = .returned (.int .i64 0) ∧ ∃ q, w' = w.drewN q := by
  have CW := h.c_wd
  have CH := h.c_hg
  have lt := h.lt
  change w.cell? _ = some (.int .i64 (spV s i).wide) at CW
  change w.cell? _ = some (.int .i64 (spV s i).high) at CH
  clear h k
  generalize (spV s i).wide = wd at *
  generalize (spV s i).high = hg at *
  rcases (show (decide (x < 0) = true) ∨ (decide (x < 0) = false ∧ decide (y < 0) = true) ∨ (decide (x < 0) = false ∧ decide (y < 0) = false ∧ decide (wd ≤ x) = true) ∨ (decide (x < 0) = false ∧ decide (y < 0) = false ∧ decide (wd ≤ x) = false ∧ decide (hg ≤ y) = true) by simp only [decide_eq_true_eq, decide_eq_false_iff_not]; omega) with h1 | ⟨h1, h2⟩ | ⟨h1, h2, h3⟩ | ⟨h1, h2, h3, h4⟩
  all_goals
    clear ho
    go_enter Try.func20, Try.ntmps20
    go_wp2
    go_ret
    exact ⟨rfl, 0, rfl⟩
theorem eight {u wd : Int} (h : wd = 8 ∨ wd = 16 ∨ wd = 32 ∨ wd = 64) (hu : u = 1 ∨ u = 2) : u * wd / 8 = wd / 8 * u := by
  rcases h with rfl | rfl | rfl | rfl <;> rcases hu with rfl | rfl <;> rfl
set_option maxRecDepth 100000 in
set_option maxHeartbeats 16000000 in
theorem rcol_in (h : Rn w g o (full9 s i)) (hs : Sn w sb T s) (k : Sok s) {x y : Int} (x0 : 0 ≤ x) (x1 : x < (spV s i).wide) (y0 : 0 ≤ y) (y1 : y < (spV s i).high) :
    Calls Try.prog 20 #[.pointer (some ⟨g, o, none⟩), .pointer (some ⟨sb, 0, none⟩), .int .i64 x, .int .i64 y] w fun e w' => e = .returned (.int .i64 (colIn s (spV s i) x y)) ∧ ∃ q, w' = w.drewN q := by
  have CA := h.c_a
  have CC := h.c_c
  have CW := h.c_wd
  have CH := h.c_hg
  have CT := hs.ctl
  have CV := hs.vram
  unfold Mem.v at CV
  have lt := h.lt
  have lts := hs.lt
  have c0 := k.c0
  have c1 := k.c1
  change w.cell? _ = some (.int .i64 (wA s i)) at CA
  change w.cell? _ = some (.int .i64 (wC s i)) at CC
  change w.cell? _ = some (.int .i64 (spV s i).wide) at CW
  change w.cell? _ = some (.int .i64 (spV s i).high) at CH
  obtain ⟨a0, a1⟩ := wA_bd k i
  obtain ⟨cc0, cc1⟩ := wC_bd k i
  have PO := sp_ok k i
  have pw := PO.w
  have ph := PO.h
  have w8 : (spV s i).wide ≤ 64 := by omega
  have h8 : (spV s i).high ≤ 64 := by omega
  have w08 : 0 ≤ (spV s i).wide := by omega
  have q1 : decide (x < 0) = false := decide_eq_false (by omega)
  have q2 : decide (y < 0) = false := decide_eq_false (by omega)
  have q3 : decide ((spV s i).wide ≤ x) = false := decide_eq_false (by omega)
  have q4 : decide ((spV s i).high ≤ y) = false := decide_eq_false (by omega)
  have MV : Hid ((spV s i).many = (wA s i / 8192 % 2 == 1)) := Lib.hid rfl
  have TV : Hid ((spV s i).tile = wC s i % 1024) := Lib.hid rfl
  have LV : Hid ((spV s i).palette = wC s i / 4096) := Lib.hid rfl
  have UV : Hid (unitV (spV s i) = if (spV s i).many then 2 else 1) := Lib.hid rfl
  have RV : Hid (rowV s (spV s i) = if s.ctl / 64 % 2 = 1 then (spV s i).wide / 8 * unitV (spV s i) else 32) := Lib.hid rfl
  have TN : Hid (tileN s (spV s i) x y = (if (spV s i).many then (spV s i).tile - (spV s i).tile % 2 else (spV s i).tile) + (y / 8 * rowV s (spV s i) + x / 8 * unitV (spV s i))) := Lib.hid rfl
  have CI : Hid (colIn s (spV s i) x y = if 3 ≤ modeV s ∧ tileN s (spV s i) x y % 1024 < 512 then 0
    else if (spV s i).many then byteV s.vr (65536 + tileN s (spV s i) x y % 1024 * 32 + (y % 8 * 8 + x % 8))
    else if nibP (byteV s.vr (65536 + tileN s (spV s i) x y % 1024 * 32 + (y % 8 * 4 + x % 8 / 2))) x = 0 then 0
    else (spV s i).palette * 16 + nibP (byteV s.vr (65536 + tileN s (spV s i) x y % 1024 * 32 + (y % 8 * 4 + x % 8 / 2))) x) := Lib.hid rfl
  have PWH := Lib.hid pw
  have MH := Lib.hid (rmode_any hs k)
  have BY := Lib.hid (fun q (a : Int) (h0 : 0 ≤ a) (h1 : a < 200000) => byte_any (hs.vr.drewN q) k.vr a (by omega) (by omega))
  have BB := Lib.hid (fun a => byteV_bd k.vr a)
  unfold Mem.v at BY
  have mb : 0 ≤ modeV s ∧ modeV s < 8 := by unfold modeV; omega
  obtain ⟨mb0, mb1⟩ := mb
  obtain ⟨V, hV⟩ : ∃ V, colIn s (spV s i) x y = V := ⟨_, rfl⟩
  rw [hV] at CI ⊢
  clear hV PO pw ph h hs k
  generalize hN : tileN s (spV s i) x y = N at *
  generalize unitV (spV s i) = U at *
  generalize rowV s (spV s i) = R at *
  generalize hmn : (spV s i).many = mn at *
  generalize htl : (spV s i).tile = tl at *
  generalize hpl : (spV s i).palette = pl at *
  generalize hwd : (spV s i).wide = wd at *
  generalize (spV s i).high = hg at *
  generalize hct : s.ctl = c at *
  generalize wA s i = A at *
  generalize wC s i = C at *
  generalize modeV s = md at *
  have tb0 : 0 ≤ C % 1024 := by omega
  have tb1 : C % 1024 < 1024 := by omega
  clear hN hmn htl hpl hwd hct
  have MV2 : (A / 8192 % 2 == 1) = mn := MV.out.symm
  have U2 : Hid (U = 1 ∨ U = 2) := Lib.hid (by rw [UV.out]; split <;> simp)
  have r0 : 0 ≤ wd / 8 := by omega
  have r1 : wd / 8 ≤ 8 := by omega
  go_enter Try.func20, Try.ntmps20
  go_upto_if 49 with fail
  obtain ⟨n0, hn0⟩ : ∃ n0, (if mn then tl - tl % 2 else tl) = n0 := ⟨_, rfl⟩
  have nb : 0 ≤ n0 ∧ n0 < 1024 := by have := TV.out; rw [← hn0]; split <;> omega
  have HN0 := Lib.hid hn0
  rw [hn0] at TN
  clear hn0
  go_cut [10, 11] (fun nv uv wx => nv = .int .i64 n0 ∧ uv = .int .i64 U ∧ w = wx)
  case first =>
    have UH := UV.out
    have NH := HN0.out
    rw [TV.out] at NH
    cases mn
    · have UH2 := Lib.hid UH
      have NH2 := Lib.hid NH
      clear UH NH
      go_wp2_with fail
      go_meet
      case rel => exact ⟨by rw [← NH2.out]; rfl, by rw [UH2.out]; rfl, rfl⟩
    · have UH2 := Lib.hid UH
      have NH2 := Lib.hid NH
      clear UH NH
      go_wp2_with fail
      go_meet
      case rel => exact ⟨by rw [← NH2.out]; simp, by rw [UH2.out]; rfl, rfl⟩
  case rest =>
  obtain ⟨rfl, rfl, rfl⟩ := hcut
  obtain ⟨uw, huw⟩ : ∃ uw, U * wd = uw := ⟨_, rfl⟩
  have uwb : 0 ≤ uw ∧ uw ≤ 128 := by rw [← huw]; rcases U2.out with e | e <;> rw [e] <;> omega
  have E8 : Hid (uw / 8 = wd / 8 * U) := Lib.hid (by rw [← huw]; exact eight PWH.out U2.out)
  obtain ⟨uw0, uw1⟩ := uwb
  have u0 : 1 ≤ U := by rcases U2.out with e | e <;> omega
  have u1 : U ≤ 2 := by rcases U2.out with e | e <;> omega
  have g6 : (c / 64 % 2 = 1 ∧ R = wd / 8 * U) ∨ (c / 64 % 2 = 0 ∧ R = 32) := by
    rw [RV.out]
    by_cases g : c / 64 % 2 = 1
    · rw [if_pos g]; exact .inl ⟨g, rfl⟩
    · rw [if_neg g]; exact .inr ⟨by omega, rfl⟩
  have rb : 0 ≤ R ∧ R ≤ 32 := by
    rcases g6 with ⟨_, e⟩ | ⟨_, e⟩
    · rw [e, ← E8.out]; omega
    · omega
  have G6 := Lib.hid g6
  clear g6
  go_upto_if 60 with fail
  go_cut [12] (fun rv wx => rv = .int .i64 R ∧ w = wx)
  case first =>
    rcases G6.out with ⟨e, e2⟩ | ⟨e, e2⟩
    · have E2 := Lib.hid e2
      have ee : (c / 64 % 2 == 1) = true := by rw [e]; rfl
      clear e e2
      go_wp2_with fail
      go_meet
      case rel => exact ⟨by rw [E2.out, ← E8.out], rfl⟩
    · have E2 := Lib.hid e2
      have ee : (c / 64 % 2 == 1) = false := by rw [e]; rfl
      clear e e2
      go_wp2_with fail
      go_meet
      case rel => exact ⟨by rw [E2.out], rfl⟩
  case rest =>
  obtain ⟨rfl, rfl⟩ := hcut
  clear huw
  obtain ⟨p1, hp1⟩ : ∃ z, R * (y / 8) = z := ⟨_, rfl⟩
  obtain ⟨p2, hp2⟩ : ∃ z, U * (x / 8) = z := ⟨_, rfl⟩
  have pa0 : 0 ≤ p1 := by rw [← hp1]; exact Int.mul_nonneg rb.1 (by omega)
  have pa1 : p1 ≤ 256 := by
    rw [← hp1]
    have : R * (y / 8) ≤ 32 * 8 := Int.mul_le_mul rb.2 (by omega) (by omega) (by decide)
    omega
  have pb0 : 0 ≤ p2 := by rw [← hp2]; exact Int.mul_nonneg (by omega) (by omega)
  have pb1 : p2 ≤ 16 := by
    rw [← hp2]
    have : U * (x / 8) ≤ 2 * 8 := Int.mul_le_mul u1 (by omega) (by omega) (by decide)
    omega
  obtain ⟨nb0, nb1⟩ := nb
  have hN2 : n0 + p1 + p2 = N := by rw [TN.out, ← hp1, ← hp2, Int.mul_comm R, Int.mul_comm U]; omega
  have N0 : 0 ≤ N := by omega
  have N1 : N < 2048 := by omega
  have v0 : 0 ≤ N % 1024 := by omega
  have v1 : N % 1024 < 1024 := by omega
  clear rb E8 uw0 uw1 q1 q2 q3 q4 w08 r0 r1 CH CW MV2 CA
  go_upto_region 13 with fail
  clear hp1 hp2 hN2
  by_cases gc : 3 ≤ md ∧ N % 1024 < 512
  · have CI2 := CI.out
    rw [if_pos gc] at CI2
    have CI3 := Lib.hid CI2
    have a1 : decide (3 ≤ md) = true := decide_eq_true gc.1
    have a2 : decide (N % 1024 < 512) = true := decide_eq_true gc.2
    clear gc CI2 CI
    go_wp2_with (go_at_call 29; ((with_reducible refine (MH.out).mono ?_); rintro e w' ⟨rfl, q, rfl⟩))
    go_ret
    exact ⟨by rw [CI3.out]; rfl, _, rfl⟩
  · have CI2 := CI.out
    rw [if_neg gc] at CI2
    have gcc : decide (3 ≤ md) = false ∨ (decide (3 ≤ md) = true ∧ decide (N % 1024 < 512) = false) := by
      simp only [decide_eq_true_eq, decide_eq_false_iff_not]; omega
    have CI3 := Lib.hid CI2
    clear gc CI2 CI
    cases mn
    · have CI4 := CI3.out
      rw [if_neg (by decide), show 65536 + N % 1024 * 32 + (y % 8 * 4 + x % 8 / 2) = 65536 + 32 * (N % 1024) + 4 * (y % 8) + x % 8 / 2 by omega] at CI4
      have BA := Lib.hid (fun q => BY.out q (65536 + 32 * (N % 1024) + 4 * (y % 8) + x % 8 / 2) (by omega) (by omega))
      obtain ⟨f0, f1⟩ := BB.out (65536 + 32 * (N % 1024) + 4 * (y % 8) + x % 8 / 2)
      generalize byteV s.vr (65536 + 32 * (N % 1024) + 4 * (y % 8) + x % 8 / 2) = kb at *
      have pl1 : C / 4096 = pl := LV.out.symm
      have pl0 : 0 ≤ pl := by omega
      have pl2 : pl < 16 := by omega
      have nc : ((x % 2 == 1) = false ∧ nibP kb x = kb % 16) ∨ ((x % 2 == 1) = true ∧ nibP kb x = kb / 16 % 16) := by
        unfold nibP
        rcases (show x % 2 = 0 ∨ x % 2 = 1 by omega) with g | g
        · rw [if_pos g, g]; exact .inl ⟨rfl, rfl⟩
        · rw [if_neg (by omega), g]; exact .inr ⟨rfl, rfl⟩
      clear CI3
      rcases nc with ⟨g2, hn⟩ | ⟨g2, hn⟩
      all_goals
        rw [hn] at CI4
        clear hn
      · by_cases gz : kb % 16 = 0
        · rw [if_pos gz] at CI4
          have CI5 := Lib.hid CI4
          have gzz : (kb % 16 == 0) = true := by rw [gz]; rfl
          have GZ := Lib.hid gz
          clear CI4 gz
          rcases gcc with a1 | ⟨a1, a2⟩
          all_goals
            go_wp2_with (first | (go_at_call 29; ((with_reducible refine (MH.out).mono ?_); rintro e w' ⟨rfl, q, rfl⟩)) | (go_at_call 30; ((with_reducible refine (BA.out _).mono ?_); rintro e w' ⟨rfl, rfl⟩)))
            go_ret
            exact ⟨by rw [CI5.out]; rfl, _, rfl⟩
        · rw [if_neg gz] at CI4
          have CI5 : Hid (V = kb % 16 + 16 * pl) := Lib.hid (by rw [CI4]; omega)
          have gzz : (kb % 16 == 0) = false := by simpa using gz
          clear CI4 gz
          rcases gcc with a1 | ⟨a1, a2⟩
          all_goals
            go_wp2_with (first | (go_at_call 29; ((with_reducible refine (MH.out).mono ?_); rintro e w' ⟨rfl, q, rfl⟩)) | (go_at_call 30; ((with_reducible refine (BA.out _).mono ?_); rintro e w' ⟨rfl, rfl⟩)))
            go_ret
            exact ⟨by rw [CI5.out]; rfl, _, rfl⟩
      · by_cases gz : kb / 16 % 16 = 0
        · rw [if_pos gz] at CI4
          have CI5 := Lib.hid CI4
          have gzz : (kb / 16 % 16 == 0) = true := by rw [gz]; rfl
          have GZ := Lib.hid gz
          clear CI4 gz
          rcases gcc with a1 | ⟨a1, a2⟩
          all_goals
            go_wp2_with (first | (go_at_call 29; ((with_reducible refine (MH.out).mono ?_); rintro e w' ⟨rfl, q, rfl⟩)) | (go_at_call 30; ((with_reducible refine (BA.out _).mono ?_); rintro e w' ⟨rfl, rfl⟩)))
            go_ret
            exact ⟨by rw [CI5.out]; rfl, _, rfl⟩
        · rw [if_neg gz] at CI4
          have CI5 : Hid (V = kb / 16 % 16 + 16 * pl) := Lib.hid (by rw [CI4]; omega)
          have gzz : (kb / 16 % 16 == 0) = false := by simpa using gz
          clear CI4 gz
          rcases gcc with a1 | ⟨a1, a2⟩
          all_goals
            go_wp2_with (first | (go_at_call 29; ((with_reducible refine (MH.out).mono ?_); rintro e w' ⟨rfl, q, rfl⟩)) | (go_at_call 30; ((with_reducible refine (BA.out _).mono ?_); rintro e w' ⟨rfl, rfl⟩)))
            go_ret
            exact ⟨by rw [CI5.out]; rfl, _, rfl⟩
    · have CI4 := CI3.out
      rw [if_pos rfl, show 65536 + N % 1024 * 32 + (y % 8 * 8 + x % 8) = 65536 + 32 * (N % 1024) + 8 * (y % 8) + x % 8 by omega] at CI4
      have BA := Lib.hid (fun q => BY.out q (65536 + 32 * (N % 1024) + 8 * (y % 8) + x % 8) (by omega) (by omega))
      generalize byteV s.vr (65536 + 32 * (N % 1024) + 8 * (y % 8) + x % 8) = kb at *
      have CI5 := Lib.hid CI4
      clear CI4 CI3
      rcases gcc with a1 | ⟨a1, a2⟩
      all_goals
        go_wp2_with (first | (go_at_call 29; ((with_reducible refine (MH.out).mono ?_); rintro e w' ⟨rfl, q, rfl⟩)) | (go_at_call 30; ((with_reducible refine (BA.out _).mono ?_); rintro e w' ⟨rfl, rfl⟩)))
        go_ret
        exact ⟨by rw [CI5.out]; rfl, _, rfl⟩
theorem rcol_any (h : Rn w g o (full9 s i)) (hs : Sn w sb T s) (k : Sok s) (x y : Int) :
    Calls Try.prog 20 #[.pointer (some ⟨g, o, none⟩), .pointer (some ⟨sb, 0, none⟩), .int .i64 x, .int .i64 y] w fun e w' => e = .returned (.int .i64 (colP s (spV s i) x y)) ∧ ∃ q, w' = w.drewN q := by
  unfold colP
  by_cases ho : x < 0 ∨ y < 0 ∨ (spV s i).wide ≤ x ∨ (spV s i).high ≤ y
  · rw [if_pos ho]; exact rcol_out h k ho
  · rw [if_neg ho]; exact rcol_in h hs k (by omega) (by omega) (by omega) (by omega)
end
end Go.Proofs.Ythbpcenobaloaaa.Nf
