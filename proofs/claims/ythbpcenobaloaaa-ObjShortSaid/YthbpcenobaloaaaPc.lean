/- Package obj, walked: colour. -/
import Derived.Test.YthbpcenobaloaaaPb
import Derived.Test.YthbpcenobaloaaaGs
namespace Go.Proofs.Ythbpcenobaloaaa.Pc
set_option linter.unusedVariables false
set_option linter.unusedSimpArgs false
open Go.RowKit Go.Proofs.Ythbpcenobaloaaa.Bt Go.Proofs.Ythbpcenobaloaaa.Wk Go.Proofs.Ythbpcenobaloaaa.Sg Go.Proofs.Ythbpcenobaloaaa.Gp Go.Proofs.Ythbpcenobaloaaa.Gm Go.Proofs.Ythbpcenobaloaaa.Gs Go.Proofs.Ythbpcenobaloaaa.Pp Go.Proofs.Ythbpcenobaloaaa.Pa Go.Proofs.Ythbpcenobaloaaa.Pb

theorem an1 : ∀ a : Fin 1024, Go.bits .andNot .i64 (a.val : Int) 1 = ((a.val - a.val % 2 : Nat) : Int) := by decide +kernel
theorem andNot1 {a : Int} (h0 : 0 ≤ a) (h1 : a < 1024) : Go.bits .andNot .i64 a 1 = a - a % 2 := by
  obtain ⟨n, rfl⟩ := Int.eq_ofNat_of_zero_le h0
  have := an1 ⟨n, by omega⟩
  rw [this]
  show ((n - n % 2 : Nat) : Int) = n - n % 2
  omega
theorem bit16 {x : Int} (h0 : 0 ≤ x) (h1 : x < 65536) (d : Int) (hd : 1 ≤ d) : Go.bits .and .u16 (x / d) 1 = x / d % 2 := by
  have a : 0 ≤ x / d := Int.ediv_nonneg h0 (by omega)
  have b : x / d ≤ x := Int.ediv_le_self d h0
  have := and_mask_u16 a (by omega) 1 (by decide); simpa using this
theorem and_mask_u8 {a : Int} (h0 : 0 ≤ a) (h1 : a < 256) (i : Nat) (hi : i ≤ 8) : Go.bits .and .u8 a (2 ^ i - 1) = a % 2 ^ i :=
  bits_mask .u8 8 (by decide) (fun n a b => by rw [IntKind.wrap_u8]; omega) i hi a h0 h1
section
variable {w : World} {b sb : Nat} {T : TypeId} {p : Sp} {s : Sc}
set_option maxHeartbeats 8000000 in
theorem colour_out (h : Pn w b p) (k : Pok p) {sp : Option Addr} {x y : Int} (ho : x < 0 ∨ y < 0 ∨ p.wide ≤ x ∨ p.high ≤ y) :
    Calls Try.prog 32 #[.pointer (some ⟨b, 0, none⟩), .pointer sp, .int .i64 x, .int .i64 y] w fun e w' => e = .returned (.int .i64 0) ∧ ∃ q, w' = w.drewN q := by
  have CW := h.c_wide
  have CH := h.c_high
  have lt := h.lt
  clear h k
  generalize p.wide = wd at *
  generalize p.high = hg at *
  rcases (show (decide (x < 0) = true) ∨ (decide (x < 0) = false ∧ decide (y < 0) = true) ∨ (decide (x < 0) = false ∧ decide (y < 0) = false ∧ decide (wd ≤ x) = true) ∨ (decide (x < 0) = false ∧ decide (y < 0) = false ∧ decide (wd ≤ x) = false ∧ decide (hg ≤ y) = true) by simp only [decide_eq_true_eq, decide_eq_false_iff_not]; omega) with h1 | ⟨h1, h2⟩ | ⟨h1, h2, h3⟩ | ⟨h1, h2, h3, h4⟩
  all_goals
    clear ho
    go_enter Try.func32, Try.ntmps32
    go_wp2
    go_ret
    exact ⟨rfl, 0, rfl⟩
set_option maxRecDepth 100000 in
set_option maxHeartbeats 16000000 in
theorem colour_in (h : Pn w b p) (k : Pok p) (hs : Sn w sb T s) (ks : Sok s) {x y : Int} (x0 : 0 ≤ x) (x1 : x < p.wide) (y0 : 0 ≤ y) (y1 : y < p.high) :
    Calls Try.prog 32 #[.pointer (some ⟨b, 0, none⟩), .pointer (some ⟨sb, 0, none⟩), .int .i64 x, .int .i64 y] w fun e w' => e = .returned (.int .i64 (colIn s p x y)) ∧ ∃ q, w' = w.drewN q := by
  have CW := h.c_wide
  have CH := h.c_high
  have CT := h.c_tile
  have CM := h.c_many
  have CC := hs.ctl
  have lt := h.lt
  have lts := hs.lt
  have c0 := ks.c0
  have c1 := ks.c1
  have t0 := k.t0
  have t1 := k.t1
  have pw := k.w
  have ph := k.h
  have w8 : p.wide ≤ 64 := by omega
  have h8 : p.high ≤ 64 := by omega
  have q1 : decide (x < 0) = false := decide_eq_false (by omega)
  have q2 : decide (y < 0) = false := decide_eq_false (by omega)
  have q3 : decide (p.wide ≤ x) = false := decide_eq_false (by omega)
  have q4 : decide (p.high ≤ y) = false := decide_eq_false (by omega)
  have TN : Hid (tileN s p x y = (if p.many then p.tile - p.tile % 2 else p.tile) + (y / 8 * rowV s p + x / 8 * unitV p)) := Lib.hid rfl
  have RV : Hid (rowV s p = if s.ctl / 64 % 2 = 1 then p.wide / 8 * unitV p else 32) := Lib.hid rfl
  have UV : Hid (unitV p = if p.many then 2 else 1) := Lib.hid rfl
  have CI : Hid (colIn s p x y = if 3 ≤ modeV s ∧ tileN s p x y % 1024 < 512 then 0
    else if p.many then byteV s.vr (65536 + tileN s p x y % 1024 * 32 + (y % 8 * 8 + x % 8))
    else if nibP (byteV s.vr (65536 + tileN s p x y % 1024 * 32 + (y % 8 * 4 + x % 8 / 2))) x = 0 then 0
    else p.palette * 16 + nibP (byteV s.vr (65536 + tileN s p x y % 1024 * 32 + (y % 8 * 4 + x % 8 / 2))) x) := Lib.hid rfl
  have PH := Lib.hid h
  have KH := Lib.hid k
  have SH := Lib.hid hs
  have KS := Lib.hid ks
  clear h k hs ks
  generalize hN : tileN s p x y = N at *
  generalize unitV p = U at *
  generalize rowV s p = R at *
  generalize hmn : p.many = mn at *
  generalize p.tile = tl at *
  generalize hwd : p.wide = wd at *
  generalize p.high = hg at *
  generalize hct : s.ctl = c at *
  have HWD := Lib.hid hwd
  have HCT := Lib.hid hct
  clear hwd hct
  have HMN := Lib.hid hmn
  have HN := Lib.hid hN
  clear hN hmn
  have g6 := bit16 c0 c1 64 (by decide)
  have an := andNot1 t0 t1
  have tm0 : 0 ≤ tl % 2 := by omega
  have tm1 : tl % 2 < 2 := by omega
  have z0 : 0 ≤ y / 8 := by omega
  have z1 : y / 8 < 8 := by omega
  have z2 : 0 ≤ x / 8 := by omega
  have z3 : x / 8 < 8 := by omega
  have r0 : 0 ≤ wd / 8 := by omega
  have r1 : wd / 8 ≤ 8 := by omega
  go_enter Try.func32, Try.ntmps32
  go_wp2_with fail
  go_quiet (fail)
  have W5 : Hid (∀ m, ∃ q, (w.drewN nq).drewN m = w.drewN q) := Lib.hid fun m => ⟨_, World.drewN_drewN _ _ _⟩
  have P5 : Pn (w.drewN nq) b p := PH.out.drewN nq
  have S5 := SH.out.drewN nq
  have CW5 := CW
  have CM5 := CM
  have CT5 := CT
  have CC5 := CC
  have lt5 := lt
  have lts5 := lts
  change (w.drewN nq).cell? _ = _ at CW5
  change (w.drewN nq).cell? _ = _ at CM5
  change (w.drewN nq).cell? _ = _ at CT5
  change (w.drewN nq).cell? _ = _ at CC5
  change _ < (w.drewN nq).heap.size at lt5
  change _ < (w.drewN nq).heap.size at lts5
  have PH5 := Lib.hid P5
  have SH5 := Lib.hid S5
  clear P5 S5 CW CH CT CM CC lt lts PH SH
  generalize w.drewN nq = w5 at *
  go_upto_if 43 with fail
  go_cut [9, 10] (fun uv nv wx => uv = .int .i64 U ∧ nv = .int .i64 (if mn then tl - tl % 2 else tl) ∧ Hid (∃ q, wx = w5.drewN q))
  case first =>
    have UH := UV.out
    cases mn
    · have UH2 := Lib.hid UH
      clear UH
      go_wp2_with fail
      go_meet
      case rel => exact ⟨by rw [UH2.out]; rfl, rfl, Lib.hid ⟨0, rfl⟩⟩
    · have UH2 := Lib.hid UH
      clear UH
      go_wp2_with fail
      go_quiet (fail)
      go_wp2_with fail
      go_meet
      case rel => exact ⟨by rw [UH2.out]; rfl, rfl, Lib.hid ⟨_, rfl⟩⟩
  case rest =>
    obtain ⟨rfl, rfl, HQ⟩ := hcut
    have U2 : 1 ≤ U ∧ U ≤ 2 := by rw [UV.out]; split <;> omega
    obtain ⟨n0, hn0⟩ : ∃ n0, (if mn then tl - tl % 2 else tl) = n0 := ⟨_, rfl⟩
    have nb : 0 ≤ n0 ∧ n0 < 1024 := by rw [← hn0]; split <;> omega
    rw [hn0]
    have HN0 := Lib.hid hn0
    clear hn0
    have PH6 : Hid (Pn wc b p) := by obtain ⟨q, e⟩ := HQ.out; rw [e]; exact Lib.hid (PH5.out.drewN q)
    have SH6 : Hid (Sn wc sb T s) := by obtain ⟨q, e⟩ := HQ.out; rw [e]; exact Lib.hid (SH5.out.drewN q)
    have W6 : Hid (∀ m, ∃ q, wc.drewN m = w.drewN q) := by
      obtain ⟨q, e⟩ := HQ.out
      exact Lib.hid fun m => by rw [e, World.drewN_drewN]; exact W5.out _
    have W60 : Hid (∃ q, wc = w.drewN q) := by
      obtain ⟨q, e⟩ := HQ.out
      rw [e]; exact Lib.hid (W5.out _)
    have CW := PH6.out.c_wide
    have CM := PH6.out.c_many
    have CC := SH6.out.ctl
    rw [HWD.out] at CW
    rw [HMN.out] at CM
    rw [HCT.out] at CC
    have lt := PH6.out.lt
    have lts := SH6.out.lt
    clear CW5 CM5 CT5 CC5 lt5 lts5 PH5 SH5 W5 HQ
    obtain ⟨u0, u1⟩ := U2
    obtain ⟨nb0, nb1⟩ := nb
    have wu : wrap64 (wd / 8 * U) = wd / 8 * U := by
      have h1 : 0 ≤ wd / 8 * U := Int.mul_nonneg r0 (by omega)
      have h2 : wd / 8 * U ≤ 8 * 2 := Int.mul_le_mul r1 u1 (by omega) (by decide)
      exact wrap64_id (by omega) (by omega)
    have rb : 0 ≤ R ∧ R ≤ 32 := by
      have h1 : 0 ≤ wd / 8 * U := Int.mul_nonneg r0 (by omega)
      have h2 : wd / 8 * U ≤ 8 * 2 := Int.mul_le_mul r1 u1 (by omega) (by decide)
      rw [RV.out]; split <;> omega
    go_upto_if 55 with fail
    go_cut [11] (fun rv wx => rv = .int .i64 R ∧ wc = wx)
    case first =>
      have RH := RV.out
      by_cases g : c / 64 % 2 = 1
      · rw [if_pos g] at RH
        have RH2 := Lib.hid RH
        clear RH
        have gg : (c / 64 % 2 == 1) = true := by rw [g]; rfl
        go_wp2_with fail
        go_meet
        case rel => exact ⟨by rw [RH2.out]; first | rfl | rw [wu], rfl⟩
      · rw [if_neg g] at RH
        have RH2 := Lib.hid RH
        clear RH
        have gg : (c / 64 % 2 == 1) = false := by simpa using g
        go_wp2_with fail
        go_meet
        case rel => exact ⟨by rw [RH2.out], rfl⟩
    case rest =>
      obtain ⟨rfl, rfl⟩ := hcut
      obtain ⟨p1, hp1⟩ : ∃ z, y / 8 * R = z := ⟨_, rfl⟩
      obtain ⟨p2, hp2⟩ : ∃ z, x / 8 * U = z := ⟨_, rfl⟩
      have pa0 : 0 ≤ p1 := by rw [← hp1]; exact Int.mul_nonneg z0 rb.1
      have pa1 : p1 ≤ 256 := by
        rw [← hp1]
        have : y / 8 * R ≤ 8 * 32 := Int.mul_le_mul (by omega) rb.2 rb.1 (by decide)
        omega
      have pb0 : 0 ≤ p2 := by rw [← hp2]; exact Int.mul_nonneg z2 (by omega)
      have pb1 : p2 ≤ 16 := by
        rw [← hp2]
        have : x / 8 * U ≤ 8 * 2 := Int.mul_le_mul (by omega) u1 (by omega) (by decide)
        omega
      have hN2 : n0 + (p1 + p2) = N := by rw [TN.out, HN0.out, hp1, hp2]
      have N0 : 0 ≤ N := by omega
      have N1 : N < 2048 := by omega
      have v0 : 0 ≤ N % 1024 := by omega
      have v1 : N % 1024 < 1024 := by omega
      have MH := Lib.hid (mode_any SH6.out KS.out)
      have mb : 0 ≤ modeV s ∧ modeV s < 8 := by unfold modeV; omega
      obtain ⟨mb0, mb1⟩ := mb
      have CPL := PH6.out.c_palette
      have CV := SH6.out.vram
      unfold Mem.v at CV
      have vk := KS.out.vr
      have vn : (s.vr.n : Int) ≤ 9223372036854775807 := by have := vk.hm; unfold maxLen at this; omega
      have pc0 := KH.out.c0
      have pc1 := KH.out.c1
      have x80 : 0 ≤ x % 8 := by omega
      have x81 : x % 8 < 8 := by omega
      have y80 : 0 ≤ y % 8 := by omega
      have y81 : y % 8 < 8 := by omega
      have gX : Go.bits .and .i64 x 1 = x % 2 := by have := and_mask_i64 x 1 (by decide); simpa using this
      generalize modeV s = md at *
      generalize p.palette = pl at *
      clear an g6 tm0 tm1 rb wu r0 r1 w8 h8 pw ph q1 q2 q3 q4 nb0 nb1
      have HV := Lib.hid vk
      clear vk
      go_upto_region 11 with fail
      have B0 : 0 ≤ 65536 + N % 1024 * 32 := by omega
      have B1 : 65536 + N % 1024 * 32 < 199000 := by omega
      generalize hBB : 65536 + N % 1024 * 32 = B at *
      have HBB := Lib.hid hBB
      clear hBB
      by_cases gc : 3 ≤ md ∧ N % 1024 < 512
      · have CI2 := CI.out
        rw [if_pos gc] at CI2
        have CI3 := Lib.hid CI2
        have a1 : decide (3 ≤ md) = true := decide_eq_true gc.1
        have a2 : decide (N % 1024 < 512) = true := decide_eq_true gc.2
        clear gc CI2 CI
        go_wp2_with (go_at_call 35; ((with_reducible refine (MH.out).mono ?_); rintro e w' ⟨rfl, rfl⟩))
        go_ret
        exact ⟨by rw [CI3.out]; rfl, W60.out⟩
      · have CI2 := CI.out
        rw [if_neg gc] at CI2
        have gcc : decide (3 ≤ md) = false ∨ (decide (3 ≤ md) = true ∧ decide (N % 1024 < 512) = false) := by
          simp only [decide_eq_true_eq, decide_eq_false_iff_not]; omega
        have CI3 := Lib.hid CI2
        clear gc CI2 CI
        cases mn
        · have CI4 := CI3.out
          rw [if_neg (by decide)] at CI4
          obtain ⟨A, hA⟩ : ∃ A, B + (y % 8 * 4 + x % 8 / 2) = A := ⟨_, rfl⟩
          rw [hA] at CI4
          have A0 : 0 ≤ A := by omega
          have A1 : A < 200000 := by omega
          by_cases gl : (s.vr.n : Int) ≤ A
          · have bz : byteV s.vr A = 0 := by unfold byteV; rw [if_neg (by omega)]
            rw [bz, if_pos (by unfold nibP; split <;> rfl)] at CI4
            have CI5 := Lib.hid CI4
            have gll : decide ((s.vr.n : Int) ≤ A) = true := decide_eq_true gl
            clear CI4 CI3 bz gl
            generalize s.vr.n = vn' at *
            rcases gcc with a1 | ⟨a1, a2⟩
            all_goals
              go_wp2_with (go_at_call 35; ((with_reducible refine (MH.out).mono ?_); rintro e w' ⟨rfl, rfl⟩))
              go_ret
              exact ⟨by rw [CI5.out]; rfl, W60.out⟩
          · obtain ⟨a, ha⟩ := Int.eq_ofNat_of_zero_le A0
            obtain ⟨ad, e1, l1, c1'⟩ := SH6.out.vr.at_ (k := a) (by omega)
            have bz : byteV s.vr A = s.vr.f a := by unfold byteV; rw [if_pos (by omega), ha]; rfl
            obtain ⟨f0, f1⟩ := HV.out.hf a (by omega)
            rw [bz] at CI4
            subst ha
            have gll : decide ((s.vr.n : Int) ≤ (a : Int)) = false := decide_eq_false gl
            have gl2 : (a : Int) < (s.vr.n : Int) := by omega
            clear A0 A1 B0 B1
            rw [e1] at CV
            generalize s.vr.f a = k at *
            have gb0 : Go.bits .and .u8 k 15 = k % 16 := by have := and_mask_u8 f0 f1 4 (by decide); simpa using this
            have gb1 : Go.bits .and .u8 (k / 16) 15 = k / 16 % 16 := by have := and_mask_u8 (a := k / 16) (by omega) (by omega) 4 (by decide); simpa using this
            have qk0 : 0 ≤ k % 16 := by omega
            have qk1 : k % 16 < 16 := by omega
            have qk2 : 0 ≤ k / 16 % 16 := by omega
            have qk3 : k / 16 % 16 < 16 := by omega
            clear bz e1 gl CI3
            generalize s.vr.n = vn' at *
            have nc : (x % 2 = 0 ∧ nibP k x = k % 16) ∨ (x % 2 = 1 ∧ nibP k x = k / 16 % 16) := by
              unfold nibP
              rcases (show x % 2 = 0 ∨ x % 2 = 1 by omega) with g | g
              · rw [if_pos g]; exact .inl ⟨g, rfl⟩
              · rw [if_neg (by omega)]; exact .inr ⟨g, rfl⟩
            rcases nc with ⟨g2, hn⟩ | ⟨g2, hn⟩
            all_goals
              rw [hn] at CI4
              clear hn
            · by_cases gz : k % 16 = 0
              · rw [if_pos gz] at CI4
                have CI5 := Lib.hid CI4
                have gzz : (k % 16 != 0) = false := by rw [gz]; rfl
                have GZ := Lib.hid gz
                clear CI4 gz
                rcases gcc with a1 | ⟨a1, a2⟩
                all_goals
                  go_wp2_with (go_at_call 35; ((with_reducible refine (MH.out).mono ?_); rintro e w' ⟨rfl, rfl⟩))
                  go_ret
                  exact ⟨by rw [CI5.out]; rfl, W60.out⟩
              · rw [if_neg gz] at CI4
                have CI5 := Lib.hid CI4
                have gzz : (k % 16 != 0) = true := by rw [bne_iff_ne]; exact gz
                clear CI4 gz
                rcases gcc with a1 | ⟨a1, a2⟩
                all_goals
                  go_wp2_with (go_at_call 35; ((with_reducible refine (MH.out).mono ?_); rintro e w' ⟨rfl, rfl⟩))
                  go_ret
                  exact ⟨by rw [CI5.out]; rfl, W60.out⟩
            · by_cases gz : k / 16 % 16 = 0
              · rw [if_pos gz] at CI4
                have CI5 := Lib.hid CI4
                have gzz : (k / 16 % 16 != 0) = false := by rw [gz]; rfl
                have GZ := Lib.hid gz
                clear CI4 gz
                rcases gcc with a1 | ⟨a1, a2⟩
                all_goals
                  go_wp2_with (go_at_call 35; ((with_reducible refine (MH.out).mono ?_); rintro e w' ⟨rfl, rfl⟩))
                  go_ret
                  exact ⟨by rw [CI5.out]; rfl, W60.out⟩
              · rw [if_neg gz] at CI4
                have CI5 := Lib.hid CI4
                have gzz : (k / 16 % 16 != 0) = true := by rw [bne_iff_ne]; exact gz
                clear CI4 gz
                rcases gcc with a1 | ⟨a1, a2⟩
                all_goals
                  go_wp2_with (go_at_call 35; ((with_reducible refine (MH.out).mono ?_); rintro e w' ⟨rfl, rfl⟩))
                  go_ret
                  exact ⟨by rw [CI5.out]; rfl, W60.out⟩
        · have CI4 := CI3.out
          rw [if_pos rfl] at CI4
          obtain ⟨A, hA⟩ : ∃ A, B + (y % 8 * 8 + x % 8) = A := ⟨_, rfl⟩
          rw [hA] at CI4
          have A0 : 0 ≤ A := by omega
          have A1 : A < 200000 := by omega
          by_cases gl : (s.vr.n : Int) ≤ A
          · have bz : byteV s.vr A = 0 := by unfold byteV; rw [if_neg (by omega)]
            rw [bz] at CI4
            have CI5 := Lib.hid CI4
            have gll : decide ((s.vr.n : Int) ≤ A) = true := decide_eq_true gl
            clear CI4 CI3 bz gl
            generalize s.vr.n = vn' at *
            rcases gcc with a1 | ⟨a1, a2⟩
            all_goals
              go_wp2_with (go_at_call 35; ((with_reducible refine (MH.out).mono ?_); rintro e w' ⟨rfl, rfl⟩))
              go_ret
              exact ⟨by rw [CI5.out]; rfl, W60.out⟩
          · obtain ⟨a, ha⟩ := Int.eq_ofNat_of_zero_le A0
            obtain ⟨ad, e1, l1, c1'⟩ := SH6.out.vr.at_ (k := a) (by omega)
            have bz : byteV s.vr A = s.vr.f a := by unfold byteV; rw [if_pos (by omega), ha]; rfl
            obtain ⟨f0, f1⟩ := HV.out.hf a (by omega)
            rw [bz] at CI4
            subst ha
            have gll : decide ((s.vr.n : Int) ≤ (a : Int)) = false := decide_eq_false gl
            have gl2 : (a : Int) < (s.vr.n : Int) := by omega
            clear A0 A1 B0 B1
            rw [e1] at CV
            have CI5 := Lib.hid CI4
            clear CI4 CI3
            generalize s.vr.f a = k at *
            generalize s.vr.n = vn' at *
            clear bz e1 gl
            rcases gcc with a1 | ⟨a1, a2⟩
            all_goals
              go_wp2_with (go_at_call 35; ((with_reducible refine (MH.out).mono ?_); rintro e w' ⟨rfl, rfl⟩))
              go_ret
              exact ⟨by rw [CI5.out]; rfl, W60.out⟩
theorem colour_any (h : Pn w b p) (k : Pok p) (hs : Sn w sb T s) (ks : Sok s) (x y : Int) :
    Calls Try.prog 32 #[.pointer (some ⟨b, 0, none⟩), .pointer (some ⟨sb, 0, none⟩), .int .i64 x, .int .i64 y] w fun e w' => e = .returned (.int .i64 (colP s p x y)) ∧ ∃ q, w' = w.drewN q := by
  unfold colP
  by_cases ho : x < 0 ∨ y < 0 ∨ p.wide ≤ x ∨ p.high ≤ y
  · rw [if_pos ho]; exact colour_out h k ho
  · rw [if_neg ho]; exact colour_in h k hs ks (by omega) (by omega) (by omega) (by omega)
set_option maxHeartbeats 4000000 in
theorem inBox_any (h : Pn w b p) (k : Pok p) (hs : Sn w sb T s) (ks : Sok s) {x y : Int} (x0 : 0 ≤ x) (x1 : x < 128) (y0 : 0 ≤ y) (y1 : y < 128) :
    Calls Try.prog 24 #[.pointer (some ⟨b, 0, none⟩), .pointer (some ⟨sb, 0, none⟩), .int .i64 x, .int .i64 y] w fun e w' => e = .returned (.int .i64 (inBoxV s p x y)) ∧ ∃ q, w' = w.drewN q := by
  have SP := Lib.hid (spot_any h k x0 x1 y0 y1)
  have CO := Lib.hid (fun q => colour_any (h.drewN q) k (hs.drewN q) ks (spotX p x y) (spotY p x y))
  have IB : Hid (inBoxV s p x y = colP s p (spotX p x y) (spotY p x y)) := Lib.hid rfl
  clear h k hs ks
  generalize spotX p x y = sx at *
  generalize spotY p x y = sy at *
  generalize colP s p sx sy = cv at *
  go_enter Try.func24, Try.ntmps24
  go_wp2_with (first | (go_at_call 31; ((with_reducible refine (SP.out).mono ?_); rintro e w' ⟨rfl, q, rfl⟩)) | (go_at_call 32; ((with_reducible refine (CO.out _).mono ?_); rintro e w' ⟨rfl, q, rfl⟩)))
  go_ret
  exact ⟨by rw [IB.out]; rfl, _, rfl⟩
end
end Go.Proofs.Ythbpcenobaloaaa.Pc
