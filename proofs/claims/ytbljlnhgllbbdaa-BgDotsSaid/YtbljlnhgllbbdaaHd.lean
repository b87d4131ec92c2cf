/- The document's backgrounds, walked: turned. -/
import Derived.Test.YtbljlnhgllbbdaaHb
import Derived.Test.YtbljlnhgllbbdaaGy
namespace Go.Proofs.Ytbljlnhgllbbdaa.Hd
set_option linter.unusedVariables false
set_option linter.unusedSimpArgs false
open Go.RowKit Go.Proofs.Ytbljlnhgllbbdaa.Bt Go.Proofs.Ytbljlnhgllbbdaa.Wk Go.Proofs.Ytbljlnhgllbbdaa.Sg Go.Proofs.Ytbljlnhgllbbdaa.Gp Go.Proofs.Ytbljlnhgllbbdaa.Gm Go.Proofs.Ytbljlnhgllbbdaa.Gs Go.Proofs.Ytbljlnhgllbbdaa.Gh Go.Proofs.Ytbljlnhgllbbdaa.Gt Go.Proofs.Ytbljlnhgllbbdaa.Gv Go.Proofs.Ytbljlnhgllbbdaa.Gw Go.Proofs.Ytbljlnhgllbbdaa.Gx Go.Proofs.Ytbljlnhgllbbdaa.Ha Go.Proofs.Ytbljlnhgllbbdaa.Hb

theorem field_tex (s : Sc) (c z X Y : Int) : fieldD s c z X Y = texM s (16384 * (c / 4 % 4) + 64 * byteV s.vr (2048 * (c / 256 % 32) + Y / 8 * z + X / 8) + (8 * (Y % 8) + X % 8)) := by
  unfold fieldD texM
  have e1 : c / 256 % 32 * 2048 + Y / 8 * z + X / 8 = 2048 * (c / 256 % 32) + Y / 8 * z + X / 8 := by omega
  rw [e1]
  generalize byteV s.vr (2048 * (c / 256 % 32) + Y / 8 * z + X / 8) = n
  have e2 : c / 4 % 4 * 16384 + n * 64 + Y % 8 * 8 + X % 8 = 16384 * (c / 4 % 4) + 64 * n + (8 * (Y % 8) + X % 8) := by omega
  rw [e2]
theorem tmod_back {x Z : Int} (h : 0 < Z) : (Int.tmod x Z + Z) % Z = x % Z := by
  rw [Int.add_emod_right]
  have := Int.mul_tdiv_add_tmod x Z
  have e : x = Int.tmod x Z + Z * Int.tdiv x Z := by omega
  conv => rhs; rw [e]
  rw [Int.add_mul_emod_self_left]
theorem tmod_bd {x Z : Int} (h : 0 < Z) : -Z < Int.tmod x Z ∧ Int.tmod x Z < Z := ⟨Int.lt_tmod_of_pos x h, Int.tmod_lt_of_pos x h⟩
theorem size_w {c : Int} (c0 : 0 ≤ c) (c1 : c < 65536) : wrap64 (128 * 2 ^ (c / 16384).toNat) = 128 * 2 ^ (c / 16384).toNat ∧ 128 ≤ (128 * 2 ^ (c / 16384).toNat : Int) ∧ (128 * 2 ^ (c / 16384).toNat : Int) ≤ 1024 := by
  rcases (show c / 16384 = 0 ∨ c / 16384 = 1 ∨ c / 16384 = 2 ∨ c / 16384 = 3 by omega) with h | h | h | h <;> rw [h] <;> decide +kernel
section
variable {w : World} {b : Nat} {T : TypeId} {s : Sc}
set_option maxRecDepth 100000 in
set_option maxHeartbeats 16000000 in
theorem rturned_in (h : Sn w b T s) (k : Sok s) {i : Nat} (i4 : i < 4) {x y Z X Y : Int} (hZ : (128 * 2 ^ (s.bg i / 16384).toNat : Int) = Z)
    (hX : s.bg i / 8192 % 2 = 1 ∧ x % Z = X ∧ y % Z = Y ∨ s.bg i / 8192 % 2 = 0 ∧ x = X ∧ y = Y) (X0 : 0 ≤ X) (X1 : X < Z) (Y0 : 0 ≤ Y) (Y1 : Y < Z) :
    Calls Try.prog 23 #[.pointer (some ⟨b, 0, none⟩), .int .i64 i, .int .i64 x, .int .i64 y] w fun r w' => r = .returned (.int .u16 (fieldD s (s.bg i) (Z / 8) X Y)) ∧ ∃ q, w' = w.drewN q := by
  have CV := h.vram
  have CB := h.bg i4
  unfold Mem.v at CV
  have lt := h.lt
  obtain ⟨c0, c1⟩ := k.b i i4
  obtain ⟨ZW, Z0, Z1⟩ := size_w c0 c1
  rw [hZ] at Z0 Z1
  rw [field_tex]
  have TM := Lib.hid (fun w (h : Sn w b T s) => @texel_many w b T s h k)
  have B14 := Lib.hid (fun w => bits_lit (w := w) c0 c1 14 2 14 2 (s.bg i / 16384) (by decide) (by decide) rfl rfl (by omega))
  have B13 := Lib.hid (fun w => bits_lit (w := w) c0 c1 13 1 13 1 (s.bg i / 8192 % 2) (by decide) (by decide) rfl rfl rfl)
  have B8 := Lib.hid (fun w => bits_lit (w := w) c0 c1 8 5 8 5 (s.bg i / 256 % 32) (by decide) (by decide) rfl rfl rfl)
  have B2 := Lib.hid (fun w => bits_lit (w := w) c0 c1 2 2 2 2 (s.bg i / 4 % 4) (by decide) (by decide) rfl rfl rfl)
  have SH := Lib.hid h
  have VK := k.vr
  have HZ0 := Lib.hid hZ
  clear h k hZ ZW
  generalize s.bg i = c at *
  have i0 : (0 : Int) ≤ (i : Int) := by omega
  have i4' : (i : Int) < 4 := by omega
  have t0 : 0 ≤ c / 4 % 4 := by omega
  have t1 : c / 4 % 4 < 4 := by omega
  have m0 : 0 ≤ c / 256 % 32 := by omega
  have m1 : c / 256 % 32 < 32 := by omega
  obtain ⟨zz, hzz⟩ : ∃ zz, Z / 8 = zz := ⟨_, rfl⟩
  have z0 : 0 ≤ zz := by omega
  have z1 : zz ≤ 128 := by omega
  rw [hzz]
  obtain ⟨p, hp⟩ : ∃ p, Y / 8 * zz = p := ⟨_, rfl⟩
  have p0 : 0 ≤ p := by rw [← hp]; exact Int.mul_nonneg (by omega) z0
  have p1 : p ≤ 20000 := by
    rw [← hp]
    have : Y / 8 * zz ≤ 128 * 128 := Int.mul_le_mul (by omega) z1 z0 (by decide)
    omega
  rw [hp]
  obtain ⟨A, hA⟩ : ∃ A, 2048 * (c / 256 % 32) + p + X / 8 = A := ⟨_, rfl⟩
  rw [hA]
  have OA := Lib.hid (fun w (h : Sn w b T s) => byte_any h.vr VK A (by omega) (by omega))
  unfold Mem.v at OA
  obtain ⟨n0, n1⟩ := byteV_bd VK A
  clear VK
  generalize byteV s.vr A = n at *
  have u0 : 0 ≤ X % 8 := by omega
  have u1 : X % 8 < 8 := by omega
  have v0 : 0 ≤ Y % 8 := by omega
  have v1 : Y % 8 < 8 := by omega
  have TMA := Lib.hid (fun w h => TM.out w h (a := 16384 * (c / 4 % 4) + 64 * n) (x := X % 8) (y := Y % 8) (pal := 0) rfl (by omega) (by omega) u0 u1 v0 v1)
  have dx : Int.tdiv X 8 = X / 8 := Int.tdiv_eq_ediv_of_nonneg X0
  have dy : Int.tdiv Y 8 = Y / 8 := Int.tdiv_eq_ediv_of_nonneg Y0
  have dz : Int.tdiv Z 8 = zz := by rw [Int.tdiv_eq_ediv_of_nonneg (by omega), hzz]
  have s1 : IntKind.i64.wrap (2048 * (c / 256 % 32)) = 2048 * (c / 256 % 32) := i64_in (by omega) (by omega)
  have s2 : IntKind.i64.wrap (Y / 8 * zz) = p := by rw [hp]; exact i64_in (by omega) (by omega)
  have s3 : IntKind.i64.wrap (2048 * (c / 256 % 32) + p) = 2048 * (c / 256 % 32) + p := i64_in (by omega) (by omega)
  have s4 : IntKind.i64.wrap (2048 * (c / 256 % 32) + p + X / 8) = A := by rw [hA]; exact i64_in (by omega) (by omega)
  have HA := Lib.hid hA
  have HP := Lib.hid hp
  have HZ := Lib.hid hzz
  clear hA hp hzz TM
  have Zp : 0 < Z := by omega
  obtain ⟨ax, ay⟩ := tmod_bd (x := x) Zp
  obtain ⟨bx, by'⟩ := tmod_bd (x := y) Zp
  have ex := tmod_back (x := x) Zp
  have ey := tmod_back (x := y) Zp
  go_enter Try.func23, Try.ntmps23
  go_upto_if 23 with (first | (go_at_call 20; ((with_reducible refine (B14.out _).mono ?_); rintro e w' ⟨rfl, q, rfl⟩)) | (go_at_call 20; ((with_reducible refine (B13.out _).mono ?_); rintro e w' ⟨rfl, q, rfl⟩)))
  rw [show wrap64 (128 * 2 ^ (c / 16384).toNat) = Z from (size_w c0 c1).1.trans HZ0.out]
  generalize hw5 : w.drewN (_ + _) = w5 at *
  have S5 : Sn w5 b T s := by rw [← hw5]; exact SH.out.drewN _
  have HW5 := Lib.hid hw5
  have SH5 := Lib.hid S5
  clear hw5 S5 CB CV lt SH
  go_cut [2, 3] (fun xv yv wx => xv = .int .i64 X ∧ yv = .int .i64 Y ∧ w5 = wx)
  case first =>
    rcases hX with ⟨gw, hX, hY⟩ | ⟨gw, rfl, rfl⟩
    · rw [hX] at ex
      rw [hY] at ey
      have EX := Lib.hid ex
      have EY := Lib.hid ey
      clear hX hY ex ey
      go_wp2_with fail
      go_meet
      case rel => exact ⟨by rw [EX.out], by rw [EY.out], rfl⟩
    · go_wp2_with fail
      go_meet
      case rel => exact ⟨rfl, rfl, rfl⟩
  case rest =>
    obtain ⟨rfl, rfl, rfl⟩ := hcut
    clear hX ex ey ax ay bx by'
    have q1 : decide (X < 0) = false := decide_eq_false (by omega)
    have q2 : decide (Y < 0) = false := decide_eq_false (by omega)
    have q3 : decide (Z ≤ X) = false := decide_eq_false (by omega)
    have q4 : decide (Z ≤ Y) = false := decide_eq_false (by omega)
    have lt := SH5.out.lt
    have CV := SH5.out.vram
    unfold Mem.v at CV
    have OA5 := Lib.hid (fun q => OA.out _ (SH5.out.drewN q))
    go_wp2_with fail
    go_quiet ((first | (go_at_call 20; exact Calls.quiet_of (B8.out _)) | (go_at_call 33; exact Calls.quiet_of_same (flip (OA5.out _)))))
    clear dx dy dz s1 s2 s3 s4
    have TMA5 := Lib.hid (fun q => TMA.out _ (SH5.out.drewN q))
    go_wp2_with (first | (go_at_call 20; ((with_reducible refine (B2.out _).mono ?_); rintro e w' ⟨rfl, q, rfl⟩)) | (go_at_call 32; ((with_reducible refine (TMA5.out _).mono ?_); rintro e w' ⟨rfl, q, rfl⟩)))
    go_ret
    refine ⟨rfl, ?_⟩
    rw [← HW5.out]
    exact ⟨_, World.drewN_drewN _ _ _⟩
set_option maxHeartbeats 16000000 in
theorem rturned_out (h : Sn w b T s) (k : Sok s) {i : Nat} (i4 : i < 4) {x y Z : Int} (hZ : (128 * 2 ^ (s.bg i / 16384).toNat : Int) = Z) (gw : s.bg i / 8192 % 2 = 0) (ho : x < 0 ∨ y < 0 ∨ Z ≤ x ∨ Z ≤ y) :
    Calls Try.prog 23 #[.pointer (some ⟨b, 0, none⟩), .int .i64 i, .int .i64 x, .int .i64 y] w fun r w' => r = .returned (.int .u16 32768) ∧ ∃ q, w' = w.drewN q := by
  have CB := h.bg i4
  have lt := h.lt
  obtain ⟨c0, c1⟩ := k.b i i4
  obtain ⟨ZW, Z0, Z1⟩ := size_w c0 c1
  rw [hZ] at Z0 Z1
  have ZW := ZW.trans hZ
  have B14 := Lib.hid (fun w => bits_lit (w := w) c0 c1 14 2 14 2 (s.bg i / 16384) (by decide) (by decide) rfl rfl (by omega))
  have B13 := Lib.hid (fun w => bits_lit (w := w) c0 c1 13 1 13 1 (s.bg i / 8192 % 2) (by decide) (by decide) rfl rfl rfl)
  have ZH := Lib.hid ZW
  have HZ0 := Lib.hid hZ
  clear h k hZ ZW
  generalize s.bg i = c at *
  have i0 : (0 : Int) ≤ (i : Int) := by omega
  have i4' : (i : Int) < 4 := by omega
  go_enter Try.func23, Try.ntmps23
  go_upto_if 23 with (first | (go_at_call 20; ((with_reducible refine (B14.out _).mono ?_); rintro e w' ⟨rfl, q, rfl⟩)) | (go_at_call 20; ((with_reducible refine (B13.out _).mono ?_); rintro e w' ⟨rfl, q, rfl⟩)))
  (first | rw [ZH.out] | rw [HZ0.out])
  rcases (show x < 0 ∨ (0 ≤ x ∧ y < 0) ∨ (0 ≤ x ∧ 0 ≤ y ∧ Z ≤ x) ∨ (0 ≤ x ∧ 0 ≤ y ∧ x < Z ∧ Z ≤ y) by omega) with h1 | ⟨h1, h2⟩ | ⟨h1, h2, h3⟩ | ⟨h1, h2, h3, h4⟩
  all_goals
    clear ho
    go_wp2
    go_ret
    exact ⟨rfl, _, rfl⟩
theorem rturned_any (h : Sn w b T s) (k : Sok s) {i : Nat} (i4 : i < 4) (x y : Int) :
    Calls Try.prog 23 #[.pointer (some ⟨b, 0, none⟩), .int .i64 i, .int .i64 x, .int .i64 y] w fun r w' => r = .returned (.int .u16 (fieldV s i x y)) ∧ ∃ q, w' = w.drewN q := by
  obtain ⟨c0, c1⟩ := k.b i i4
  obtain ⟨_, Z0, _⟩ := size_w c0 c1
  unfold fieldV
  obtain ⟨Z, hZ⟩ : ∃ Z, (128 * 2 ^ (s.bg i / 16384).toNat : Int) = Z := ⟨_, rfl⟩
  rw [hZ] at Z0 ⊢
  unfold fieldZ
  by_cases g : s.bg i / 8192 % 2 = 1
  · rw [if_pos g]
    exact rturned_in h k i4 hZ (.inl ⟨g, rfl, rfl⟩) (Int.emod_nonneg _ (by omega)) (Int.emod_lt_of_pos _ (by omega)) (Int.emod_nonneg _ (by omega)) (Int.emod_lt_of_pos _ (by omega))
  · rw [if_neg g]
    have g' : s.bg i / 8192 % 2 = 0 := by omega
    by_cases ho : x < 0 ∨ y < 0 ∨ Z ≤ x ∨ Z ≤ y
    · rw [if_pos ho]
      exact rturned_out h k i4 hZ g' ho
    · rw [if_neg ho]
      exact rturned_in h k i4 hZ (.inr ⟨g', rfl, rfl⟩) (by omega) (by omega) (by omega) (by omega)
set_option maxHeartbeats 16000000 in
theorem rbitmap_out (h : Sn w b T s) (k : Sok s) (x y wd hg : Int) (hm : modeV s = 5 ∧ wd = 160 ∧ hg = 128 ∨ (modeV s = 3 ∨ modeV s = 4) ∧ wd = 240 ∧ hg = 160) (ho : x < 0 ∨ y < 0 ∨ wd ≤ x ∨ hg ≤ y) :
    Calls Try.prog 25 #[.pointer (some ⟨b, 0, none⟩), .int .i64 x, .int .i64 y] w fun r w' => r = .returned (.int .u16 32768) ∧ ∃ q, w' = w.drewN q := by
  have MH := Lib.hid (fun q => rmode_any (h.drewN q) k)
  have M0 := Lib.hid (rmode_any h k)
  have C := h.ctl
  have lt := h.lt
  have B4 := Lib.hid (fun w => bits_lit (w := w) k.c0 k.c1 4 1 4 1 (s.ctl / 16 % 2) (by decide) (by decide) rfl rfl rfl)
  clear h k
  generalize modeV s = m at *
  generalize s.ctl = c at *
  have hcase : (m = 3 ∧ wd = 240 ∧ hg = 160) ∨ (c / 16 % 2 = 0 ∧ (m = 4 ∧ wd = 240 ∧ hg = 160 ∨ m = 5 ∧ wd = 160 ∧ hg = 128)) ∨ (c / 16 % 2 = 1 ∧ (m = 4 ∧ wd = 240 ∧ hg = 160 ∨ m = 5 ∧ wd = 160 ∧ hg = 128)) := by omega
  have hout : x < 0 ∨ (0 ≤ x ∧ y < 0) ∨ (0 ≤ x ∧ 0 ≤ y ∧ wd ≤ x) ∨ (0 ≤ x ∧ 0 ≤ y ∧ x < wd ∧ hg ≤ y) := by omega
  clear hm ho
  rcases hcase with ⟨rfl, rfl, rfl⟩ | ⟨gp, ⟨rfl, rfl, rfl⟩ | ⟨rfl, rfl, rfl⟩⟩ | ⟨gp, ⟨rfl, rfl, rfl⟩ | ⟨rfl, rfl, rfl⟩⟩ <;> rcases hout with h1 | ⟨h1, h2⟩ | ⟨h1, h2, h3⟩ | ⟨h1, h2, h3, h4⟩
  all_goals
    go_enter Try.func25, Try.ntmps25
    go_wp2_with (first | (go_at_call 16; ((with_reducible refine (M0.out).mono ?_); rintro e w' ⟨rfl, q, rfl⟩)) | (go_at_call 16; ((with_reducible refine (MH.out _).mono ?_); rintro e w' ⟨rfl, q, rfl⟩)) | (go_at_call 20; ((with_reducible refine (B4.out _).mono ?_); rintro e w' ⟨rfl, q, rfl⟩)))
    go_ret
    exact ⟨rfl, _, rfl⟩
set_option maxHeartbeats 16000000 in
theorem rbitmap_half (h : Sn w b T s) (k : Sok s) {x y wd hg A : Int} (hm : modeV s = 5 ∧ wd = 160 ∧ hg = 128 ∧ pageV s + 2 * (160 * y + x) = A ∨ modeV s = 3 ∧ wd = 240 ∧ hg = 160 ∧ 2 * (240 * y + x) = A) (x0 : 0 ≤ x) (x1 : x < wd) (y0 : 0 ≤ y) (y1 : y < hg) :
    Calls Try.prog 25 #[.pointer (some ⟨b, 0, none⟩), .int .i64 x, .int .i64 y] w fun r w' => r = .returned (.int .u16 (halfV s.vr A % 32768)) ∧ ∃ q, w' = w.drewN q := by
  have MH := Lib.hid (fun q => rmode_any (h.drewN q) k)
  have M0 := Lib.hid (rmode_any h k)
  have C := h.ctl
  have CV := h.vram
  unfold Mem.v at CV
  have lt := h.lt
  have gpp : s.ctl / 16 % 2 = 1 ∧ pageV s = 40960 ∨ s.ctl / 16 % 2 = 0 ∧ pageV s = 0 := by
    unfold pageV; split <;> omega
  have A0 : 0 ≤ A := by omega
  have A1 : A ≤ 200000 := by omega
  have HF := Lib.hid (fun q => rhalf_any (h.vr.drewN q) k.vr A (by omega) (by omega))
  unfold Mem.v at HF
  obtain ⟨v0, v1⟩ := halfV_bd k.vr A
  have B4 := Lib.hid (fun w => bits_lit (w := w) k.c0 k.c1 4 1 4 1 (s.ctl / 16 % 2) (by decide) (by decide) rfl rfl rfl)
  clear h k
  generalize halfV s.vr A = v at *
  generalize modeV s = m at *
  generalize s.ctl = c at *
  generalize pageV s = pg at *
  have r0 : 0 ≤ v % 32768 := by omega
  have r1 : v % 32768 < 32768 := by omega
  have hcase : (m = 3 ∧ wd = 240 ∧ hg = 160 ∧ 2 * (240 * y + x) = A) ∨ (c / 16 % 2 = 0 ∧ m = 5 ∧ wd = 160 ∧ hg = 128 ∧ 2 * (160 * y + x) = A) ∨ (c / 16 % 2 = 1 ∧ m = 5 ∧ wd = 160 ∧ hg = 128 ∧ 40960 + 2 * (160 * y + x) = A) := by omega
  clear hm gpp
  rcases hcase with ⟨rfl, rfl, rfl, hA⟩ | ⟨gp, rfl, rfl, rfl, hA⟩ | ⟨gp, rfl, rfl, rfl, hA⟩
  all_goals
    go_enter Try.func25, Try.ntmps25
    go_wp2_with (first | (go_at_call 16; ((with_reducible refine (M0.out).mono ?_); rintro e w' ⟨rfl, q, rfl⟩)) | (go_at_call 16; ((with_reducible refine (MH.out _).mono ?_); rintro e w' ⟨rfl, q, rfl⟩)) | (go_at_call 20; ((with_reducible refine (B4.out _).mono ?_); rintro e w' ⟨rfl, q, rfl⟩)) | (go_at_call 31; ((with_reducible refine (HF.out _).mono ?_); rintro e w' ⟨rfl, q, rfl⟩)))
    go_ret
    exact ⟨rfl, _, rfl⟩
set_option maxHeartbeats 16000000 in
theorem rbitmap_4 (h : Sn w b T s) (k : Sok s) {x y A : Int} (hm : modeV s = 4) (hA : pageV s + 240 * y + x = A) (x0 : 0 ≤ x) (x1 : x < 240) (y0 : 0 ≤ y) (y1 : y < 160) :
    Calls Try.prog 25 #[.pointer (some ⟨b, 0, none⟩), .int .i64 x, .int .i64 y] w fun r w' => r = .returned (.int .u16 (if byteV s.vr A = 0 then 32768 else colourV s (byteV s.vr A))) ∧ ∃ q, w' = w.drewN q := by
  have MH := Lib.hid (fun q => rmode_any (h.drewN q) k)
  have M0 := Lib.hid (rmode_any h k)
  rw [hm] at MH M0
  have C := h.ctl
  have CV := h.vram
  unfold Mem.v at CV
  have lt := h.lt
  have gpp : s.ctl / 16 % 2 = 1 ∧ pageV s = 40960 ∨ s.ctl / 16 % 2 = 0 ∧ pageV s = 0 := by
    unfold pageV; split <;> omega
  have A0 : 0 ≤ A := by omega
  have A1 : A ≤ 200000 := by omega
  have OA := Lib.hid (fun q => byte_any (h.vr.drewN q) k.vr A (by omega) (by omega))
  unfold Mem.v at OA
  obtain ⟨v0, v1⟩ := byteV_bd k.vr A
  have CH := Lib.hid (fun q => rcolour_any (h.drewN q) k (byteV s.vr A) (by omega) (by omega))
  have B4 := Lib.hid (fun w => bits_lit (w := w) k.c0 k.c1 4 1 4 1 (s.ctl / 16 % 2) (by decide) (by decide) rfl rfl rfl)
  clear h k hm
  generalize colourV s (byteV s.vr A) = cv at *
  generalize byteV s.vr A = v at *
  generalize s.ctl = c at *
  generalize pageV s = pg at *
  by_cases gk : v = 0
  · rw [if_pos gk]
    subst gk
    clear CH
    rcases gpp with ⟨gp, rfl⟩ | ⟨gp, rfl⟩
    all_goals
      try rw [Int.zero_add] at hA
      go_enter Try.func25, Try.ntmps25
      go_wp2_with (first | (go_at_call 16; ((with_reducible refine (M0.out).mono ?_); rintro e w' ⟨rfl, q, rfl⟩)) | (go_at_call 16; ((with_reducible refine (MH.out _).mono ?_); rintro e w' ⟨rfl, q, rfl⟩)) | (go_at_call 20; ((with_reducible refine (B4.out _).mono ?_); rintro e w' ⟨rfl, q, rfl⟩)) | (go_at_call 33; ((with_reducible refine (OA.out _).mono ?_); rintro e w' ⟨rfl, rfl⟩)))
      go_ret
      exact ⟨rfl, _, rfl⟩
  · rw [if_neg gk]
    have gk' : (v == 0) = false := by simpa using gk
    clear gk
    rcases gpp with ⟨gp, rfl⟩ | ⟨gp, rfl⟩
    all_goals
      try rw [Int.zero_add] at hA
      go_enter Try.func25, Try.ntmps25
      go_wp2_with (first | (go_at_call 16; ((with_reducible refine (M0.out).mono ?_); rintro e w' ⟨rfl, q, rfl⟩)) | (go_at_call 16; ((with_reducible refine (MH.out _).mono ?_); rintro e w' ⟨rfl, q, rfl⟩)) | (go_at_call 20; ((with_reducible refine (B4.out _).mono ?_); rintro e w' ⟨rfl, q, rfl⟩)) | (go_at_call 33; ((with_reducible refine (OA.out _).mono ?_); rintro e w' ⟨rfl, rfl⟩)) | (go_at_call 34; ((with_reducible refine (CH.out _).mono ?_); rintro e w' ⟨rfl, q, rfl⟩)))
      go_ret
      exact ⟨rfl, _, rfl⟩
theorem rbitmap_any (h : Sn w b T s) (k : Sok s) (hm : modeV s = 3 ∨ modeV s = 4 ∨ modeV s = 5) (x y : Int) :
    Calls Try.prog 25 #[.pointer (some ⟨b, 0, none⟩), .int .i64 x, .int .i64 y] w fun r w' => r = .returned (.int .u16 (bitD s x y)) ∧ ∃ q, w' = w.drewN q := by
  unfold bitD
  by_cases m5 : modeV s = 5
  · rw [if_pos m5]
    by_cases ho : x < 0 ∨ y < 0 ∨ 160 ≤ x ∨ 128 ≤ y
    · rw [if_pos ho]
      exact rbitmap_out h k x y 160 128 (.inl ⟨m5, rfl, rfl⟩) ho
    · rw [if_neg ho]
      exact rbitmap_half h k (.inl ⟨m5, rfl, rfl, by omega⟩) (by omega) (by omega) (by omega) (by omega)
  · rw [if_neg m5]
    by_cases ho : x < 0 ∨ y < 0 ∨ 240 ≤ x ∨ 160 ≤ y
    · rw [if_pos ho]
      exact rbitmap_out h k x y 240 160 (.inr ⟨by omega, rfl, rfl⟩) ho
    · rw [if_neg ho]
      by_cases m3 : modeV s = 3
      · rw [if_pos m3]
        exact rbitmap_half h k (.inr ⟨m3, rfl, rfl, by omega⟩) (by omega) (by omega) (by omega) (by omega)
      · rw [if_neg m3]
        exact rbitmap_4 h k (by omega) (by omega) (by omega) (by omega) (by omega) (by omega)
end
end Go.Proofs.Ytbljlnhgllbbdaa.Hd
