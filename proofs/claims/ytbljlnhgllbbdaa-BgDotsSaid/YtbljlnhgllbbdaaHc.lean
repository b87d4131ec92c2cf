/- The document's backgrounds, walked: text. -/
import Derived.Test.YtbljlnhgllbbdaaHb
import Derived.Test.YtbljlnhgllbbdaaGx
namespace Go.Proofs.Ytbljlnhgllbbdaa.Hc
set_option linter.unusedVariables false
set_option linter.unusedSimpArgs false
open Go.RowKit Go.Proofs.Ytbljlnhgllbbdaa.Bt Go.Proofs.Ytbljlnhgllbbdaa.Wk Go.Proofs.Ytbljlnhgllbbdaa.Sg Go.Proofs.Ytbljlnhgllbbdaa.Gp Go.Proofs.Ytbljlnhgllbbdaa.Gm Go.Proofs.Ytbljlnhgllbbdaa.Gs Go.Proofs.Ytbljlnhgllbbdaa.Gh Go.Proofs.Ytbljlnhgllbbdaa.Gt Go.Proofs.Ytbljlnhgllbbdaa.Gx Go.Proofs.Ytbljlnhgllbbdaa.Ha Go.Proofs.Ytbljlnhgllbbdaa.Hb

theorem entry_at {c A y W M : Int} (A0 : 0 ≤ A) (A1 : A < 512) (y0 : 0 ≤ y) (y1 : y < 512) (hW : wideV c = W) (hM : c / 256 % 32 = M) (w0 : W = 256 ∨ W = 512) :
    rowV c y + A / 8 / 32 * 2048 + A / 8 % 32 * 2 = 2048 * M + 2048 * (A / 256 + y / 256 * (W / 256)) + 2 * (A % 256 / 8) + 64 * (y % 256 / 8) := by
  unfold rowV
  rw [hW, hM]
  by_cases g : 256 ≤ y
  · rw [if_pos g]
    have : y / 256 = 1 := by omega
    rw [this]
    rcases w0 with rfl | rfl <;> omega
  · rw [if_neg g]
    have : y / 256 = 0 := by omega
    rw [this]
    rcases w0 with rfl | rfl <;> omega
theorem drew3 (w : World) (a b c : Nat) : ((w.drewN a).drewN b).drewN c = w.drewN (a + b + c) := by rw [World.drewN_drewN, World.drewN_drewN, Nat.add_assoc]
theorem tile_texM (s : Sc) (base e x y : Int) : tileV s base e x y true = texM s (base + 64 * (e % 1024) + (8 * flipV (e / 2048 % 2) y + flipV (e / 1024 % 2) x)) := by
  show tileM s base e _ _ = _
  unfold tileM texM
  have : base + e % 1024 * 64 + flipV (e / 2048 % 2) y * 8 + flipV (e / 1024 % 2) x = base + 64 * (e % 1024) + (8 * flipV (e / 2048 % 2) y + flipV (e / 1024 % 2) x) := by omega
  rw [this]
theorem tile_texF (s : Sc) (base e x y : Int) : tileV s base e x y false = texF s (base + 32 * (e % 1024) + (4 * flipV (e / 2048 % 2) y + flipV (e / 1024 % 2) x / 2)) (flipV (e / 1024 % 2) x) (e / 4096) := by
  show tileF s base e _ _ = _
  unfold tileF texF
  have : base + e % 1024 * 32 + flipV (e / 2048 % 2) y * 4 + flipV (e / 1024 % 2) x / 2 = base + 32 * (e % 1024) + (4 * flipV (e / 2048 % 2) y + flipV (e / 1024 % 2) x / 2) := by omega
  rw [this, Int.mul_comm 16]
section
variable {w : World} {b : Nat} {T : TypeId} {s : Sc}
set_option maxRecDepth 100000 in
set_option maxHeartbeats 16000000 in
theorem rtext_any (h : Sn w b T s) (k : Sok s) {i : Nat} (i4 : i < 4) {x line A y : Int} (x0 : 0 ≤ x) (x1 : x < 240) (l0 : 0 ≤ line) (l1 : line < 160)
    (hA : (x + s.xs i % 512) % wideV (s.bg i) = A) (hy : (line + s.ys i % 512) % highV (s.bg i) = y) :
    Calls Try.prog 22 #[.pointer (some ⟨b, 0, none⟩), .int .i64 i, .int .i64 x, .int .i64 line] w fun r w' => r = .returned (.int .u16 (tileV s (s.bg i / 4 % 4 * 16384) (entryV s (rowV (s.bg i) y) (A / 8)) (A % 8) (y % 8) (s.bg i / 128 % 2 == 1))) ∧ ∃ q, w' = w.drewN q := by
  have CB := h.bg i4
  have CX := h.xs i4
  have CY := h.ys i4
  have CV := h.vram
  unfold Mem.v at CV
  have lt := h.lt
  obtain ⟨c0, c1⟩ := k.b i i4
  obtain ⟨b0, b1⟩ := k.x i i4
  obtain ⟨d0, d1⟩ := k.y i i4
  have wc : wideV (s.bg i) = 256 ∨ wideV (s.bg i) = 512 := by unfold wideV; omega
  have hc : highV (s.bg i) = 256 ∨ highV (s.bg i) = 512 := by unfold highV; omega
  have A0 : 0 ≤ A := by rw [← hA]; exact Int.emod_nonneg _ (by omega)
  have A1 : A < 512 := by rw [← hA]; have := Int.emod_lt_of_pos (x + s.xs i % 512) (show 0 < wideV (s.bg i) by omega); omega
  have y0 : 0 ≤ y := by rw [← hy]; exact Int.emod_nonneg _ (by omega)
  have y1 : y < 512 := by rw [← hy]; have := Int.emod_lt_of_pos (line + s.ys i % 512) (show 0 < highV (s.bg i) by omega); omega
  have EA := entry_at A0 A1 y0 y1 rfl rfl wc
  obtain ⟨P, hP⟩ : ∃ P, 2048 * (s.bg i / 256 % 32) + 2048 * (A / 256 + y / 256 * (wideV (s.bg i) / 256)) + 2 * (A % 256 / 8) + 64 * (y % 256 / 8) = P := ⟨_, rfl⟩
  have EE : entryV s (rowV (s.bg i) y) (A / 8) = halfV s.vr P := by unfold entryV; rw [EA, hP]
  rw [EE]
  have zb : 0 ≤ y / 256 * (wideV (s.bg i) / 256) ∧ y / 256 * (wideV (s.bg i) / 256) ≤ 2 := by
    have : y / 256 = 0 ∨ y / 256 = 1 := by omega
    rcases this with g | g <;> rw [g] <;> omega
  obtain ⟨z, hz⟩ : ∃ z, y / 256 * (wideV (s.bg i) / 256) = z := ⟨_, rfl⟩
  rw [hz] at hP zb
  have HF := Lib.hid (fun q => rhalf_any (h.vr.drewN q) k.vr P (by omega) (by omega))
  unfold Mem.v at HF
  have EB := halfV_bd k.vr P
  have B14 := Lib.hid (fun w => bits_lit (w := w) c0 c1 14 1 14 1 (s.bg i / 16384 % 2) (by decide) (by decide) rfl rfl rfl)
  have B15 := Lib.hid (fun w => bits_lit (w := w) c0 c1 15 1 15 1 (s.bg i / 32768) (by decide) (by decide) rfl rfl (by omega))
  have B8 := Lib.hid (fun w => bits_lit (w := w) c0 c1 8 5 8 5 (s.bg i / 256 % 32) (by decide) (by decide) rfl rfl rfl)
  have B7 := Lib.hid (fun w => bits_lit (w := w) c0 c1 7 1 7 1 (s.bg i / 128 % 2) (by decide) (by decide) rfl rfl rfl)
  have B2 := Lib.hid (fun w => bits_lit (w := w) c0 c1 2 2 2 2 (s.bg i / 4 % 4) (by decide) (by decide) rfl rfl rfl)
  have TM := Lib.hid (fun w (h : Sn w b T s) => @texel_many w b T s h k)
  have TF := Lib.hid (fun w (h : Sn w b T s) => @texel_few w b T s h k)
  have SH := Lib.hid h
  clear EE EA h k
  have WV : wideV (s.bg i) = 256 * (1 + s.bg i / 16384 % 2) := rfl
  have HV : highV (s.bg i) = 256 * (1 + s.bg i / 32768) := rfl
  generalize halfV s.vr P = E at *
  generalize s.xs i = X at *
  generalize s.ys i = Y at *
  generalize s.bg i = c at *
  generalize wideV c = W at *
  generalize highV c = H at *
  obtain ⟨E0, E1⟩ := EB
  obtain ⟨z0, z1⟩ := zb
  have i0 : (0 : Int) ≤ (i : Int) := by omega
  have i4' : (i : Int) < 4 := by omega
  have j0 : 0 ≤ c / 16384 % 2 := by omega
  have j1 : c / 16384 % 2 < 2 := by omega
  have j2 : 0 ≤ c / 32768 := by omega
  have j3 : c / 32768 < 2 := by omega
  have j4 : 0 ≤ c / 4 % 4 := by omega
  have j5 : c / 4 % 4 < 4 := by omega
  have j6 : 0 ≤ c / 256 % 32 := by omega
  have j7 : c / 256 % 32 < 32 := by omega
  have X0 : 0 ≤ X % 512 := by omega
  have X1 : X % 512 < 512 := by omega
  have Y0 : 0 ≤ Y % 512 := by omega
  have Y1 : Y % 512 < 512 := by omega
  have w0 : 0 < W := by omega
  have w1 : W ≤ 512 := by omega
  have h0 : 0 < H := by omega
  have h1 : H ≤ 512 := by omega
  have WV' : 256 * (1 + c / 16384 % 2) = W := WV.symm
  have HV' : 256 * (1 + c / 32768) = H := HV.symm
  clear WV HV wc hc
  go_enter Try.func22, Try.ntmps22
  go_wp2_with (first | (go_at_call 20; ((with_reducible refine (B14.out _).mono ?_); rintro e w' ⟨rfl, q, rfl⟩)) | (go_at_call 20; ((with_reducible refine (B15.out _).mono ?_); rintro e w' ⟨rfl, q, rfl⟩)))
  rw [hA, hy]
  have HA := Lib.hid hA
  have HY := Lib.hid hy
  clear hA hy
  have t1 : Int.tmod A 256 = A % 256 := Int.tmod_eq_emod_of_nonneg A0
  have t2 : Int.tmod y 256 = y % 256 := Int.tmod_eq_emod_of_nonneg y0
  have t3 : Int.tdiv (A % 256) 8 = A % 256 / 8 := Int.tdiv_eq_ediv_of_nonneg (by omega)
  have t4 : Int.tdiv (y % 256) 8 = y % 256 / 8 := Int.tdiv_eq_ediv_of_nonneg (by omega)
  have s1 : IntKind.i64.wrap (2048 * (c / 256 % 32)) = 2048 * (c / 256 % 32) := i64_in (by omega) (by omega)
  have s2 : IntKind.i64.wrap (2048 * (A / 256 + z)) = 2048 * (A / 256 + z) := i64_in (by omega) (by omega)
  have s3 : IntKind.i64.wrap (2048 * (c / 256 % 32) + 2048 * (A / 256 + z)) = 2048 * (c / 256 % 32) + 2048 * (A / 256 + z) := i64_in (by omega) (by omega)
  have s4 : IntKind.i64.wrap (2 * (A % 256 / 8)) = 2 * (A % 256 / 8) := i64_in (by omega) (by omega)
  have s5 : IntKind.i64.wrap (2048 * (c / 256 % 32) + 2048 * (A / 256 + z) + 2 * (A % 256 / 8)) = 2048 * (c / 256 % 32) + 2048 * (A / 256 + z) + 2 * (A % 256 / 8) := i64_in (by omega) (by omega)
  have s6 : IntKind.i64.wrap (64 * (y % 256 / 8)) = 64 * (y % 256 / 8) := i64_in (by omega) (by omega)
  have s7 : IntKind.i64.wrap (2048 * (c / 256 % 32) + 2048 * (A / 256 + z) + 2 * (A % 256 / 8) + 64 * (y % 256 / 8)) = P := by rw [← hP]; exact i64_in (by omega) (by omega)
  have HP := Lib.hid hP
  clear hP
  generalize hw5 : w.drewN (_ + _) = w5 at *
  have S5 : Sn w5 b T s := by rw [← hw5]; exact SH.out.drewN _
  have HW5 := Lib.hid hw5
  have HF5 : Hid (∀ q, Calls Try.prog 31 #[.slice s.vr.A s.vr.n s.vr.cap, .int .i64 P] (w5.drewN q) fun e w' => e = .returned (.int .i64 E) ∧ ∃ n, w' = (w5.drewN q).drewN n) := by
    refine Lib.hid fun q => ?_
    rw [← hw5, World.drewN_drewN]
    exact HF.out _
  have CV := S5.vram
  unfold Mem.v at CV
  have lt := S5.lt
  have SH5 := Lib.hid S5
  clear hw5 S5 HF CB CX CY SH
  go_quiet ((first | (go_at_call 20; exact Calls.quiet_of (B8.out _)) | (go_at_call 31; exact Calls.quiet_of (HF5.out _))))
  clear t1 t2 t3 t4 s1 s2 s3 s4 s5 s6 s7
  have u0 : 0 ≤ A % 8 := by omega
  have u1 : A % 8 < 8 := by omega
  have v0 : 0 ≤ y % 8 := by omega
  have v1 : y % 8 < 8 := by omega
  have S6 := SH5.out.drewN nq
  have HW6 : Hid (∀ n, ∃ q, (w5.drewN nq).drewN n = w.drewN q) := by
    exact Lib.hid fun n => ⟨_, by rw [← HW5.out]; exact drew3 _ _ _ _⟩
  generalize w5.drewN nq = w6 at *
  have SH6 := Lib.hid S6
  clear S6 CV lt SH5 HW5 HF5
  have lt := SH6.out.lt
  have BX := flip_bd (b := E / 1024 % 2) u0 u1
  have BY := flip_bd (b := E / 2048 % 2) v0 v1
  have e0 : 0 ≤ E % 1024 := by omega
  have e1 : E % 1024 < 1024 := by omega
  have k0 : 0 ≤ E / 4096 := by omega
  have k1 : E / 4096 < 16 := by omega
  have QM := tile_texM s (c / 4 % 4 * 16384) E (A % 8) (y % 8)
  have QF := tile_texF s (c / 4 % 4 * 16384) E (A % 8) (y % 8)
  obtain ⟨fx, hfx⟩ : ∃ z, flipV (E / 1024 % 2) (A % 8) = z := ⟨_, rfl⟩
  obtain ⟨fy, hfy⟩ : ∃ z, flipV (E / 2048 % 2) (y % 8) = z := ⟨_, rfl⟩
  rw [hfx, hfy] at QM QF
  rw [hfx] at BX
  rw [hfy] at BY
  have TM5 := Lib.hid (fun q => TM.out _ (SH6.out.drewN q) (a := 16384 * (c / 4 % 4) + 64 * (E % 1024)) (x := fx) (y := fy) (pal := E / 4096) rfl (by omega) (by omega) BX.1 BX.2 BY.1 BY.2)
  have TF5 := Lib.hid (fun q => TF.out _ (SH6.out.drewN q) (a := 16384 * (c / 4 % 4) + 32 * (E % 1024)) (x := fx) (y := fy) (pal := E / 4096) rfl (by omega) (by omega) BX.1 BX.2 BY.1 BY.2 k0 k1)
  have QMH : Hid (tileV s (c / 4 % 4 * 16384) E (A % 8) (y % 8) true = texM s (16384 * (c / 4 % 4) + 64 * (E % 1024) + (8 * fy + fx))) := Lib.hid (QM.trans (by rw [Int.mul_comm (c / 4 % 4)]))
  have QFH : Hid (tileV s (c / 4 % 4 * 16384) E (A % 8) (y % 8) false = texF s (16384 * (c / 4 % 4) + 32 * (E % 1024) + (4 * fy + fx / 2)) fx (E / 4096)) := Lib.hid (QF.trans (by rw [Int.mul_comm (c / 4 % 4)]))
  clear QM QF BX BY TM TF
  have gmc : (c / 128 % 2 = 0 ∧ Hid ((c / 128 % 2 == 1) = false)) ∨ (c / 128 % 2 = 1 ∧ Hid ((c / 128 % 2 == 1) = true)) := by
    rcases (show c / 128 % 2 = 0 ∨ c / 128 % 2 = 1 by omega) with g | g
    · exact .inl ⟨g, Lib.hid (by rw [g]; rfl)⟩
    · exact .inr ⟨g, Lib.hid (by rw [g]; rfl)⟩
  rcases gmc with ⟨gm, GM⟩ | ⟨gm, GM⟩ <;> rcases (show E / 1024 % 2 = 0 ∨ E / 1024 % 2 = 1 by omega) with gx | gx <;> rcases (show E / 2048 % 2 = 0 ∨ E / 2048 % 2 = 1 by omega) with gy | gy
  all_goals
    (first | rw [flip0 gx] at hfx | rw [flip1 gx] at hfx)
    (first | rw [flip0 gy] at hfy | rw [flip1 gy] at hfy)
    subst hfx hfy
    go_wp2_with (first | (go_at_call 20; ((with_reducible refine (B7.out _).mono ?_); rintro e w' ⟨rfl, q, rfl⟩)) | (go_at_call 20; ((with_reducible refine (B2.out _).mono ?_); rintro e w' ⟨rfl, q, rfl⟩)) | (go_at_call 32; ((with_reducible refine (TM5.out _).mono ?_); rintro e w' ⟨rfl, q, rfl⟩)) | (go_at_call 32; ((with_reducible refine (TF5.out _).mono ?_); rintro e w' ⟨rfl, q, rfl⟩)))
    go_ret
    refine ⟨?_, HW6.out _⟩
    rw [GM.out]
    (first | (rw [QMH.out]; rfl) | (rw [QFH.out]; rfl))
end
end Go.Proofs.Ytbljlnhgllbbdaa.Hc
