/- Package bg, walked: tile, 16 colours. -/
import Derived.Test.YtbljlnhgllbbdaaGt
namespace Go.Proofs.Ytbljlnhgllbbdaa.Gu
set_option linter.unusedVariables false
set_option linter.unusedSimpArgs false
open Go.RowKit Go.Proofs.Ytbljlnhgllbbdaa.Bt Go.Proofs.Ytbljlnhgllbbdaa.Wk Go.Proofs.Ytbljlnhgllbbdaa.Sg Go.Proofs.Ytbljlnhgllbbdaa.Gp Go.Proofs.Ytbljlnhgllbbdaa.Gm Go.Proofs.Ytbljlnhgllbbdaa.Gs Go.Proofs.Ytbljlnhgllbbdaa.Gh Go.Proofs.Ytbljlnhgllbbdaa.Gc Go.Proofs.Ytbljlnhgllbbdaa.Gt

theorem and_mask_u8 {a : Int} (h0 : 0 ≤ a) (h1 : a < 256) (i : Nat) (hi : i ≤ 8) : Go.bits .and .u8 a (2 ^ i - 1) = a % 2 ^ i :=
  bits_mask .u8 8 (by decide) (fun n a b => by rw [IntKind.wrap_u8]; omega) i hi a h0 h1
theorem nib0 {k X : Int} (h : X % 2 = 0) : nibV k X = k % 16 := by unfold nibV; rw [if_pos h]
theorem nib1 {k X : Int} (h : X % 2 = 1) : nibV k X = k / 16 % 16 := by unfold nibV; rw [if_neg (by omega)]
theorem nib_bd (k X : Int) : 0 ≤ nibV k X ∧ nibV k X < 16 := by unfold nibV; split <;> omega
section
variable {w : World} {b : Nat} {T : TypeId} {s : Sc}
set_option maxHeartbeats 16000000 in
theorem tile_few (h : Sn w b T s) (k : Sok s) {base e x y : Int} (hb0 : 0 ≤ base) (hb1 : base ≤ 49152) (e0 : 0 ≤ e) (e1 : e < 65536) (x0 : 0 ≤ x) (x8 : x < 8) (y0 : 0 ≤ y) (y8 : y < 8) :
    Calls Try.prog 28 #[.pointer (some ⟨b, 0, none⟩), .int .i64 base, .int .u16 e, .int .i64 x, .int .i64 y, .bool false] w fun r w' => r = .returned (.int .u16 (tileV s base e x y false)) ∧ ∃ q, w' = w.drewN q := by
  have CV := h.vram
  unfold Mem.v at CV
  have lt := h.lt
  have hv : tileV s base e x y false = tileF s base e (flipV (e / 1024 % 2) x) (flipV (e / 2048 % 2) y) := rfl
  rw [hv]
  clear hv
  have g10 := bit16 e0 e1 1024 (by decide)
  have g11 := bit16 e0 e1 2048 (by decide)
  have gn : Go.bits .and .u16 e 1023 = e % 1024 := by have := and_mask_u16 e0 e1 10 (by decide); simpa using this
  have n0 : 0 ≤ e % 1024 := by omega
  have n1 : e % 1024 < 1024 := by omega
  have BX := flip_bd (b := e / 1024 % 2) x0 x8
  have BY := flip_bd (b := e / 2048 % 2) y0 y8
  obtain ⟨X, hX⟩ : ∃ X, flipV (e / 1024 % 2) x = X := ⟨_, rfl⟩
  obtain ⟨Y, hY⟩ : ∃ Y, flipV (e / 2048 % 2) y = Y := ⟨_, rfl⟩
  rw [hX] at BX
  rw [hY] at BY
  rw [hX, hY]
  unfold tileF
  obtain ⟨X0, X8⟩ := BX
  obtain ⟨Y0, Y8⟩ := BY
  obtain ⟨A, hA⟩ : ∃ A, base + e % 1024 * 32 + Y * 4 + X / 2 = A := ⟨_, rfl⟩
  rw [hA]
  have A0 : 0 ≤ A := by omega
  have A9 : A < 200000 := by omega
  have HB := byteV_bd k.vr A
  have OA := one_any h.vr k.vr A (by omega) (by omega)
  unfold Mem.v at OA
  obtain ⟨N, hN⟩ : ∃ N, nibV (byteV s.vr A) X = N := ⟨_, rfl⟩
  rw [hN]
  have NB := nib_bd (byteV s.vr A) X
  rw [hN] at NB
  obtain ⟨N0, N16⟩ := NB
  have CO := colour_any h k (e / 4096 * 16 + N) (by omega) (by omega)
  clear h k
  generalize colourV s (e / 4096 * 16 + N) = cv at *
  generalize byteV s.vr A = bv at *
  obtain ⟨B0, B1⟩ := HB
  have gX : Go.bits .and .i64 X 1 = X % 2 := by have := and_mask_i64 X 1 (by decide); simpa using this
  have gb0 : Go.bits .and .u8 bv 15 = bv % 16 := by have := and_mask_u8 B0 B1 4 (by decide); simpa using this
  have gb1 : Go.bits .and .u8 (bv / 16) 15 = bv / 16 % 16 := by have := and_mask_u8 (a := bv / 16) (by omega) (by omega) 4 (by decide); simpa using this
  have OH := Lib.hid OA
  have CH := Lib.hid CO
  clear OA CO
  rcases (show X % 2 = 0 ∨ X % 2 = 1 by omega) with gX2 | gX2
  all_goals
   (first | rw [nib0 gX2] at hN | rw [nib1 gX2] at hN)
   rcases (show e / 1024 % 2 = 0 ∨ e / 1024 % 2 = 1 by omega) with gx | gx <;> rcases (show e / 2048 % 2 = 0 ∨ e / 2048 % 2 = 1 by omega) with gy | gy
   all_goals
     (first | (rw [flip0 gx] at hX; subst hX) | rw [flip1 gx] at hX)
     (first | (rw [flip0 gy] at hY; subst hY) | rw [flip1 gy] at hY)
     by_cases ga : 65536 ≤ A
     · rw [if_pos ga]
       go_enter Try.func28, Try.ntmps28
       go_wp2
       go_ret
       exact ⟨rfl, 0, rfl⟩
     · rw [if_neg ga]
       have ga' : A < 65536 := by omega
       clear ga
       by_cases gk : N = 0
       · rw [if_pos gk]
         rw [gk] at hN
         clear CH
         go_enter Try.func28, Try.ntmps28
         go_wp2_with (go_at_call 35; ((with_reducible refine OH.out.mono ?_); rintro e w' ⟨rfl, rfl⟩))
         go_ret
         exact ⟨rfl, 0, rfl⟩
       · rw [if_neg gk]
         have gk' : 0 < N := by omega
         clear gk
         go_enter Try.func28, Try.ntmps28
         go_wp2_with (first | (go_at_call 35; ((with_reducible refine OH.out.mono ?_); rintro e w' ⟨rfl, rfl⟩)) | (go_at_call 36; ((with_reducible refine CH.out.mono ?_); rintro e w' ⟨rfl, q, rfl⟩)))
         go_ret
         exact ⟨rfl, _, rfl⟩
end
end Go.Proofs.Ytbljlnhgllbbdaa.Gu
