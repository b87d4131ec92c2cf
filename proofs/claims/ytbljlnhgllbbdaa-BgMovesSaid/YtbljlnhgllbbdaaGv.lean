/- Package bg, walked: field. -/
import Derived.Test.YtbljlnhgllbbdaaGu
namespace Go.Proofs.Ytbljlnhgllbbdaa.Gv
set_option linter.unusedVariables false
set_option linter.unusedSimpArgs false
open Go.RowKit Go.Proofs.Ytbljlnhgllbbdaa.Bt Go.Proofs.Ytbljlnhgllbbdaa.Wk Go.Proofs.Ytbljlnhgllbbdaa.Sg Go.Proofs.Ytbljlnhgllbbdaa.Gp Go.Proofs.Ytbljlnhgllbbdaa.Gm Go.Proofs.Ytbljlnhgllbbdaa.Gs Go.Proofs.Ytbljlnhgllbbdaa.Gh Go.Proofs.Ytbljlnhgllbbdaa.Gc Go.Proofs.Ytbljlnhgllbbdaa.Gt Go.Proofs.Ytbljlnhgllbbdaa.Gu

/-- A dot inside: z the map's width in tiles. -/
def fieldD (s : Sc) (c z X Y : Int) : Int :=
  if 65536 ≤ c / 4 % 4 * 16384 + byteV s.vr (c / 256 % 32 * 2048 + Y / 8 * z + X / 8) * 64 + Y % 8 * 8 + X % 8 then 32768
  else if byteV s.vr (c / 4 % 4 * 16384 + byteV s.vr (c / 256 % 32 * 2048 + Y / 8 * z + X / 8) * 64 + Y % 8 * 8 + X % 8) = 0 then 32768
  else colourV s (byteV s.vr (c / 4 % 4 * 16384 + byteV s.vr (c / 256 % 32 * 2048 + Y / 8 * z + X / 8) * 64 + Y % 8 * 8 + X % 8))
section
variable {w : World} {b : Nat} {T : TypeId} {s : Sc}
set_option maxRecDepth 100000 in
set_option maxHeartbeats 16000000 in
theorem field_in_128 (h : Sn w b T s) (k : Sok s) {i : Nat} (i4 : i < 4) {x y X Y : Int} (hz : s.bg i / 16384 = 0) (hX : s.bg i / 8192 % 2 = 1 ∧ x % 128 = X ∧ y % 128 = Y ∨ s.bg i / 8192 % 2 = 0 ∧ x = X ∧ y = Y) (X0 : 0 ≤ X) (X1 : X < 128) (Y0 : 0 ≤ Y) (Y1 : Y < 128) :
    Calls Try.prog 29 #[.pointer (some ⟨b, 0, none⟩), .int .i64 i, .int .i64 x, .int .i64 y] w fun r w' => r = .returned (.int .u16 (fieldD s (s.bg i) 16 X Y)) ∧ ∃ q, w' = w.drewN q := by
  have CV := h.vram
  have CB := h.bg i4
  unfold Mem.v at CV
  have lt := h.lt
  obtain ⟨c0, c1⟩ := k.b i i4
  unfold fieldD
  generalize s.bg i = c at *
  have i0 : (0 : Int) ≤ (i : Int) := by omega
  have i4' : (i : Int) < 4 := by omega
  have g13 := bit16 c0 c1 8192 (by decide)
  have gt : Go.bits .and .u16 (c / 4) 3 = c / 4 % 4 := by have := and_mask_u16 (a := c / 4) (by omega) (by omega) 2 (by decide); simpa using this
  have gm : Go.bits .and .u16 (c / 256) 31 = c / 256 % 32 := by have := and_mask_u16 (a := c / 256) (by omega) (by omega) 5 (by decide); simpa using this
  have gx : Go.bits .and .i64 x 127 = x % 128 := by have := and_mask_i64 x 7 (by decide); simpa using this
  have gy : Go.bits .and .i64 y 127 = y % 128 := by have := and_mask_i64 y 7 (by decide); simpa using this
  have t0 : 0 ≤ c / 4 % 4 := by omega
  have t1 : c / 4 % 4 < 4 := by omega
  have m0 : 0 ≤ c / 256 % 32 := by omega
  have m1 : c / 256 % 32 < 32 := by omega
  obtain ⟨A, hA⟩ : ∃ A, c / 256 % 32 * 2048 + Y / 8 * 16 + X / 8 = A := ⟨_, rfl⟩
  rw [hA]
  have A0 : 0 ≤ A := by omega
  have A9 : A < 200000 := by omega
  have OA := one_any h.vr k.vr A (by omega) (by omega)
  have HA := byteV_bd k.vr A
  unfold Mem.v at OA
  generalize byteV s.vr A = n at *
  obtain ⟨n0, n1⟩ := HA
  obtain ⟨D, hD⟩ : ∃ D, c / 4 % 4 * 16384 + n * 64 + Y % 8 * 8 + X % 8 = D := ⟨_, rfl⟩
  rw [hD]
  have D0 : 0 ≤ D := by omega
  have D9 : D < 200000 := by omega
  have HB := byteV_bd k.vr D
  have OD := one_any h.vr k.vr D (by omega) (by omega)
  unfold Mem.v at OD
  have CO := colour_any h k (byteV s.vr D) (by omega) (by omega)
  clear h k
  generalize colourV s (byteV s.vr D) = cv at *
  generalize byteV s.vr D = bv at *
  obtain ⟨B0, B1⟩ := HB
  have OH := Lib.hid OA
  have OK := Lib.hid OD
  have CH := Lib.hid CO
  clear OA OD CO
  rcases hX with ⟨gw, hX, hY⟩ | ⟨gw, rfl, rfl⟩
  all_goals
    by_cases ga : 65536 ≤ D
    · rw [if_pos ga]
      have ga' : decide (65536 ≤ D) = true := decide_eq_true ga
      clear ga CH OK
      go_enter Try.func29, Try.ntmps29
      go_wp2_with (go_at_call 35; ((with_reducible refine OH.out.mono ?_); rintro e w' ⟨rfl, rfl⟩))
      go_ret
      exact ⟨rfl, 0, rfl⟩
    · rw [if_neg ga]
      have ga' : D < 65536 := by omega
      clear ga
      by_cases gk : bv = 0
      · rw [if_pos gk]
        subst gk
        clear CH
        go_enter Try.func29, Try.ntmps29
        go_wp2_with (first | (go_at_call 35; ((with_reducible refine OH.out.mono ?_); rintro e w' ⟨rfl, rfl⟩)) | (go_at_call 35; ((with_reducible refine OK.out.mono ?_); rintro e w' ⟨rfl, rfl⟩)))
        go_ret
        exact ⟨rfl, 0, rfl⟩
      · rw [if_neg gk]
        have gk' : 0 < bv := by omega
        clear gk
        go_enter Try.func29, Try.ntmps29
        go_wp2_with (first | (go_at_call 35; ((with_reducible refine OH.out.mono ?_); rintro e w' ⟨rfl, rfl⟩)) | (go_at_call 35; ((with_reducible refine OK.out.mono ?_); rintro e w' ⟨rfl, rfl⟩)) | (go_at_call 36; ((with_reducible refine CH.out.mono ?_); rintro e w' ⟨rfl, q, rfl⟩)))
        go_ret
        exact ⟨rfl, _, rfl⟩
set_option maxHeartbeats 16000000 in
theorem field_out_128 (h : Sn w b T s) (k : Sok s) {i : Nat} (i4 : i < 4) {x y : Int} (hz : s.bg i / 16384 = 0) (gw : s.bg i / 8192 % 2 = 0) (ho : x < 0 ∨ y < 0 ∨ 128 ≤ x ∨ 128 ≤ y) :
    Calls Try.prog 29 #[.pointer (some ⟨b, 0, none⟩), .int .i64 i, .int .i64 x, .int .i64 y] w fun r w' => r = .returned (.int .u16 32768) ∧ ∃ q, w' = w.drewN q := by
  have CB := h.bg i4
  have lt := h.lt
  obtain ⟨c0, c1⟩ := k.b i i4
  clear h k
  generalize s.bg i = c at *
  have i0 : (0 : Int) ≤ (i : Int) := by omega
  have i4' : (i : Int) < 4 := by omega
  have g13 := bit16 c0 c1 8192 (by decide)
  rcases (show x < 0 ∨ (0 ≤ x ∧ y < 0) ∨ (0 ≤ x ∧ 0 ≤ y ∧ 128 ≤ x) ∨ (0 ≤ x ∧ 0 ≤ y ∧ x < 128 ∧ 128 ≤ y) by omega) with h1 | ⟨h1, h2⟩ | ⟨h1, h2, h3⟩ | ⟨h1, h2, h3, h4⟩
  all_goals
    clear ho
    go_enter Try.func29, Try.ntmps29
    go_wp2
    go_ret
    exact ⟨rfl, 0, rfl⟩
set_option maxRecDepth 100000 in
set_option maxHeartbeats 16000000 in
theorem field_in_256 (h : Sn w b T s) (k : Sok s) {i : Nat} (i4 : i < 4) {x y X Y : Int} (hz : s.bg i / 16384 = 1) (hX : s.bg i / 8192 % 2 = 1 ∧ x % 256 = X ∧ y % 256 = Y ∨ s.bg i / 8192 % 2 = 0 ∧ x = X ∧ y = Y) (X0 : 0 ≤ X) (X1 : X < 256) (Y0 : 0 ≤ Y) (Y1 : Y < 256) :
    Calls Try.prog 29 #[.pointer (some ⟨b, 0, none⟩), .int .i64 i, .int .i64 x, .int .i64 y] w fun r w' => r = .returned (.int .u16 (fieldD s (s.bg i) 32 X Y)) ∧ ∃ q, w' = w.drewN q := by
  have CV := h.vram
  have CB := h.bg i4
  unfold Mem.v at CV
  have lt := h.lt
  obtain ⟨c0, c1⟩ := k.b i i4
  unfold fieldD
  generalize s.bg i = c at *
  have i0 : (0 : Int) ≤ (i : Int) := by omega
  have i4' : (i : Int) < 4 := by omega
  have g13 := bit16 c0 c1 8192 (by decide)
  have gt : Go.bits .and .u16 (c / 4) 3 = c / 4 % 4 := by have := and_mask_u16 (a := c / 4) (by omega) (by omega) 2 (by decide); simpa using this
  have gm : Go.bits .and .u16 (c / 256) 31 = c / 256 % 32 := by have := and_mask_u16 (a := c / 256) (by omega) (by omega) 5 (by decide); simpa using this
  have gx : Go.bits .and .i64 x 255 = x % 256 := by have := and_mask_i64 x 8 (by decide); simpa using this
  have gy : Go.bits .and .i64 y 255 = y % 256 := by have := and_mask_i64 y 8 (by decide); simpa using this
  have t0 : 0 ≤ c / 4 % 4 := by omega
  have t1 : c / 4 % 4 < 4 := by omega
  have m0 : 0 ≤ c / 256 % 32 := by omega
  have m1 : c / 256 % 32 < 32 := by omega
  obtain ⟨A, hA⟩ : ∃ A, c / 256 % 32 * 2048 + Y / 8 * 32 + X / 8 = A := ⟨_, rfl⟩
  rw [hA]
  have A0 : 0 ≤ A := by omega
  have A9 : A < 200000 := by omega
  have OA := one_any h.vr k.vr A (by omega) (by omega)
  have HA := byteV_bd k.vr A
  unfold Mem.v at OA
  generalize byteV s.vr A = n at *
  obtain ⟨n0, n1⟩ := HA
  obtain ⟨D, hD⟩ : ∃ D, c / 4 % 4 * 16384 + n * 64 + Y % 8 * 8 + X % 8 = D := ⟨_, rfl⟩
  rw [hD]
  have D0 : 0 ≤ D := by omega
  have D9 : D < 200000 := by omega
  have HB := byteV_bd k.vr D
  have OD := one_any h.vr k.vr D (by omega) (by omega)
  unfold Mem.v at OD
  have CO := colour_any h k (byteV s.vr D) (by omega) (by omega)
  clear h k
  generalize colourV s (byteV s.vr D) = cv at *
  generalize byteV s.vr D = bv at *
  obtain ⟨B0, B1⟩ := HB
  have OH := Lib.hid OA
  have OK := Lib.hid OD
  have CH := Lib.hid CO
  clear OA OD CO
  rcases hX with ⟨gw, hX, hY⟩ | ⟨gw, rfl, rfl⟩
  all_goals
    by_cases ga : 65536 ≤ D
    · rw [if_pos ga]
      have ga' : decide (65536 ≤ D) = true := decide_eq_true ga
      clear ga CH OK
      go_enter Try.func29, Try.ntmps29
      go_wp2_with (go_at_call 35; ((with_reducible refine OH.out.mono ?_); rintro e w' ⟨rfl, rfl⟩))
      go_ret
      exact ⟨rfl, 0, rfl⟩
    · rw [if_neg ga]
      have ga' : D < 65536 := by omega
      clear ga
      by_cases gk : bv = 0
      · rw [if_pos gk]
        subst gk
        clear CH
        go_enter Try.func29, Try.ntmps29
        go_wp2_with (first | (go_at_call 35; ((with_reducible refine OH.out.mono ?_); rintro e w' ⟨rfl, rfl⟩)) | (go_at_call 35; ((with_reducible refine OK.out.mono ?_); rintro e w' ⟨rfl, rfl⟩)))
        go_ret
        exact ⟨rfl, 0, rfl⟩
      · rw [if_neg gk]
        have gk' : 0 < bv := by omega
        clear gk
        go_enter Try.func29, Try.ntmps29
        go_wp2_with (first | (go_at_call 35; ((with_reducible refine OH.out.mono ?_); rintro e w' ⟨rfl, rfl⟩)) | (go_at_call 35; ((with_reducible refine OK.out.mono ?_); rintro e w' ⟨rfl, rfl⟩)) | (go_at_call 36; ((with_reducible refine CH.out.mono ?_); rintro e w' ⟨rfl, q, rfl⟩)))
        go_ret
        exact ⟨rfl, _, rfl⟩
set_option maxHeartbeats 16000000 in
theorem field_out_256 (h : Sn w b T s) (k : Sok s) {i : Nat} (i4 : i < 4) {x y : Int} (hz : s.bg i / 16384 = 1) (gw : s.bg i / 8192 % 2 = 0) (ho : x < 0 ∨ y < 0 ∨ 256 ≤ x ∨ 256 ≤ y) :
    Calls Try.prog 29 #[.pointer (some ⟨b, 0, none⟩), .int .i64 i, .int .i64 x, .int .i64 y] w fun r w' => r = .returned (.int .u16 32768) ∧ ∃ q, w' = w.drewN q := by
  have CB := h.bg i4
  have lt := h.lt
  obtain ⟨c0, c1⟩ := k.b i i4
  clear h k
  generalize s.bg i = c at *
  have i0 : (0 : Int) ≤ (i : Int) := by omega
  have i4' : (i : Int) < 4 := by omega
  have g13 := bit16 c0 c1 8192 (by decide)
  rcases (show x < 0 ∨ (0 ≤ x ∧ y < 0) ∨ (0 ≤ x ∧ 0 ≤ y ∧ 256 ≤ x) ∨ (0 ≤ x ∧ 0 ≤ y ∧ x < 256 ∧ 256 ≤ y) by omega) with h1 | ⟨h1, h2⟩ | ⟨h1, h2, h3⟩ | ⟨h1, h2, h3, h4⟩
  all_goals
    clear ho
    go_enter Try.func29, Try.ntmps29
    go_wp2
    go_ret
    exact ⟨rfl, 0, rfl⟩
set_option maxRecDepth 100000 in
set_option maxHeartbeats 16000000 in
theorem field_in_512 (h : Sn w b T s) (k : Sok s) {i : Nat} (i4 : i < 4) {x y X Y : Int} (hz : s.bg i / 16384 = 2) (hX : s.bg i / 8192 % 2 = 1 ∧ x % 512 = X ∧ y % 512 = Y ∨ s.bg i / 8192 % 2 = 0 ∧ x = X ∧ y = Y) (X0 : 0 ≤ X) (X1 : X < 512) (Y0 : 0 ≤ Y) (Y1 : Y < 512) :
    Calls Try.prog 29 #[.pointer (some ⟨b, 0, none⟩), .int .i64 i, .int .i64 x, .int .i64 y] w fun r w' => r = .returned (.int .u16 (fieldD s (s.bg i) 64 X Y)) ∧ ∃ q, w' = w.drewN q := by
  have CV := h.vram
  have CB := h.bg i4
  unfold Mem.v at CV
  have lt := h.lt
  obtain ⟨c0, c1⟩ := k.b i i4
  unfold fieldD
  generalize s.bg i = c at *
  have i0 : (0 : Int) ≤ (i : Int) := by omega
  have i4' : (i : Int) < 4 := by omega
  have g13 := bit16 c0 c1 8192 (by decide)
  have gt : Go.bits .and .u16 (c / 4) 3 = c / 4 % 4 := by have := and_mask_u16 (a := c / 4) (by omega) (by omega) 2 (by decide); simpa using this
  have gm : Go.bits .and .u16 (c / 256) 31 = c / 256 % 32 := by have := and_mask_u16 (a := c / 256) (by omega) (by omega) 5 (by decide); simpa using this
  have gx : Go.bits .and .i64 x 511 = x % 512 := by have := and_mask_i64 x 9 (by decide); simpa using this
  have gy : Go.bits .and .i64 y 511 = y % 512 := by have := and_mask_i64 y 9 (by decide); simpa using this
  have t0 : 0 ≤ c / 4 % 4 := by omega
  have t1 : c / 4 % 4 < 4 := by omega
  have m0 : 0 ≤ c / 256 % 32 := by omega
  have m1 : c / 256 % 32 < 32 := by omega
  obtain ⟨A, hA⟩ : ∃ A, c / 256 % 32 * 2048 + Y / 8 * 64 + X / 8 = A := ⟨_, rfl⟩
  rw [hA]
  have A0 : 0 ≤ A := by omega
  have A9 : A < 200000 := by omega
  have OA := one_any h.vr k.vr A (by omega) (by omega)
  have HA := byteV_bd k.vr A
  unfold Mem.v at OA
  generalize byteV s.vr A = n at *
  obtain ⟨n0, n1⟩ := HA
  obtain ⟨D, hD⟩ : ∃ D, c / 4 % 4 * 16384 + n * 64 + Y % 8 * 8 + X % 8 = D := ⟨_, rfl⟩
  rw [hD]
  have D0 : 0 ≤ D := by omega
  have D9 : D < 200000 := by omega
  have HB := byteV_bd k.vr D
  have OD := one_any h.vr k.vr D (by omega) (by omega)
  unfold Mem.v at OD
  have CO := colour_any h k (byteV s.vr D) (by omega) (by omega)
  clear h k
  generalize colourV s (byteV s.vr D) = cv at *
  generalize byteV s.vr D = bv at *
  obtain ⟨B0, B1⟩ := HB
  have OH := Lib.hid OA
  have OK := Lib.hid OD
  have CH := Lib.hid CO
  clear OA OD CO
  rcases hX with ⟨gw, hX, hY⟩ | ⟨gw, rfl, rfl⟩
  all_goals
    by_cases ga : 65536 ≤ D
    · rw [if_pos ga]
      have ga' : decide (65536 ≤ D) = true := decide_eq_true ga
      clear ga CH OK
      go_enter Try.func29, Try.ntmps29
      go_wp2_with (go_at_call 35; ((with_reducible refine OH.out.mono ?_); rintro e w' ⟨rfl, rfl⟩))
      go_ret
      exact ⟨rfl, 0, rfl⟩
    · rw [if_neg ga]
      have ga' : D < 65536 := by omega
      clear ga
      by_cases gk : bv = 0
      · rw [if_pos gk]
        subst gk
        clear CH
        go_enter Try.func29, Try.ntmps29
        go_wp2_with (first | (go_at_call 35; ((with_reducible refine OH.out.mono ?_); rintro e w' ⟨rfl, rfl⟩)) | (go_at_call 35; ((with_reducible refine OK.out.mono ?_); rintro e w' ⟨rfl, rfl⟩)))
        go_ret
        exact ⟨rfl, 0, rfl⟩
      · rw [if_neg gk]
        have gk' : 0 < bv := by omega
        clear gk
        go_enter Try.func29, Try.ntmps29
        go_wp2_with (first | (go_at_call 35; ((with_reducible refine OH.out.mono ?_); rintro e w' ⟨rfl, rfl⟩)) | (go_at_call 35; ((with_reducible refine OK.out.mono ?_); rintro e w' ⟨rfl, rfl⟩)) | (go_at_call 36; ((with_reducible refine CH.out.mono ?_); rintro e w' ⟨rfl, q, rfl⟩)))
        go_ret
        exact ⟨rfl, _, rfl⟩
set_option maxHeartbeats 16000000 in
theorem field_out_512 (h : Sn w b T s) (k : Sok s) {i : Nat} (i4 : i < 4) {x y : Int} (hz : s.bg i / 16384 = 2) (gw : s.bg i / 8192 % 2 = 0) (ho : x < 0 ∨ y < 0 ∨ 512 ≤ x ∨ 512 ≤ y) :
    Calls Try.prog 29 #[.pointer (some ⟨b, 0, none⟩), .int .i64 i, .int .i64 x, .int .i64 y] w fun r w' => r = .returned (.int .u16 32768) ∧ ∃ q, w' = w.drewN q := by
  have CB := h.bg i4
  have lt := h.lt
  obtain ⟨c0, c1⟩ := k.b i i4
  clear h k
  generalize s.bg i = c at *
  have i0 : (0 : Int) ≤ (i : Int) := by omega
  have i4' : (i : Int) < 4 := by omega
  have g13 := bit16 c0 c1 8192 (by decide)
  rcases (show x < 0 ∨ (0 ≤ x ∧ y < 0) ∨ (0 ≤ x ∧ 0 ≤ y ∧ 512 ≤ x) ∨ (0 ≤ x ∧ 0 ≤ y ∧ x < 512 ∧ 512 ≤ y) by omega) with h1 | ⟨h1, h2⟩ | ⟨h1, h2, h3⟩ | ⟨h1, h2, h3, h4⟩
  all_goals
    clear ho
    go_enter Try.func29, Try.ntmps29
    go_wp2
    go_ret
    exact ⟨rfl, 0, rfl⟩
set_option maxRecDepth 100000 in
set_option maxHeartbeats 16000000 in
theorem field_in_1024 (h : Sn w b T s) (k : Sok s) {i : Nat} (i4 : i < 4) {x y X Y : Int} (hz : s.bg i / 16384 = 3) (hX : s.bg i / 8192 % 2 = 1 ∧ x % 1024 = X ∧ y % 1024 = Y ∨ s.bg i / 8192 % 2 = 0 ∧ x = X ∧ y = Y) (X0 : 0 ≤ X) (X1 : X < 1024) (Y0 : 0 ≤ Y) (Y1 : Y < 1024) :
    Calls Try.prog 29 #[.pointer (some ⟨b, 0, none⟩), .int .i64 i, .int .i64 x, .int .i64 y] w fun r w' => r = .returned (.int .u16 (fieldD s (s.bg i) 128 X Y)) ∧ ∃ q, w' = w.drewN q := by
  have CV := h.vram
  have CB := h.bg i4
  unfold Mem.v at CV
  have lt := h.lt
  obtain ⟨c0, c1⟩ := k.b i i4
  unfold fieldD
  generalize s.bg i = c at *
  have i0 : (0 : Int) ≤ (i : Int) := by omega
  have i4' : (i : Int) < 4 := by omega
  have g13 := bit16 c0 c1 8192 (by decide)
  have gt : Go.bits .and .u16 (c / 4) 3 = c / 4 % 4 := by have := and_mask_u16 (a := c / 4) (by omega) (by omega) 2 (by decide); simpa using this
  have gm : Go.bits .and .u16 (c / 256) 31 = c / 256 % 32 := by have := and_mask_u16 (a := c / 256) (by omega) (by omega) 5 (by decide); simpa using this
  have gx : Go.bits .and .i64 x 1023 = x % 1024 := by have := and_mask_i64 x 10 (by decide); simpa using this
  have gy : Go.bits .and .i64 y 1023 = y % 1024 := by have := and_mask_i64 y 10 (by decide); simpa using this
  have t0 : 0 ≤ c / 4 % 4 := by omega
  have t1 : c / 4 % 4 < 4 := by omega
  have m0 : 0 ≤ c / 256 % 32 := by omega
  have m1 : c / 256 % 32 < 32 := by omega
  obtain ⟨A, hA⟩ : ∃ A, c / 256 % 32 * 2048 + Y / 8 * 128 + X / 8 = A := ⟨_, rfl⟩
  rw [hA]
  have A0 : 0 ≤ A := by omega
  have A9 : A < 200000 := by omega
  have OA := one_any h.vr k.vr A (by omega) (by omega)
  have HA := byteV_bd k.vr A
  unfold Mem.v at OA
  generalize byteV s.vr A = n at *
  obtain ⟨n0, n1⟩ := HA
  obtain ⟨D, hD⟩ : ∃ D, c / 4 % 4 * 16384 + n * 64 + Y % 8 * 8 + X % 8 = D := ⟨_, rfl⟩
  rw [hD]
  have D0 : 0 ≤ D := by omega
  have D9 : D < 200000 := by omega
  have HB := byteV_bd k.vr D
  have OD := one_any h.vr k.vr D (by omega) (by omega)
  unfold Mem.v at OD
  have CO := colour_any h k (byteV s.vr D) (by omega) (by omega)
  clear h k
  generalize colourV s (byteV s.vr D) = cv at *
  generalize byteV s.vr D = bv at *
  obtain ⟨B0, B1⟩ := HB
  have OH := Lib.hid OA
  have OK := Lib.hid OD
  have CH := Lib.hid CO
  clear OA OD CO
  rcases hX with ⟨gw, hX, hY⟩ | ⟨gw, rfl, rfl⟩
  all_goals
    by_cases ga : 65536 ≤ D
    · rw [if_pos ga]
      have ga' : decide (65536 ≤ D) = true := decide_eq_true ga
      clear ga CH OK
      go_enter Try.func29, Try.ntmps29
      go_wp2_with (go_at_call 35; ((with_reducible refine OH.out.mono ?_); rintro e w' ⟨rfl, rfl⟩))
      go_ret
      exact ⟨rfl, 0, rfl⟩
    · rw [if_neg ga]
      have ga' : D < 65536 := by omega
      clear ga
      by_cases gk : bv = 0
      · rw [if_pos gk]
        subst gk
        clear CH
        go_enter Try.func29, Try.ntmps29
        go_wp2_with (first | (go_at_call 35; ((with_reducible refine OH.out.mono ?_); rintro e w' ⟨rfl, rfl⟩)) | (go_at_call 35; ((with_reducible refine OK.out.mono ?_); rintro e w' ⟨rfl, rfl⟩)))
        go_ret
        exact ⟨rfl, 0, rfl⟩
      · rw [if_neg gk]
        have gk' : 0 < bv := by omega
        clear gk
        go_enter Try.func29, Try.ntmps29
        go_wp2_with (first | (go_at_call 35; ((with_reducible refine OH.out.mono ?_); rintro e w' ⟨rfl, rfl⟩)) | (go_at_call 35; ((with_reducible refine OK.out.mono ?_); rintro e w' ⟨rfl, rfl⟩)) | (go_at_call 36; ((with_reducible refine CH.out.mono ?_); rintro e w' ⟨rfl, q, rfl⟩)))
        go_ret
        exact ⟨rfl, _, rfl⟩
set_option maxHeartbeats 16000000 in
theorem field_out_1024 (h : Sn w b T s) (k : Sok s) {i : Nat} (i4 : i < 4) {x y : Int} (hz : s.bg i / 16384 = 3) (gw : s.bg i / 8192 % 2 = 0) (ho : x < 0 ∨ y < 0 ∨ 1024 ≤ x ∨ 1024 ≤ y) :
    Calls Try.prog 29 #[.pointer (some ⟨b, 0, none⟩), .int .i64 i, .int .i64 x, .int .i64 y] w fun r w' => r = .returned (.int .u16 32768) ∧ ∃ q, w' = w.drewN q := by
  have CB := h.bg i4
  have lt := h.lt
  obtain ⟨c0, c1⟩ := k.b i i4
  clear h k
  generalize s.bg i = c at *
  have i0 : (0 : Int) ≤ (i : Int) := by omega
  have i4' : (i : Int) < 4 := by omega
  have g13 := bit16 c0 c1 8192 (by decide)
  rcases (show x < 0 ∨ (0 ≤ x ∧ y < 0) ∨ (0 ≤ x ∧ 0 ≤ y ∧ 1024 ≤ x) ∨ (0 ≤ x ∧ 0 ≤ y ∧ x < 1024 ∧ 1024 ≤ y) by omega) with h1 | ⟨h1, h2⟩ | ⟨h1, h2, h3⟩ | ⟨h1, h2, h3, h4⟩
  all_goals
    clear ho
    go_enter Try.func29, Try.ntmps29
    go_wp2
    go_ret
    exact ⟨rfl, 0, rfl⟩
/-- A dot of a turned background. -/
def fieldZ (s : Sc) (c Z x y : Int) : Int :=
  if c / 8192 % 2 = 1 then fieldD s c (Z / 8) (x % Z) (y % Z)
  else if x < 0 ∨ y < 0 ∨ Z ≤ x ∨ Z ≤ y then 32768 else fieldD s c (Z / 8) x y
def fieldV (s : Sc) (i : Nat) (x y : Int) : Int := fieldZ s (s.bg i) (128 * 2 ^ (s.bg i / 16384).toNat) x y
theorem field_z {i : Nat} {x y : Int} (Z z : Int) (hz : (128 * 2 ^ (s.bg i / 16384).toNat : Int) = Z) (hzz : Z / 8 = z) (h0 : 0 < Z)
    (In : ∀ {X Y : Int}, (s.bg i / 8192 % 2 = 1 ∧ x % Z = X ∧ y % Z = Y ∨ s.bg i / 8192 % 2 = 0 ∧ x = X ∧ y = Y) → 0 ≤ X → X < Z → 0 ≤ Y → Y < Z → Calls Try.prog 29 #[.pointer (some ⟨b, 0, none⟩), .int .i64 i, .int .i64 x, .int .i64 y] w fun r w' => r = .returned (.int .u16 (fieldD s (s.bg i) z X Y)) ∧ ∃ q, w' = w.drewN q)
    (Out : s.bg i / 8192 % 2 = 0 → (x < 0 ∨ y < 0 ∨ Z ≤ x ∨ Z ≤ y) → Calls Try.prog 29 #[.pointer (some ⟨b, 0, none⟩), .int .i64 i, .int .i64 x, .int .i64 y] w fun r w' => r = .returned (.int .u16 32768) ∧ ∃ q, w' = w.drewN q) :
    Calls Try.prog 29 #[.pointer (some ⟨b, 0, none⟩), .int .i64 i, .int .i64 x, .int .i64 y] w fun r w' => r = .returned (.int .u16 (fieldV s i x y)) ∧ ∃ q, w' = w.drewN q := by
  unfold fieldV
  rw [hz]
  unfold fieldZ
  rw [hzz]
  by_cases g : s.bg i / 8192 % 2 = 1
  · rw [if_pos g]
    exact In (.inl ⟨g, rfl, rfl⟩) (Int.emod_nonneg _ (by omega)) (Int.emod_lt_of_pos _ h0) (Int.emod_nonneg _ (by omega)) (Int.emod_lt_of_pos _ h0)
  · rw [if_neg g]
    have g' : s.bg i / 8192 % 2 = 0 := by omega
    by_cases ho : x < 0 ∨ y < 0 ∨ Z ≤ x ∨ Z ≤ y
    · rw [if_pos ho]
      exact Out g' ho
    · rw [if_neg ho]
      exact In (.inr ⟨g', rfl, rfl⟩) (by omega) (by omega) (by omega) (by omega)
theorem field_any (h : Sn w b T s) (k : Sok s) {i : Nat} (i4 : i < 4) (x y : Int) :
    Calls Try.prog 29 #[.pointer (some ⟨b, 0, none⟩), .int .i64 i, .int .i64 x, .int .i64 y] w fun r w' => r = .returned (.int .u16 (fieldV s i x y)) ∧ ∃ q, w' = w.drewN q := by
  obtain ⟨c0, c1⟩ := k.b i i4
  rcases (show s.bg i / 16384 = 0 ∨ s.bg i / 16384 = 1 ∨ s.bg i / 16384 = 2 ∨ s.bg i / 16384 = 3 by omega) with hz | hz | hz | hz
  · exact field_z 128 16 (by rw [hz]; decide +kernel) (by decide) (by decide) (fun hx a0 a1 b0 b1 => field_in_128 h k i4 hz hx a0 a1 b0 b1) (fun g ho => field_out_128 h k i4 hz g ho)
  · exact field_z 256 32 (by rw [hz]; decide +kernel) (by decide) (by decide) (fun hx a0 a1 b0 b1 => field_in_256 h k i4 hz hx a0 a1 b0 b1) (fun g ho => field_out_256 h k i4 hz g ho)
  · exact field_z 512 64 (by rw [hz]; decide +kernel) (by decide) (by decide) (fun hx a0 a1 b0 b1 => field_in_512 h k i4 hz hx a0 a1 b0 b1) (fun g ho => field_out_512 h k i4 hz g ho)
  · exact field_z 1024 128 (by rw [hz]; decide +kernel) (by decide) (by decide) (fun hx a0 a1 b0 b1 => field_in_1024 h k i4 hz hx a0 a1 b0 b1) (fun g ho => field_out_1024 h k i4 hz g ho)
end
end Go.Proofs.Ytbljlnhgllbbdaa.Gv
