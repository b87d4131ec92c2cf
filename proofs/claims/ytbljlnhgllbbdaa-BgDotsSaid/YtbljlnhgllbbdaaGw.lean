/- Package bg, walked: bitmap. -/
import Derived.Test.YtbljlnhgllbbdaaGu
namespace Go.Proofs.Ytbljlnhgllbbdaa.Gw
set_option linter.unusedVariables false
set_option linter.unusedSimpArgs false
open Go.RowKit Go.Proofs.Ytbljlnhgllbbdaa.Bt Go.Proofs.Ytbljlnhgllbbdaa.Wk Go.Proofs.Ytbljlnhgllbbdaa.Sg Go.Proofs.Ytbljlnhgllbbdaa.Gp Go.Proofs.Ytbljlnhgllbbdaa.Gm Go.Proofs.Ytbljlnhgllbbdaa.Gs Go.Proofs.Ytbljlnhgllbbdaa.Gh Go.Proofs.Ytbljlnhgllbbdaa.Gc Go.Proofs.Ytbljlnhgllbbdaa.Gt Go.Proofs.Ytbljlnhgllbbdaa.Gu

def pageV (s : Sc) : Int := if s.ctl / 16 % 2 = 1 then 40960 else 0
/-- A dot of a bitmap. -/
def bitD (s : Sc) (x y : Int) : Int :=
  if modeV s = 5 then (if x < 0 ∨ y < 0 ∨ 160 ≤ x ∨ 128 ≤ y then 32768 else halfV s.vr (pageV s + 2 * (y * 160 + x)) % 32768)
  else if x < 0 ∨ y < 0 ∨ 240 ≤ x ∨ 160 ≤ y then 32768
  else if modeV s = 3 then halfV s.vr (2 * (y * 240 + x)) % 32768
  else if byteV s.vr (pageV s + y * 240 + x) = 0 then 32768 else colourV s (byteV s.vr (pageV s + y * 240 + x))
section
variable {w : World} {b : Nat} {T : TypeId} {s : Sc}
set_option maxHeartbeats 4000000 in
theorem bitmap_out (h : Sn w b T s) (k : Sok s) (i x y wd hg : Int) (hw : (modeV s == 5) = true ∧ wd = 160 ∧ hg = 128 ∨ (modeV s == 5) = false ∧ wd = 240 ∧ hg = 160) (ho : x < 0 ∨ y < 0 ∨ wd ≤ x ∨ hg ≤ y) :
    Calls Try.prog 30 #[.pointer (some ⟨b, 0, none⟩), .int .i64 i, .int .i64 x, .int .i64 y] w fun r w' => r = .returned (.int .u16 32768) ∧ ∃ q, w' = w.drewN q := by
  have M := mode_any h k
  clear h k
  generalize modeV s = m at *
  have MH := Lib.hid M
  clear M
  rcases (show x < 0 ∨ (0 ≤ x ∧ y < 0) ∨ (0 ≤ x ∧ 0 ≤ y ∧ wd ≤ x) ∨ (0 ≤ x ∧ 0 ≤ y ∧ x < wd ∧ hg ≤ y) by omega) with h1 | ⟨h1, h2⟩ | ⟨h1, h2, h3⟩ | ⟨h1, h2, h3, h4⟩ <;> rcases hw with ⟨g, rfl, rfl⟩ | ⟨g, rfl, rfl⟩
  all_goals
    clear ho
    go_enter Try.func30, Try.ntmps30
    go_wp2_with (go_at_call 15; ((with_reducible refine MH.out.mono ?_); rintro e w' ⟨rfl, rfl⟩))
    go_ret
    exact ⟨rfl, 0, rfl⟩
set_option maxHeartbeats 4000000 in
theorem bitmap_3 (h : Sn w b T s) (k : Sok s) (i : Int) {x y : Int} (hm : modeV s = 3) (x0 : 0 ≤ x) (x1 : x < 240) (y0 : 0 ≤ y) (y1 : y < 160) :
    Calls Try.prog 30 #[.pointer (some ⟨b, 0, none⟩), .int .i64 i, .int .i64 x, .int .i64 y] w fun r w' => r = .returned (.int .u16 (halfV s.vr (2 * (y * 240 + x)) % 32768)) ∧ ∃ q, w' = w.drewN q := by
  have MH := Lib.hid (mode_any h k)
  rw [hm] at MH
  have C := h.ctl
  have CV := h.vram
  unfold Mem.v at CV
  have c0 := k.c0
  have c1 := k.c1
  obtain ⟨A, hA⟩ : ∃ A, 2 * (y * 240 + x) = A := ⟨_, rfl⟩
  rw [hA]
  have HH := half_any h.vr k.vr A (by omega) (by omega)
  unfold Mem.v at HH
  obtain ⟨v0, v1⟩ := halfV_bd k.vr A
  have lt := h.lt
  clear h k hm
  generalize halfV s.vr A = v at *
  generalize s.ctl = c at *
  have ga : Go.bits .and .u16 v 32767 = v % 32768 := by have := and_mask_u16 v0 v1 15 (by decide); simpa using this
  have g4 := bit16 c0 c1 16 (by decide)
  have HK := Lib.hid HH
  clear HH
  rcases (show c / 16 % 2 = 0 ∨ c / 16 % 2 = 1 by omega) with gp | gp
  all_goals
    go_enter Try.func30, Try.ntmps30
    go_wp2_with (first | (go_at_call 15; ((with_reducible refine MH.out.mono ?_); rintro e w' ⟨rfl, rfl⟩)) | (go_at_call 27; ((with_reducible refine HK.out.mono ?_); rintro e w' ⟨rfl, q, rfl⟩)))
    go_ret
    exact ⟨rfl, _, rfl⟩
set_option maxHeartbeats 4000000 in
theorem bitmap_5 (h : Sn w b T s) (k : Sok s) (i : Int) {x y : Int} (hm : modeV s = 5) (x0 : 0 ≤ x) (x1 : x < 160) (y0 : 0 ≤ y) (y1 : y < 128) :
    Calls Try.prog 30 #[.pointer (some ⟨b, 0, none⟩), .int .i64 i, .int .i64 x, .int .i64 y] w fun r w' => r = .returned (.int .u16 (halfV s.vr (pageV s + 2 * (y * 160 + x)) % 32768)) ∧ ∃ q, w' = w.drewN q := by
  have MH := Lib.hid (mode_any h k)
  rw [hm] at MH
  have C := h.ctl
  have CV := h.vram
  unfold Mem.v at CV
  have c0 := k.c0
  have c1 := k.c1
  have gpp : s.ctl / 16 % 2 = 1 ∧ pageV s = 40960 ∨ s.ctl / 16 % 2 = 0 ∧ pageV s = 0 := by
    unfold pageV; split <;> omega
  obtain ⟨A, hA⟩ : ∃ A, pageV s + 2 * (y * 160 + x) = A := ⟨_, rfl⟩
  rw [hA]
  have HH := half_any h.vr k.vr A (by omega) (by omega)
  unfold Mem.v at HH
  obtain ⟨v0, v1⟩ := halfV_bd k.vr A
  have lt := h.lt
  clear h k hm
  generalize halfV s.vr A = v at *
  generalize s.ctl = c at *
  generalize pageV s = pg at *
  have ga : Go.bits .and .u16 v 32767 = v % 32768 := by have := and_mask_u16 v0 v1 15 (by decide); simpa using this
  have g4 := bit16 c0 c1 16 (by decide)
  have HK := Lib.hid HH
  clear HH
  rcases gpp with ⟨gp, rfl⟩ | ⟨gp, rfl⟩
  · go_enter Try.func30, Try.ntmps30
    go_wp2_with (first | (go_at_call 15; ((with_reducible refine MH.out.mono ?_); rintro e w' ⟨rfl, rfl⟩)) | (go_at_call 27; ((with_reducible refine HK.out.mono ?_); rintro e w' ⟨rfl, q, rfl⟩)))
    go_ret
    exact ⟨rfl, _, rfl⟩
  · rw [Int.zero_add] at hA
    go_enter Try.func30, Try.ntmps30
    go_wp2_with (first | (go_at_call 15; ((with_reducible refine MH.out.mono ?_); rintro e w' ⟨rfl, rfl⟩)) | (go_at_call 27; ((with_reducible refine HK.out.mono ?_); rintro e w' ⟨rfl, q, rfl⟩)))
    go_ret
    exact ⟨rfl, _, rfl⟩
set_option maxHeartbeats 8000000 in
theorem bitmap_4 (h : Sn w b T s) (k : Sok s) (i : Int) {x y : Int} (hm3 : (modeV s == 3) = false) (hm5 : (modeV s == 5) = false) (x0 : 0 ≤ x) (x1 : x < 240) (y0 : 0 ≤ y) (y1 : y < 160) :
    Calls Try.prog 30 #[.pointer (some ⟨b, 0, none⟩), .int .i64 i, .int .i64 x, .int .i64 y] w fun r w' => r = .returned (.int .u16 (if byteV s.vr (pageV s + y * 240 + x) = 0 then 32768 else colourV s (byteV s.vr (pageV s + y * 240 + x)))) ∧ ∃ q, w' = w.drewN q := by
  have MH := Lib.hid (mode_any h k)
  generalize modeV s = m at *
  have C := h.ctl
  have CV := h.vram
  unfold Mem.v at CV
  have c0 := k.c0
  have c1 := k.c1
  have gpp : s.ctl / 16 % 2 = 1 ∧ pageV s = 40960 ∨ s.ctl / 16 % 2 = 0 ∧ pageV s = 0 := by
    unfold pageV; split <;> omega
  obtain ⟨A, hA⟩ : ∃ A, pageV s + y * 240 + x = A := ⟨_, rfl⟩
  rw [hA]
  have OD := one_any h.vr k.vr A (by omega) (by omega)
  have HB := byteV_bd k.vr A
  have CO := colour_any h k (byteV s.vr A) (by omega) (by omega)
  unfold Mem.v at OD
  have lt := h.lt
  clear h k
  generalize colourV s (byteV s.vr A) = cv at *
  generalize byteV s.vr A = bv at *
  generalize s.ctl = c at *
  generalize pageV s = pg at *
  obtain ⟨B0, B1⟩ := HB
  have g4 := bit16 c0 c1 16 (by decide)
  have OK := Lib.hid OD
  have CH := Lib.hid CO
  clear OD CO
  by_cases gk : bv = 0
  · rw [if_pos gk]
    subst gk
    clear CH
    rcases gpp with ⟨gp, rfl⟩ | ⟨gp, rfl⟩
    · go_enter Try.func30, Try.ntmps30
      go_wp2_with (first | (go_at_call 15; ((with_reducible refine MH.out.mono ?_); rintro e w' ⟨rfl, rfl⟩)) | (go_at_call 35; ((with_reducible refine OK.out.mono ?_); rintro e w' ⟨rfl, rfl⟩)))
      go_ret
      exact ⟨rfl, 0, rfl⟩
    · rw [Int.zero_add] at hA
      go_enter Try.func30, Try.ntmps30
      go_wp2_with (first | (go_at_call 15; ((with_reducible refine MH.out.mono ?_); rintro e w' ⟨rfl, rfl⟩)) | (go_at_call 35; ((with_reducible refine OK.out.mono ?_); rintro e w' ⟨rfl, rfl⟩)))
      go_ret
      exact ⟨rfl, 0, rfl⟩
  · rw [if_neg gk]
    have gk' : 0 < bv := by omega
    clear gk
    rcases gpp with ⟨gp, rfl⟩ | ⟨gp, rfl⟩
    · go_enter Try.func30, Try.ntmps30
      go_wp2_with (first | (go_at_call 15; ((with_reducible refine MH.out.mono ?_); rintro e w' ⟨rfl, rfl⟩)) | (go_at_call 35; ((with_reducible refine OK.out.mono ?_); rintro e w' ⟨rfl, rfl⟩)) | (go_at_call 36; ((with_reducible refine CH.out.mono ?_); rintro e w' ⟨rfl, q, rfl⟩)))
      go_ret
      exact ⟨rfl, _, rfl⟩
    · rw [Int.zero_add] at hA
      go_enter Try.func30, Try.ntmps30
      go_wp2_with (first | (go_at_call 15; ((with_reducible refine MH.out.mono ?_); rintro e w' ⟨rfl, rfl⟩)) | (go_at_call 35; ((with_reducible refine OK.out.mono ?_); rintro e w' ⟨rfl, rfl⟩)) | (go_at_call 36; ((with_reducible refine CH.out.mono ?_); rintro e w' ⟨rfl, q, rfl⟩)))
      go_ret
      exact ⟨rfl, _, rfl⟩
theorem bitmap_any (h : Sn w b T s) (k : Sok s) (i x y : Int) :
    Calls Try.prog 30 #[.pointer (some ⟨b, 0, none⟩), .int .i64 i, .int .i64 x, .int .i64 y] w fun r w' => r = .returned (.int .u16 (bitD s x y)) ∧ ∃ q, w' = w.drewN q := by
  unfold bitD
  by_cases m5 : modeV s = 5
  · rw [if_pos m5]
    by_cases ho : x < 0 ∨ y < 0 ∨ 160 ≤ x ∨ 128 ≤ y
    · rw [if_pos ho]
      exact bitmap_out h k i x y 160 128 (.inl ⟨by simpa using m5, rfl, rfl⟩) ho
    · rw [if_neg ho]
      exact bitmap_5 h k i m5 (by omega) (by omega) (by omega) (by omega)
  · rw [if_neg m5]
    by_cases ho : x < 0 ∨ y < 0 ∨ 240 ≤ x ∨ 160 ≤ y
    · rw [if_pos ho]
      exact bitmap_out h k i x y 240 160 (.inr ⟨by simpa using m5, rfl, rfl⟩) ho
    · rw [if_neg ho]
      by_cases m3 : modeV s = 3
      · rw [if_pos m3]
        exact bitmap_3 h k i m3 (by omega) (by omega) (by omega) (by omega)
      · rw [if_neg m3]
        exact bitmap_4 h k i (by simpa using m3) (by simpa using m5) (by omega) (by omega) (by omega) (by omega)
end
end Go.Proofs.Ytbljlnhgllbbdaa.Gw
