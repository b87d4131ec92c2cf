/- Package bg, walked: tile. -/
import Derived.Test.YtbljlnhgllbbdaaGc
namespace Go.Proofs.Ytbljlnhgllbbdaa.Gt
set_option linter.unusedVariables false
set_option linter.unusedSimpArgs false
open Go.RowKit Go.Proofs.Ytbljlnhgllbbdaa.Bt Go.Proofs.Ytbljlnhgllbbdaa.Wk Go.Proofs.Ytbljlnhgllbbdaa.Sg Go.Proofs.Ytbljlnhgllbbdaa.Gp Go.Proofs.Ytbljlnhgllbbdaa.Gm Go.Proofs.Ytbljlnhgllbbdaa.Gs Go.Proofs.Ytbljlnhgllbbdaa.Gh Go.Proofs.Ytbljlnhgllbbdaa.Gc

def flipV (bit x : Int) : Int := if bit = 1 then 7 - x else x
/-- A dot of a tile of 256 colours, of 16 colours; X and Y are turned already. -/
def tileM (s : Sc) (base e X Y : Int) : Int :=
  if 65536 ≤ base + e % 1024 * 64 + Y * 8 + X then 32768 else if byteV s.vr (base + e % 1024 * 64 + Y * 8 + X) = 0 then 32768 else colourV s (byteV s.vr (base + e % 1024 * 64 + Y * 8 + X))
def nibV (k X : Int) : Int := if X % 2 = 0 then k % 16 else k / 16 % 16
def tileF (s : Sc) (base e X Y : Int) : Int :=
  if 65536 ≤ base + e % 1024 * 32 + Y * 4 + X / 2 then 32768 else if nibV (byteV s.vr (base + e % 1024 * 32 + Y * 4 + X / 2)) X = 0 then 32768 else colourV s (e / 4096 * 16 + nibV (byteV s.vr (base + e % 1024 * 32 + Y * 4 + X / 2)) X)
def tileV (s : Sc) (base e x y : Int) (many : Bool) : Int :=
  if many then tileM s base e (flipV (e / 1024 % 2) x) (flipV (e / 2048 % 2) y) else tileF s base e (flipV (e / 1024 % 2) x) (flipV (e / 2048 % 2) y)
theorem flip0 {b : Int} (h : b = 0) (x : Int) : flipV b x = x := by unfold flipV; rw [if_neg (by omega)]
theorem flip1 {b : Int} (h : b = 1) (x : Int) : flipV b x = 7 - x := by unfold flipV; rw [if_pos h]
theorem flip_bd {b x : Int} (x0 : 0 ≤ x) (x8 : x < 8) : 0 ≤ flipV b x ∧ flipV b x < 8 := by unfold flipV; split <;> omega
section
variable {w : World} {b : Nat} {T : TypeId} {s : Sc}
set_option maxHeartbeats 16000000 in
theorem tile_many (h : Sn w b T s) (k : Sok s) {base e x y : Int} (hb0 : 0 ≤ base) (hb1 : base ≤ 49152) (e0 : 0 ≤ e) (e1 : e < 65536) (x0 : 0 ≤ x) (x8 : x < 8) (y0 : 0 ≤ y) (y8 : y < 8) :
    Calls Try.prog 28 #[.pointer (some ⟨b, 0, none⟩), .int .i64 base, .int .u16 e, .int .i64 x, .int .i64 y, .bool true] w fun r w' => r = .returned (.int .u16 (tileV s base e x y true)) ∧ ∃ q, w' = w.drewN q := by
  have CV := h.vram
  unfold Mem.v at CV
  have lt := h.lt
  have hv : tileV s base e x y true = tileM s base e (flipV (e / 1024 % 2) x) (flipV (e / 2048 % 2) y) := rfl
  rw [hv]
  clear hv
  have g10 := bit16 e0 e1 1024 (by decide)
  have g11 := bit16 e0 e1 2048 (by decide)
  have gn : Go.bits .and .u16 e 1023 = e % 1024 := by have := and_mask_u16 e0 e1 10 (by decide); simpa using this
  have n0 : 0 ≤ e % 1024 := by omega
  have n1 : e % 1024 < 1024 := by omega
  have BX := flip_bd (b := e / 1024 % 2) x0 x8
  have BY := flip_bd (b := e / 2048 % 2) y0 y8
  obtain ⟨X, hX⟩ : ∃ X, flipV (e / 1024 % 2) x = X := ⟨_, rfl⟩
  obtain ⟨Y, hY⟩ : ∃ Y, flipV (e / 2048 % 2) y = Y := ⟨_, rfl⟩
  rw [hX] at BX
  rw [hY] at BY
  rw [hX, hY]
  unfold tileM
  obtain ⟨X0, X8⟩ := BX
  obtain ⟨Y0, Y8⟩ := BY
  obtain ⟨A, hA⟩ : ∃ A, base + e % 1024 * 64 + Y * 8 + X = A := ⟨_, rfl⟩
  rw [hA]
  have A0 : 0 ≤ A := by omega
  have A9 : A < 200000 := by omega
  have HB := byteV_bd k.vr A
  have OA := one_any h.vr k.vr A (by omega) (by omega)
  unfold Mem.v at OA
  have CO := colour_any h k (byteV s.vr A)  (by omega) (by omega)
  clear h k
  generalize colourV s (byteV s.vr A) = cv at *
  generalize byteV s.vr A = bv at *
  obtain ⟨B0, B1⟩ := HB
  have OH := Lib.hid OA
  have CH := Lib.hid CO
  clear OA CO
  rcases (show e / 1024 % 2 = 0 ∨ e / 1024 % 2 = 1 by omega) with gx | gx <;> rcases (show e / 2048 % 2 = 0 ∨ e / 2048 % 2 = 1 by omega) with gy | gy
  all_goals
    (first | (rw [flip0 gx] at hX; subst hX) | rw [flip1 gx] at hX)
    (first | (rw [flip0 gy] at hY; subst hY) | rw [flip1 gy] at hY)
    by_cases ga : 65536 ≤ A
    · rw [if_pos ga]
      go_enter Try.func28, Try.ntmps28
      go_wp2
      go_ret
      exact ⟨rfl, 0, rfl⟩
    · rw [if_neg ga]
      have ga' : A < 65536 := by omega
      clear ga
      by_cases gk : bv = 0
      · rw [if_pos gk]
        subst gk
        clear CH
        go_enter Try.func28, Try.ntmps28
        go_wp2_with (go_at_call 35; ((with_reducible refine OH.out.mono ?_); rintro e w' ⟨rfl, rfl⟩))
        go_ret
        exact ⟨rfl, 0, rfl⟩
      · rw [if_neg gk]
        have gk' : 0 < bv := by omega
        clear gk
        go_enter Try.func28, Try.ntmps28
        go_wp2_with (first | (go_at_call 35; ((with_reducible refine OH.out.mono ?_); rintro e w' ⟨rfl, rfl⟩)) | (go_at_call 36; ((with_reducible refine CH.out.mono ?_); rintro e w' ⟨rfl, q, rfl⟩)))
        go_ret
        exact ⟨rfl, _, rfl⟩
end
end Go.Proofs.Ytbljlnhgllbbdaa.Gt
