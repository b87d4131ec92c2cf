/- Package bg, walked: coarse. -/
import Derived.Test.YtbljlnhgllbbdaaGh
namespace Go.Proofs.Ytbljlnhgllbbdaa.Gc
set_option linter.unusedVariables false
set_option linter.unusedSimpArgs false
open Go.RowKit Go.Proofs.Ytbljlnhgllbbdaa.Bt Go.Proofs.Ytbljlnhgllbbdaa.Wk Go.Proofs.Ytbljlnhgllbbdaa.Sg Go.Proofs.Ytbljlnhgllbbdaa.Gp Go.Proofs.Ytbljlnhgllbbdaa.Gm Go.Proofs.Ytbljlnhgllbbdaa.Gs Go.Proofs.Ytbljlnhgllbbdaa.Gh

/-- How great the stones are. -/
def acrossV (s : Sc) (i : Nat) : Int := if s.bg i / 64 % 2 = 0 then 1 else s.mos % 16 + 1
def downV (s : Sc) (i : Nat) : Int := if s.bg i / 64 % 2 = 0 then 1 else s.mos / 16 % 16 + 1
theorem across_bd (s : Sc) (i : Nat) : 1 ≤ acrossV s i ∧ acrossV s i ≤ 16 := by
  unfold acrossV; split <;> omega
theorem down_bd (s : Sc) (i : Nat) : 1 ≤ downV s i ∧ downV s i ≤ 16 := by
  unfold downV; split <;> omega
set_option maxHeartbeats 4000000 in
theorem coarse_any {w : World} {b : Nat} {T : TypeId} {s : Sc} (h : Sn w b T s) (k : Sok s) {i : Nat} (i4 : i < 4) :
    Calls Try.prog 26 #[.pointer (some ⟨b, 0, none⟩), .int .i64 i] w fun e w' => e = .returned (.tuple #[.int .i64 (acrossV s i), .int .i64 (downV s i)]) ∧ ∃ q, w' = w.drewN q := by
  have C := h.bg i4
  have CM := h.mos
  obtain ⟨c0, c1⟩ := k.b i i4
  have m0 := k.m0
  have m1 := k.m1
  have lt := h.lt
  unfold acrossV downV
  clear h k
  generalize s.bg i = x at *
  generalize s.mos = m at *
  have gx := bit16 c0 c1 64 (by decide)
  have ga : Go.bits .and .u16 m 15 = m % 16 := by have := and_mask_u16 m0 m1 4 (by decide); simpa using this
  have gb : Go.bits .and .u16 (m / 16) 15 = m / 16 % 16 := by have := and_mask_u16 (a := m / 16) (by omega) (by omega) 4 (by decide); simpa using this
  have i0 : (0 : Int) ≤ (i : Int) := by omega
  have i4' : (i : Int) < 4 := by omega
  rcases (show x / 64 % 2 = 0 ∨ x / 64 % 2 = 1 by omega) with g | g
  · rw [if_pos g, if_pos g]
    go_enter Try.func26, Try.ntmps26
    go_wp2
    go_ret2
    exact ⟨rfl, 0, rfl⟩
  · rw [if_neg (by omega), if_neg (by omega)]
    have r0 : 0 ≤ m % 16 := by omega
    have r1 : m % 16 < 16 := by omega
    have r2 : 0 ≤ m / 16 % 16 := by omega
    have r3 : m / 16 % 16 < 16 := by omega
    go_enter Try.func26, Try.ntmps26
    go_wp2_with fail
    go_quiet (fail)
    go_wp2_with fail
    go_ret2
    exact ⟨rfl, _, rfl⟩
end Go.Proofs.Ytbljlnhgllbbdaa.Gc
