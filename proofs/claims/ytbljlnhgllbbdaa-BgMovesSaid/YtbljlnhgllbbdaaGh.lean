/- Package bg, walked: Shown, coarse. -/
import Derived.Test.YtbljlnhgllbbdaaGs
namespace Go.Proofs.Ytbljlnhgllbbdaa.Gh
set_option linter.unusedVariables false
set_option linter.unusedSimpArgs false
open Go.RowKit Go.Proofs.Ytbljlnhgllbbdaa.Bt Go.Proofs.Ytbljlnhgllbbdaa.Wk Go.Proofs.Ytbljlnhgllbbdaa.Sg Go.Proofs.Ytbljlnhgllbbdaa.Gp Go.Proofs.Ytbljlnhgllbbdaa.Gm Go.Proofs.Ytbljlnhgllbbdaa.Gs

theorem bit16 {x : Int} (h0 : 0 ≤ x) (h1 : x < 65536) (d : Int) (hd : 1 ≤ d) : Go.bits .and .u16 (x / d) 1 = x / d % 2 := by
  have a : 0 ≤ x / d := Int.ediv_nonneg h0 (by omega)
  have b : x / d ≤ x := Int.ediv_le_self d h0
  have := and_mask_u16 a (by omega) 1 (by decide); simpa using this
theorem shown_nil (i : Int) (w : World) : Calls Try.prog 13 #[.pointer none, .int .i64 i] w fun e w' => e = .returned (.bool false) ∧ w = w' := by
  go_enter Try.func13, Try.ntmps13
  go_wp2
  go_ret
  exact ⟨rfl, rfl⟩
theorem shown_out {w : World} {b : Nat} (i : Int) (hi : i < 0 ∨ 4 ≤ i) : Calls Try.prog 13 #[.pointer (some ⟨b, 0, none⟩), .int .i64 i] w fun e w' => e = .returned (.bool false) ∧ w = w' := by
  by_cases h : i < 0
  · clear hi
    go_enter Try.func13, Try.ntmps13
    go_wp2
    go_ret
    exact ⟨rfl, rfl⟩
  · have h4 : 4 ≤ i := by omega
    have h0 : 0 ≤ i := by omega
    clear hi h
    go_enter Try.func13, Try.ntmps13
    go_wp2
    go_ret
    exact ⟨rfl, rfl⟩
/-- The four tests. -/
theorem shown_eq (s : Sc) {i : Int} (i0 : 0 ≤ i) (i4 : i < 4) (d : Int) (hd : 2 ^ (8 + i.toNat) = d) : shownV s i = ((s.ctl / d % 2 == 1) && (kindV s i != 0) && (s.ctl / 128 % 2 == 0)) := by
  unfold shownV
  rw [hd, decide_eq_true ⟨i0, i4⟩, Bool.true_and]
set_option maxHeartbeats 8000000 in
theorem shown_in {w : World} {b : Nat} {T : TypeId} {s : Sc} (h : Sn w b T s) (k : Sok s) {i : Int} (i0 : 0 ≤ i) (i4 : i < 4) :
    Calls Try.prog 13 #[.pointer (some ⟨b, 0, none⟩), .int .i64 i] w fun e w' => e = .returned (.bool (shownV s i)) ∧ w = w' := by
  have C := h.ctl
  have c0 := k.c0
  have c1 := k.c1
  have KN := kind_any h k i0 i4
  have E0 := shown_eq s i0 i4
  clear h k
  generalize kindV s i = kd at *
  generalize s.ctl = x at *
  have b7 := bit16 c0 c1 128 (by decide)
  have b8 := bit16 c0 c1 256 (by decide)
  have b9 := bit16 c0 c1 512 (by decide)
  have b10 := bit16 c0 c1 1024 (by decide)
  have b11 := bit16 c0 c1 2048 (by decide)
  have KH := Lib.hid KN
  clear KN
  obtain ⟨z, hz⟩ : ∃ z, (x / 128 % 2 == 0) = z := ⟨_, rfl⟩
  obtain ⟨kz, hkz⟩ : ∃ z, (kd != 0) = z := ⟨_, rfl⟩
  rw [hz, hkz] at E0
  have ic : (i = 0 ∧ (2 : Int) ^ (8 + i.toNat) = 256) ∨ (i = 1 ∧ (2 : Int) ^ (8 + i.toNat) = 512) ∨ (i = 2 ∧ (2 : Int) ^ (8 + i.toNat) = 1024) ∨ (i = 3 ∧ (2 : Int) ^ (8 + i.toNat) = 2048) := by
    rcases (show i = 0 ∨ i = 1 ∨ i = 2 ∨ i = 3 by omega) with rfl | rfl | rfl | rfl
    · exact .inl ⟨rfl, rfl⟩
    · exact .inr (.inl ⟨rfl, rfl⟩)
    · exact .inr (.inr (.inl ⟨rfl, rfl⟩))
    · exact .inr (.inr (.inr ⟨rfl, rfl⟩))
  rcases ic with ⟨hi, hp⟩ | ⟨hi, hp⟩ | ⟨hi, hp⟩ | ⟨hi, hp⟩
  · have E1 := E0 _ hp
    clear E0 hp i0 i4
    subst hi
    rw [E1]
    clear E1
    obtain ⟨y, hy⟩ : ∃ y, (x / 256 % 2 == 1) = y := ⟨_, rfl⟩
    rw [hy]
    cases y
    · go_enter Try.func13, Try.ntmps13
      go_wp2_with (go_at_call 17; ((with_reducible refine KH.out.mono ?_); rintro e w' ⟨rfl, rfl⟩))
      go_ret
      exact ⟨rfl, rfl⟩
    · cases kz
      · go_enter Try.func13, Try.ntmps13
        go_wp2_with (go_at_call 17; ((with_reducible refine KH.out.mono ?_); rintro e w' ⟨rfl, rfl⟩))
        go_ret
        exact ⟨rfl, rfl⟩
      · go_enter Try.func13, Try.ntmps13
        go_wp2_with (go_at_call 17; ((with_reducible refine KH.out.mono ?_); rintro e w' ⟨rfl, rfl⟩))
        go_ret
        exact ⟨rfl, rfl⟩
  · have E1 := E0 _ hp
    clear E0 hp i0 i4
    subst hi
    rw [E1]
    clear E1
    obtain ⟨y, hy⟩ : ∃ y, (x / 512 % 2 == 1) = y := ⟨_, rfl⟩
    rw [hy]
    cases y
    · go_enter Try.func13, Try.ntmps13
      go_wp2_with (go_at_call 17; ((with_reducible refine KH.out.mono ?_); rintro e w' ⟨rfl, rfl⟩))
      go_ret
      exact ⟨rfl, rfl⟩
    · cases kz
      · go_enter Try.func13, Try.ntmps13
        go_wp2_with (go_at_call 17; ((with_reducible refine KH.out.mono ?_); rintro e w' ⟨rfl, rfl⟩))
        go_ret
        exact ⟨rfl, rfl⟩
      · go_enter Try.func13, Try.ntmps13
        go_wp2_with (go_at_call 17; ((with_reducible refine KH.out.mono ?_); rintro e w' ⟨rfl, rfl⟩))
        go_ret
        exact ⟨rfl, rfl⟩
  · have E1 := E0 _ hp
    clear E0 hp i0 i4
    subst hi
    rw [E1]
    clear E1
    obtain ⟨y, hy⟩ : ∃ y, (x / 1024 % 2 == 1) = y := ⟨_, rfl⟩
    rw [hy]
    cases y
    · go_enter Try.func13, Try.ntmps13
      go_wp2_with (go_at_call 17; ((with_reducible refine KH.out.mono ?_); rintro e w' ⟨rfl, rfl⟩))
      go_ret
      exact ⟨rfl, rfl⟩
    · cases kz
      · go_enter Try.func13, Try.ntmps13
        go_wp2_with (go_at_call 17; ((with_reducible refine KH.out.mono ?_); rintro e w' ⟨rfl, rfl⟩))
        go_ret
        exact ⟨rfl, rfl⟩
      · go_enter Try.func13, Try.ntmps13
        go_wp2_with (go_at_call 17; ((with_reducible refine KH.out.mono ?_); rintro e w' ⟨rfl, rfl⟩))
        go_ret
        exact ⟨rfl, rfl⟩
  · have E1 := E0 _ hp
    clear E0 hp i0 i4
    subst hi
    rw [E1]
    clear E1
    obtain ⟨y, hy⟩ : ∃ y, (x / 2048 % 2 == 1) = y := ⟨_, rfl⟩
    rw [hy]
    cases y
    · go_enter Try.func13, Try.ntmps13
      go_wp2_with (go_at_call 17; ((with_reducible refine KH.out.mono ?_); rintro e w' ⟨rfl, rfl⟩))
      go_ret
      exact ⟨rfl, rfl⟩
    · cases kz
      · go_enter Try.func13, Try.ntmps13
        go_wp2_with (go_at_call 17; ((with_reducible refine KH.out.mono ?_); rintro e w' ⟨rfl, rfl⟩))
        go_ret
        exact ⟨rfl, rfl⟩
      · go_enter Try.func13, Try.ntmps13
        go_wp2_with (go_at_call 17; ((with_reducible refine KH.out.mono ?_); rintro e w' ⟨rfl, rfl⟩))
        go_ret
        exact ⟨rfl, rfl⟩
end Go.Proofs.Ytbljlnhgllbbdaa.Gh
