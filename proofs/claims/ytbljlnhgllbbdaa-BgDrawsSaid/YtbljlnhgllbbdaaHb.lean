/- The document's backgrounds, walked: Kind, Shown, texel. -/
import Derived.Test.YtbljlnhgllbbdaaHa
import Derived.Test.YtbljlnhgllbbdaaGt
namespace Go.Proofs.Ytbljlnhgllbbdaa.Hb
set_option linter.unusedVariables false
set_option linter.unusedSimpArgs false
open Go.RowKit Go.Proofs.Ytbljlnhgllbbdaa.Bt Go.Proofs.Ytbljlnhgllbbdaa.Wk Go.Proofs.Ytbljlnhgllbbdaa.Sg Go.Proofs.Ytbljlnhgllbbdaa.Gp Go.Proofs.Ytbljlnhgllbbdaa.Gm Go.Proofs.Ytbljlnhgllbbdaa.Gs Go.Proofs.Ytbljlnhgllbbdaa.Gh Go.Proofs.Ytbljlnhgllbbdaa.Gt Go.Proofs.Ytbljlnhgllbbdaa.Ha

set_option maxHeartbeats 8000000 in
theorem rkind_any {w : World} {b : Nat} {T : TypeId} {s : Sc} (h : Sn w b T s) (k : Sok s) {i : Int} (i0 : 0 ≤ i) (i4 : i < 4) :
    Calls Try.prog 21 #[.pointer (some ⟨b, 0, none⟩), .int .i64 i] w fun e w' => e = .returned (.int .i64 (kindV s i)) ∧ ∃ q, w' = w.drewN q := by
  have M := rmode_any h k
  rw [kind_m]
  have m0 : 0 ≤ modeV s := by unfold modeV; omega
  have m8 : modeV s < 8 := by unfold modeV; omega
  clear h k
  generalize modeV s = m at *
  have MH := Lib.hid M
  clear M
  have mc : m = 0 ∨ m = 1 ∨ m = 2 ∨ m = 3 ∨ m = 4 ∨ m = 5 ∨ m = 6 ∨ m = 7 := by omega
  have ic : i = 0 ∨ i = 1 ∨ i = 2 ∨ i = 3 := by omega
  clear m0 m8 i0 i4
  rcases mc with rfl | rfl | rfl | rfl | rfl | rfl | rfl | rfl <;> rcases ic with rfl | rfl | rfl | rfl
  all_goals
    go_enter Try.func21, Try.ntmps21
    go_wp2_with (go_at_call 16; ((with_reducible refine MH.out.mono ?_); rintro e w' ⟨rfl, q, rfl⟩))
    go_ret
    exact ⟨rfl, _, rfl⟩
theorem rshown_out {w : World} (p : Option Addr) (i : Int) (hi : i < 0 ∨ 4 ≤ i) : Calls Try.prog 14 #[.pointer p, .int .i64 i] w fun e w' => e = .returned (.bool false) ∧ ∃ q, w' = w.drewN q := by
  by_cases h : i < 0
  · clear hi
    go_enter Try.func14, Try.ntmps14
    go_wp2
    go_ret
    exact ⟨rfl, 0, rfl⟩
  · have h4 : 4 ≤ i := by omega
    have h0 : 0 ≤ i := by omega
    clear hi h
    go_enter Try.func14, Try.ntmps14
    go_wp2
    go_ret
    exact ⟨rfl, 0, rfl⟩
set_option maxHeartbeats 8000000 in
theorem rshown_in {w : World} {b : Nat} {T : TypeId} {s : Sc} (h : Sn w b T s) (k : Sok s) {i : Int} (i0 : 0 ≤ i) (i4 : i < 4) :
    Calls Try.prog 14 #[.pointer (some ⟨b, 0, none⟩), .int .i64 i] w fun e w' => e = .returned (.bool (shownV s i)) ∧ ∃ q, w' = w.drewN q := by
  have C := h.ctl
  have lt := h.lt
  have KH := Lib.hid (fun q => rkind_any (h.drewN q) k i0 i4)
  have E0 := shown_eq s i0 i4
  have B7 := Lib.hid (fun w => bits_lit (w := w) k.c0 k.c1 7 1 7 1 (s.ctl / 128 % 2) (by decide) (by decide) rfl rfl rfl)
  have B8 : Hid (∀ (n : Nat) (d : Int), n ≤ 3 → (2 : Int) ^ (8 + n) = d → ∀ w, Calls Try.prog 20 #[.int .u16 s.ctl, .int .i64 ((8 + n : Nat) : Int), .int .i64 1] w fun e w' => e = .returned (.int .i64 (s.ctl / d % 2)) ∧ ∃ q, w' = w.drewN q) :=
    Lib.hid fun n d hn hd w => bits_lit (w := w) k.c0 k.c1 (8 + n) 1 _ 1 (s.ctl / d % 2) (by omega) (by decide) rfl rfl (by rw [hd]; rfl)
  have kb : 0 ≤ kindV s i := by unfold kindV; (repeat' split) <;> omega
  clear h k
  have hk : (kindV s i != 0) = decide (0 < kindV s i) := by
    rw [Bool.eq_iff_iff, bne_iff_ne, decide_eq_true_eq]; omega
  rw [hk] at E0
  generalize kindV s i = kd at *
  generalize s.ctl = x at *
  obtain ⟨z, hz⟩ : ∃ z, (x / 128 % 2 == 0) = z := ⟨_, rfl⟩
  obtain ⟨kz, hkz⟩ : ∃ z, decide (0 < kd) = z := ⟨_, rfl⟩
  rw [hz, hkz] at E0
  clear hk kb
  have ic : ∃ (n : Nat) (d : Int), n ≤ 3 ∧ i = n ∧ (2 : Int) ^ (8 + i.toNat) = d ∧ (2 : Int) ^ (8 + n) = d := by
    obtain ⟨n, rfl⟩ := Int.eq_ofNat_of_zero_le i0
    exact ⟨n, _, by omega, rfl, by rw [Int.toNat_natCast], rfl⟩
  obtain ⟨n, d, n3, rfl, hd, hd'⟩ := ic
  rw [E0 _ hd]
  have BN := B8.out n d n3 hd'
  rw [show ((8 + n : Nat) : Int) = 8 + (n : Int) by omega] at BN
  have BNH := Lib.hid BN
  clear BN B8 E0 hd hd' n3
  obtain ⟨y, hy⟩ : ∃ y, (x / d % 2 == 1) = y := ⟨_, rfl⟩
  rw [hy]
  cases y
  · go_enter Try.func14, Try.ntmps14
    go_wp2_with (go_at_call 20; ((with_reducible refine (BNH.out _).mono ?_); rintro e w' ⟨rfl, q, rfl⟩))
    go_ret
    exact ⟨rfl, _, rfl⟩
  · cases kz
    · go_enter Try.func14, Try.ntmps14
      go_wp2_with (first | (go_at_call 20; ((with_reducible refine (BNH.out _).mono ?_); rintro e w' ⟨rfl, q, rfl⟩)) | (go_at_call 21; ((with_reducible refine (KH.out _).mono ?_); rintro e w' ⟨rfl, q, rfl⟩)))
      go_ret
      exact ⟨rfl, _, rfl⟩
    · go_enter Try.func14, Try.ntmps14
      go_wp2_with (first | (go_at_call 20; ((with_reducible refine (BNH.out _).mono ?_); rintro e w' ⟨rfl, q, rfl⟩)) | (go_at_call 20; ((with_reducible refine (B7.out _).mono ?_); rintro e w' ⟨rfl, q, rfl⟩)) | (go_at_call 21; ((with_reducible refine (KH.out _).mono ?_); rintro e w' ⟨rfl, q, rfl⟩)))
      go_ret
      exact ⟨rfl, _, rfl⟩
theorem rshown_any {w : World} {b : Nat} {T : TypeId} {s : Sc} (h : Sn w b T s) (k : Sok s) (i : Int) :
    Calls Try.prog 14 #[.pointer (some ⟨b, 0, none⟩), .int .i64 i] w fun e w' => e = .returned (.bool (shownV s i)) ∧ ∃ q, w' = w.drewN q := by
  by_cases g : 0 ≤ i ∧ i < 4
  · exact rshown_in h k g.1 g.2
  · have e : shownV s i = false := by unfold shownV; rw [decide_eq_false g]; rfl
    rw [e]
    exact rshown_out _ i (by omega)
/-- A dot by its address. -/
def texM (s : Sc) (A : Int) : Int := if 65536 ≤ A then 32768 else if byteV s.vr A = 0 then 32768 else colourV s (byteV s.vr A)
def texF (s : Sc) (A X pal : Int) : Int := if 65536 ≤ A then 32768 else if nibV (byteV s.vr A) X = 0 then 32768 else colourV s (16 * pal + nibV (byteV s.vr A) X)
section
variable {w : World} {b : Nat} {T : TypeId} {s : Sc}
set_option maxHeartbeats 8000000 in
theorem texel_many (h : Sn w b T s) (k : Sok s) {a x y pal A : Int} (hA : a + (8 * y + x) = A) (a0 : 0 ≤ a) (a1 : a ≤ 200000) (x0 : 0 ≤ x) (x8 : x < 8) (y0 : 0 ≤ y) (y8 : y < 8) :
    Calls Try.prog 32 #[.pointer (some ⟨b, 0, none⟩), .int .i64 a, .int .i64 x, .int .i64 y, .int .i64 pal, .bool true] w fun r w' => r = .returned (.int .u16 (texM s A)) ∧ ∃ q, w' = w.drewN q := by
  have CV := h.vram
  unfold Mem.v at CV
  have lt := h.lt
  have A0 : 0 ≤ A := by omega
  have A9 : A < 300000 := by omega
  have HB := byteV_bd k.vr A
  have OA := byte_any h.vr k.vr A (by omega) (by omega)
  unfold Mem.v at OA
  have CO := rcolour_any h k (byteV s.vr A) (by omega) (by omega)
  unfold texM
  clear h k
  generalize colourV s (byteV s.vr A) = cv at *
  generalize byteV s.vr A = bv at *
  obtain ⟨B0, B1⟩ := HB
  have OH := Lib.hid OA
  have CH := Lib.hid CO
  clear OA CO
  by_cases gk : bv = 0
  · have e : (if 65536 ≤ A then (32768 : Int) else if bv = 0 then 32768 else cv) = 32768 := by rw [if_pos gk]; split <;> rfl
    rw [e]
    subst gk
    clear CH e
    go_enter Try.func32, Try.ntmps32
    go_wp2_with (go_at_call 33; ((with_reducible refine OH.out.mono ?_); rintro e w' ⟨rfl, rfl⟩))
    go_ret
    exact ⟨rfl, 0, rfl⟩
  · rw [if_neg gk]
    have gk' : (bv == 0) = false := by simpa using gk
    by_cases ga : 65536 ≤ A
    · rw [if_pos ga]
      have ga' : decide (65536 ≤ A) = true := decide_eq_true ga
      clear ga gk CH
      go_enter Try.func32, Try.ntmps32
      go_wp2_with (go_at_call 33; ((with_reducible refine OH.out.mono ?_); rintro e w' ⟨rfl, rfl⟩))
      go_ret
      exact ⟨rfl, 0, rfl⟩
    · rw [if_neg ga]
      have ga' : decide (65536 ≤ A) = false := decide_eq_false ga
      clear ga gk
      go_enter Try.func32, Try.ntmps32
      go_wp2_with (first | (go_at_call 33; ((with_reducible refine OH.out.mono ?_); rintro e w' ⟨rfl, rfl⟩)) | (go_at_call 34; ((with_reducible refine CH.out.mono ?_); rintro e w' ⟨rfl, q, rfl⟩)))
      go_ret
      exact ⟨rfl, _, rfl⟩
theorem rnib0 {k X : Int} (h : X % 2 = 0) : nibV k X = k % 16 := by unfold nibV; rw [if_pos h]
theorem rnib1 {k X : Int} (h : X % 2 = 1) : nibV k X = k / 16 % 16 := by unfold nibV; rw [if_neg (by omega)]
theorem rnib_bd (k X : Int) : 0 ≤ nibV k X ∧ nibV k X < 16 := by unfold nibV; split <;> omega
set_option maxHeartbeats 8000000 in
theorem texel_few (h : Sn w b T s) (k : Sok s) {a x y pal A : Int} (hA : a + (4 * y + x / 2) = A) (a0 : 0 ≤ a) (a1 : a ≤ 200000) (x0 : 0 ≤ x) (x8 : x < 8) (y0 : 0 ≤ y) (y8 : y < 8) (p0 : 0 ≤ pal) (p1 : pal < 16) :
    Calls Try.prog 32 #[.pointer (some ⟨b, 0, none⟩), .int .i64 a, .int .i64 x, .int .i64 y, .int .i64 pal, .bool false] w fun r w' => r = .returned (.int .u16 (texF s A x pal)) ∧ ∃ q, w' = w.drewN q := by
  have CV := h.vram
  unfold Mem.v at CV
  have lt := h.lt
  have A0 : 0 ≤ A := by omega
  have A9 : A < 300000 := by omega
  have HB := byteV_bd k.vr A
  have OA := byte_any h.vr k.vr A (by omega) (by omega)
  unfold Mem.v at OA
  obtain ⟨N, hN⟩ : ∃ N, nibV (byteV s.vr A) x = N := ⟨_, rfl⟩
  have NB := rnib_bd (byteV s.vr A) x
  have CO := rcolour_any h k (16 * pal + N) (by omega) (by omega)
  unfold texF
  rw [hN] at NB ⊢
  clear h k
  generalize colourV s (16 * pal + N) = cv at *
  generalize byteV s.vr A = bv at *
  obtain ⟨B0, B1⟩ := HB
  obtain ⟨N0, N1⟩ := NB
  have OH := Lib.hid OA
  have CH := Lib.hid CO
  clear OA CO
  have q0 : 0 ≤ bv / 16 := by omega
  rcases (show x % 2 = 0 ∨ x % 2 = 1 by omega) with gX2 | gX2
  all_goals
    (first | rw [rnib0 gX2] at hN | rw [rnib1 gX2] at hN)
    by_cases gk : N = 0
    · have e : (if 65536 ≤ A then (32768 : Int) else if N = 0 then 32768 else cv) = 32768 := by rw [if_pos gk]; split <;> rfl
      rw [e]
      rw [gk] at hN
      clear CH e
      go_enter Try.func32, Try.ntmps32
      go_wp2_with (go_at_call 33; ((with_reducible refine OH.out.mono ?_); rintro e w' ⟨rfl, rfl⟩))
      go_ret
      exact ⟨rfl, 0, rfl⟩
    · rw [if_neg gk]
      have gk' : (N == 0) = false := by simpa using gk
      by_cases ga : 65536 ≤ A
      · rw [if_pos ga]
        have ga' : decide (65536 ≤ A) = true := decide_eq_true ga
        clear ga gk CH
        go_enter Try.func32, Try.ntmps32
        go_wp2_with (go_at_call 33; ((with_reducible refine OH.out.mono ?_); rintro e w' ⟨rfl, rfl⟩))
        go_ret
        exact ⟨rfl, 0, rfl⟩
      · rw [if_neg ga]
        have ga' : decide (65536 ≤ A) = false := decide_eq_false ga
        clear ga gk
        go_enter Try.func32, Try.ntmps32
        go_wp2_with (first | (go_at_call 33; ((with_reducible refine OH.out.mono ?_); rintro e w' ⟨rfl, rfl⟩)) | (go_at_call 34; ((with_reducible refine CH.out.mono ?_); rintro e w' ⟨rfl, q, rfl⟩)))
        go_ret
        exact ⟨rfl, _, rfl⟩
end
end Go.Proofs.Ytbljlnhgllbbdaa.Hb
