/- The document's backgrounds, walked: memories, bits, colours. -/
import Derived.Test.YthbpcenobaloaaaGs
namespace Go.Proofs.Ythbpcenobaloaaa.Ha
set_option linter.unusedVariables false
set_option linter.unusedSimpArgs false
open Go.RowKit Go.Proofs.Ythbpcenobaloaaa.Bt Go.Proofs.Ythbpcenobaloaaa.Wk Go.Proofs.Ythbpcenobaloaaa.Sg Go.Proofs.Ythbpcenobaloaaa.Gp Go.Proofs.Ythbpcenobaloaaa.Gm Go.Proofs.Ythbpcenobaloaaa.Gs

theorem pow_lt {n : Nat} (hn : n ≤ 16) : (1 : Int) ≤ 2 ^ n ∧ (2 : Int) ^ n ≤ 65536 := by
  have h1 : (1 : Nat) ≤ 2 ^ n := Nat.one_le_two_pow
  have h2 : (2 : Nat) ^ n ≤ 2 ^ 16 := Nat.pow_le_pow_right (by decide) hn
  have e : ((2 ^ n : Nat) : Int) = 2 ^ n := Int.natCast_pow 2 n
  omega
set_option maxHeartbeats 2000000 in
theorem bits_any {w : World} {x : Int} (x0 : 0 ≤ x) (x1 : x < 65536) (a n : Nat) (ha : a ≤ 16) (hn : n ≤ 16) :
    Calls Try.prog 34 #[.int .u16 x, .int .i64 a, .int .i64 n] w fun e w' => e = .returned (.int .i64 (x / 2 ^ a % 2 ^ n)) ∧ ∃ q, w' = w.drewN q := by
  obtain ⟨p0, p1⟩ := pow_lt hn
  obtain ⟨q0, q1⟩ := pow_lt ha
  have a0 : (0 : Int) ≤ (a : Int) := by omega
  have a1 : (a : Int) < 64 := by omega
  have n0 : (0 : Int) ≤ (n : Int) := by omega
  have n1 : (n : Int) < 64 := by omega
  have r0 : 0 ≤ x / 2 ^ a := Int.ediv_nonneg x0 (by omega)
  have f1 : IntKind.i64.wrap x = x := by rw [IntKind.wrap_i64]; omega
  have f2 : IntKind.i64.wrap ((2 : Int) ^ n) = 2 ^ n := by rw [IntKind.wrap_i64]; omega
  have f3 : Int.tmod (x / 2 ^ a) (2 ^ n) = x / 2 ^ a % 2 ^ n := Int.tmod_eq_emod_of_nonneg r0
  have f4 : ((2 : Int) ^ n = 0) = False := eq_false (by omega)
  go_enter Try.func34, Try.ntmps34
  go_wp2_with fail
  go_quiet (fail)
  go_wp2
  go_ret
  exact ⟨rfl, _, rfl⟩
theorem bits_lit {w : World} {x : Int} (x0 : 0 ≤ x) (x1 : x < 65536) (a n : Nat) (A N R : Int) (ha : a ≤ 16) (hn : n ≤ 16) (hA : (a : Int) = A) (hN : (n : Int) = N) (hR : x / 2 ^ a % 2 ^ n = R) :
    Calls Try.prog 34 #[.int .u16 x, .int .i64 A, .int .i64 N] w fun e w' => e = .returned (.int .i64 R) ∧ ∃ q, w' = w.drewN q := by
  subst hA hN hR
  exact bits_any x0 x1 a n ha hn
set_option maxHeartbeats 2000000 in
theorem byte_any {w : World} {m : Mem} (h : Rd w m) (k : Mok m) (a : Int) (r0 : -9223372036854775808 ≤ a) (r1 : a ≤ 9223372036854775807) :
    Calls Try.prog 30 #[m.v, .int .i64 a] w fun e w' => e = .returned (.int .i64 (byteV m a)) ∧ w = w' := by
  have hm := k.hm
  unfold maxLen at hm
  unfold Mem.v
  by_cases g : 0 ≤ a ∧ a < (m.n : Int)
  · obtain ⟨j, rfl⟩ := Int.eq_ofNat_of_zero_le g.1
    obtain ⟨ad, e1, l1, c1⟩ := h.at_ (k := j) (by omega)
    have hv : byteV m (j : Int) = m.f j := by unfold byteV; rw [if_pos g]; rfl
    obtain ⟨x0, x1⟩ := k.hf j (by omega)
    rw [hv, e1]
    have g2 := g.2
    clear hv e1 h k
    generalize m.f j = x at *
    generalize m.n = n at *
    have i0 : (0 : Int) ≤ (j : Int) := by omega
    clear g
    go_enter Try.func30, Try.ntmps30
    go_wp2
    go_ret
    exact ⟨rfl, rfl⟩
  · have hv : byteV m a = 0 := by unfold byteV; rw [if_neg g]
    rw [hv]
    by_cases g0 : a < 0
    · clear g hv h k
      generalize m.n = n at *
      go_enter Try.func30, Try.ntmps30
      go_wp2
      go_ret
      exact ⟨rfl, rfl⟩
    · have g1 : (m.n : Int) ≤ a := by omega
      have g2 : 0 ≤ a := by omega
      clear g hv h k g0
      generalize m.n = n at *
      go_enter Try.func30, Try.ntmps30
      go_wp2
      go_ret
      exact ⟨rfl, rfl⟩
set_option maxHeartbeats 2000000 in
theorem rhalf_any {w : World} {m : Mem} (h : Rd w m) (k : Mok m) (a : Int) (r0 : -9223372036854775807 ≤ a) (r1 : a ≤ 4611686018427387904) :
    Calls Try.prog 26 #[m.v, .int .i64 a] w fun e w' => e = .returned (.int .i64 (halfV m a)) ∧ ∃ n, w' = w.drewN n := by
  have hm := k.hm
  unfold maxLen at hm
  unfold Mem.v
  by_cases g : 0 ≤ a ∧ a < (m.n : Int) - 1
  · obtain ⟨j, rfl⟩ := Int.eq_ofNat_of_zero_le g.1
    obtain ⟨ad, e1, l1, c1⟩ := h.at_ (k := j) (by omega)
    obtain ⟨ad', e2, l2, c2⟩ := h.at_ (k := j + 1) (by omega)
    obtain rfl : ad = ad' := Option.some.inj (e1.symm.trans e2)
    have b1 := k.hf j (by omega)
    have b2 := k.hf (j + 1) (by omega)
    have hv : halfV m (j : Int) = m.f j + 256 * m.f (j + 1) := by unfold halfV; rw [if_pos g]; rfl
    rw [hv, e1]
    have g2 := g.2
    clear hv e1 e2 h k
    generalize m.f j = x at *
    generalize m.f (j + 1) = y at *
    generalize m.n = n at *
    obtain ⟨x0, x1⟩ := b1
    obtain ⟨y0, y1⟩ := b2
    have i0 : (0 : Int) ≤ (j : Int) := by omega
    have i1 : (j : Int) < (n : Int) := by omega
    have i2 : (j : Int) + 1 < (n : Int) := by omega
    have i3 : (n : Int) ≤ 9223372036854775807 := by omega
    have i4 : (0 : Int) ≤ (j : Int) + 1 := by omega
    rw [add_cellAt] at c2
    simp only [cellAt] at c2
    have w1 : IntKind.i64.wrap ((j : Int) + 1) = (j : Int) + 1 := by rw [IntKind.wrap_i64]; omega
    have w2 : IntKind.i64.wrap (256 * y) = 256 * y := by rw [IntKind.wrap_i64]; omega
    have w3 : IntKind.i64.wrap x = x := by rw [IntKind.wrap_i64]; omega
    have w4 : IntKind.i64.wrap y = y := by rw [IntKind.wrap_i64]; omega
    have w5 : IntKind.i64.wrap (x + 256 * y) = x + 256 * y := by rw [IntKind.wrap_i64]; omega
    clear g
    go_enter Try.func26, Try.ntmps26
    go_wp2_with fail
    go_quiet (fail)
    go_wp2
    go_ret
    exact ⟨rfl, _, rfl⟩
  · have hv : halfV m a = 0 := by unfold halfV; rw [if_neg g]
    rw [hv]
    by_cases g0 : a < 0
    · clear g hv h k
      generalize m.n = n at *
      go_enter Try.func26, Try.ntmps26
      go_wp2
      go_ret
      exact ⟨rfl, 0, rfl⟩
    · have g1 : (m.n : Int) ≤ a + 1 := by omega
      have g2 : 0 ≤ a := by omega
      clear g hv h k g0
      generalize m.n = n at *
      go_enter Try.func26, Try.ntmps26
      go_wp2
      go_ret
      exact ⟨rfl, 0, rfl⟩
set_option maxHeartbeats 2000000 in
theorem rcolour_any {w : World} {b : Nat} {T : TypeId} {s : Sc} (h : Sn w b T s) (k : Sok s) (n : Int) (r0 : -100000 ≤ n) (r1 : n ≤ 100000) :
    Calls Try.prog 21 #[.pointer (some ⟨b, 0, none⟩), .int .i64 n] w fun e w' => e = .returned (.int .u16 (colourV s n)) ∧ ∃ q, w' = w.drewN q := by
  have CP := h.pal
  unfold Mem.v at CP
  have HH := Lib.hid (rhalf_any h.pa k.pa (2 * n) (by omega) (by omega))
  have hm := k.pa.hm
  unfold maxLen at hm
  have hb := halfV_bd k.pa (2 * n)
  have lt := h.lt
  unfold Mem.v at HH
  by_cases g : 0 ≤ n ∧ n ≤ (s.pa.n : Int)
  · have hv : colourV s n = halfV s.pa (2 * n) % 32768 := by unfold colourV; rw [if_pos g]
    rw [hv]
    have g1 := g.1
    have g2 := g.2
    clear g hv h k
    generalize halfV s.pa (2 * n) = x at *
    generalize s.pa.n = pn at *
    obtain ⟨x0, x1⟩ := hb
    have m0 : 0 ≤ x % 32768 := by omega
    have m1 : x % 32768 < 32768 := by omega
    go_enter Try.func21, Try.ntmps21
    go_wp2_with fail
    refine HH.out.mono ?_
    rintro e w' ⟨rfl, q, rfl⟩
    go_wp2_with fail
    go_ret
    exact ⟨rfl, q, rfl⟩
  · have hv : colourV s n = 0 := by unfold colourV; rw [if_neg g]
    rw [hv]
    by_cases g0 : n < 0
    · clear g hv h k HH hb
      generalize s.pa.n = pn at *
      go_enter Try.func21, Try.ntmps21
      go_wp2
      go_ret
      exact ⟨rfl, 0, rfl⟩
    · have g1 : (s.pa.n : Int) < n := by omega
      have g2 : 0 ≤ n := by omega
      clear g hv h k HH hb g0
      generalize s.pa.n = pn at *
      go_enter Try.func21, Try.ntmps21
      go_wp2
      go_ret
      exact ⟨rfl, 0, rfl⟩
set_option maxHeartbeats 2000000 in
theorem rmode_any {w : World} {b : Nat} {T : TypeId} {s : Sc} (h : Sn w b T s) (k : Sok s) :
    Calls Try.prog 29 #[.pointer (some ⟨b, 0, none⟩)] w fun e w' => e = .returned (.int .i64 (modeV s)) ∧ ∃ q, w' = w.drewN q := by
  have C := h.ctl
  have B := bits_lit (w := w) k.c0 k.c1 0 3 0 3 (s.ctl % 8) (by decide) (by decide) rfl rfl (by omega)
  have lt := h.lt
  unfold modeV
  clear h k
  generalize s.ctl = x at *
  have BH := Lib.hid B
  clear B
  go_enter Try.func29, Try.ntmps29
  go_wp2_with (go_at_call 34; ((with_reducible refine BH.out.mono ?_); rintro e w' ⟨rfl, q, rfl⟩))
  go_ret
  exact ⟨rfl, _, rfl⟩
end Go.Proofs.Ythbpcenobaloaaa.Ha
