/- Package obj, walked: spot. -/
import Derived.Test.YthbpcenobaloaaaPa
namespace Go.Proofs.Ythbpcenobaloaaa.Pb
set_option linter.unusedVariables false
set_option linter.unusedSimpArgs false
open Go.RowKit Go.Proofs.Ythbpcenobaloaaa.Bt Go.Proofs.Ythbpcenobaloaaa.Wk Go.Proofs.Ythbpcenobaloaaa.Sg Go.Proofs.Ythbpcenobaloaaa.Gp Go.Proofs.Ythbpcenobaloaaa.Gm Go.Proofs.Ythbpcenobaloaaa.Pp Go.Proofs.Ythbpcenobaloaaa.Pa

theorem mul_bd {a d : Int} (a0 : -32768 ≤ a) (a1 : a ≤ 32768) (d0 : -200 ≤ d) (d1 : d ≤ 200) : -6553600 ≤ a * d ∧ a * d ≤ 6553600 := by
  have e := Int.natAbs_mul a d
  have h1 : a.natAbs ≤ 32768 := by omega
  have h2 : d.natAbs ≤ 200 := by omega
  have h3 : a.natAbs * d.natAbs ≤ 32768 * 200 := Nat.mul_le_mul h1 h2
  omega
theorem i64_in {x : Int} (h0 : -9223372036854775808 ≤ x) (h1 : x ≤ 9223372036854775807) : IntKind.i64.wrap x = x := by rw [IntKind.wrap_i64]; omega
section
variable {w : World} {b : Nat} {p : Sp}
set_option maxRecDepth 100000 in
set_option maxHeartbeats 8000000 in
theorem spot_any (h : Pn w b p) (k : Pok p) {x y : Int} (x0 : 0 ≤ x) (x1 : x < 128) (y0 : 0 ≤ y) (y1 : y < 128) :
    Calls Try.prog 31 #[.pointer (some ⟨b, 0, none⟩), .int .i64 x, .int .i64 y] w fun e w' => e = .returned (.tuple #[.int .i64 (spotX p x y), .int .i64 (spotY p x y)]) ∧ ∃ q, w' = w.drewN q := by
  have CT := h.c_turned
  have CX := h.c_flipX
  have CY := h.c_flipY
  have CW := h.c_wide
  have CH := h.c_high
  have CBW := h.c_boxW
  have CBH := h.c_boxH
  have C0 := h.c_p0
  have C1 := h.c_p1
  have C2 := h.c_p2
  have C3 := h.c_p3
  have lt := h.lt
  have bw := k.bw
  have pw := k.w
  have bh := k.bh
  have ph := k.h
  obtain ⟨a0, a0'⟩ := k.a0
  obtain ⟨a1, a1'⟩ := k.a1
  obtain ⟨a2, a2'⟩ := k.a2
  obtain ⟨a3, a3'⟩ := k.a3
  have w0 : 0 ≤ p.wide := by omega
  have w1 : p.wide ≤ 64 := by omega
  have h0 : 0 ≤ p.high := by omega
  have h1 : p.high ≤ 64 := by omega
  have v0 : 0 ≤ p.boxW := by omega
  have v1 : p.boxW ≤ 128 := by omega
  have u0 : 0 ≤ p.boxH := by omega
  have u1 : p.boxH ≤ 128 := by omega
  clear bw pw bh ph h k
  unfold spotX spotY
  generalize p.turned = t at *
  generalize p.flipX = fx at *
  generalize p.flipY = fy at *
  generalize p.wide = wd at *
  generalize p.high = hg at *
  generalize p.boxW = bw at *
  generalize p.boxH = bh at *
  generalize p.p0 = p0 at *
  generalize p.p1 = p1 at *
  generalize p.p2 = p2 at *
  generalize p.p3 = p3 at *
  cases t
  · clear C0 C1 C2 C3 CBW CBH
    cases fx <;> cases fy
    all_goals
      go_enter Try.func31, Try.ntmps31
      go_wp2_with fail
      go_ret2
      exact ⟨rfl, 0, rfl⟩
  · clear CX CY
    obtain ⟨dx, hdx⟩ : ∃ d, x - bw / 2 = d := ⟨_, rfl⟩
    obtain ⟨dy, hdy⟩ : ∃ d, y - bh / 2 = d := ⟨_, rfl⟩
    have m0 := mul_bd (a := p0) (d := dx) (by omega) (by omega) (by omega) (by omega)
    have m1 := mul_bd (a := p1) (d := dy) (by omega) (by omega) (by omega) (by omega)
    have m2 := mul_bd (a := p2) (d := dx) (by omega) (by omega) (by omega) (by omega)
    have m3 := mul_bd (a := p3) (d := dy) (by omega) (by omega) (by omega) (by omega)
    have tb : Int.tdiv bw 2 = bw / 2 := Int.tdiv_eq_ediv_of_nonneg v0
    have th : Int.tdiv bh 2 = bh / 2 := Int.tdiv_eq_ediv_of_nonneg u0
    have tw : Int.tdiv wd 2 = wd / 2 := Int.tdiv_eq_ediv_of_nonneg w0
    have tg : Int.tdiv hg 2 = hg / 2 := Int.tdiv_eq_ediv_of_nonneg h0
    have e1 : IntKind.i64.wrap (x - bw / 2) = dx := by rw [hdx]; exact i64_in (by omega) (by omega)
    have e2 : IntKind.i64.wrap (y - bh / 2) = dy := by rw [hdy]; exact i64_in (by omega) (by omega)
    have f0 : IntKind.i64.wrap (p0 * dx) = p0 * dx := i64_in (by omega) (by omega)
    have f1 : IntKind.i64.wrap (p1 * dy) = p1 * dy := i64_in (by omega) (by omega)
    have f2 : IntKind.i64.wrap (p2 * dx) = p2 * dx := i64_in (by omega) (by omega)
    have f3 : IntKind.i64.wrap (p3 * dy) = p3 * dy := i64_in (by omega) (by omega)
    have g0 : IntKind.i64.wrap (p0 * dx + p1 * dy) = p0 * dx + p1 * dy := i64_in (by omega) (by omega)
    have g1 : IntKind.i64.wrap (p2 * dx + p3 * dy) = p2 * dx + p3 * dy := i64_in (by omega) (by omega)
    have q0 : IntKind.i64.wrap (wd / 2 + (p0 * dx + p1 * dy) / 256) = wd / 2 + (p0 * dx + p1 * dy) / 256 := i64_in (by omega) (by omega)
    have q1 : IntKind.i64.wrap (hg / 2 + (p2 * dx + p3 * dy) / 256) = hg / 2 + (p2 * dx + p3 * dy) / 256 := i64_in (by omega) (by omega)
    rw [hdx, hdy]
    have HX := Lib.hid hdx
    have HY := Lib.hid hdy
    clear hdx hdy
    go_enter Try.func31, Try.ntmps31
    go_wp2_with fail
    go_quiet (fail)
    go_wp2_with fail
    go_quiet (fail)
    go_wp2_with fail
    go_ret2
    first | exact ⟨rfl, _, rfl⟩ | exact ⟨rfl, _, World.drewN_drewN _ _ _⟩
end
end Go.Proofs.Ythbpcenobaloaaa.Pb
