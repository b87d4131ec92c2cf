/- The document's channels, walked: small functions. -/
import Derived.Test.YtbpeppmajmhmiaaDk
namespace Go.Proofs.Ytbpeppmajmhmiaa.Va
set_option linter.unusedVariables false
set_option linter.unusedSimpArgs false
open Go.RowKit Go.Proofs.Ytbpeppmajmhmiaa.Bt Go.Proofs.Ytbpeppmajmhmiaa.Wk Go.Proofs.Ytbpeppmajmhmiaa.Sg Go.Proofs.Ytbpeppmajmhmiaa.Dp Go.Proofs.Ytbpeppmajmhmiaa.Da Go.Proofs.Ytbpeppmajmhmiaa.Db Go.Proofs.Ytbpeppmajmhmiaa.Dc Go.Proofs.Ytbpeppmajmhmiaa.Dd Go.Proofs.Ytbpeppmajmhmiaa.De Go.Proofs.Ytbpeppmajmhmiaa.Fq Go.Proofs.Ytbpeppmajmhmiaa.Df Go.Proofs.Ytbpeppmajmhmiaa.Dg Go.Proofs.Ytbpeppmajmhmiaa.Dh Go.Proofs.Ytbpeppmajmhmiaa.Di Go.Proofs.Ytbpeppmajmhmiaa.Dj Go.Proofs.Ytbpeppmajmhmiaa.Dk

theorem bits_15_1 (x : Int) (h0 : 0 ≤ x) (h1 : x < 65536) (w : World) : Calls Try.prog 32 #[.int .u16 x, .int .i64 15, .int .i64 1] w fun e w' => e = .returned (.int .i64 (x / 32768 % 2)) ∧ ∃ n, w' = w.drewN n := by
  go_enter Try.func32, Try.ntmps32
  go_wp2_with fail
  go_quiet (fail)
  go_wp2
  go_ret
  exact ⟨rfl, _, rfl⟩
theorem bits_12_2 (x : Int) (h0 : 0 ≤ x) (h1 : x < 65536) (w : World) : Calls Try.prog 32 #[.int .u16 x, .int .i64 12, .int .i64 2] w fun e w' => e = .returned (.int .i64 (x / 4096 % 4)) ∧ ∃ n, w' = w.drewN n := by
  go_enter Try.func32, Try.ntmps32
  go_wp2_with fail
  go_quiet (fail)
  go_wp2
  go_ret
  exact ⟨rfl, _, rfl⟩
theorem bits_5_2 (x : Int) (h0 : 0 ≤ x) (h1 : x < 65536) (w : World) : Calls Try.prog 32 #[.int .u16 x, .int .i64 5, .int .i64 2] w fun e w' => e = .returned (.int .i64 (x / 32 % 4)) ∧ ∃ n, w' = w.drewN n := by
  go_enter Try.func32, Try.ntmps32
  go_wp2_with fail
  go_quiet (fail)
  go_wp2
  go_ret
  exact ⟨rfl, _, rfl⟩
theorem bits_7_2 (x : Int) (h0 : 0 ≤ x) (h1 : x < 65536) (w : World) : Calls Try.prog 32 #[.int .u16 x, .int .i64 7, .int .i64 2] w fun e w' => e = .returned (.int .i64 (x / 128 % 4)) ∧ ∃ n, w' = w.drewN n := by
  go_enter Try.func32, Try.ntmps32
  go_wp2_with fail
  go_quiet (fail)
  go_wp2
  go_ret
  exact ⟨rfl, _, rfl⟩
theorem bits_10_1 (x : Int) (h0 : 0 ≤ x) (h1 : x < 65536) (w : World) : Calls Try.prog 32 #[.int .u16 x, .int .i64 10, .int .i64 1] w fun e w' => e = .returned (.int .i64 (x / 1024 % 2)) ∧ ∃ n, w' = w.drewN n := by
  go_enter Try.func32, Try.ntmps32
  go_wp2_with fail
  go_quiet (fail)
  go_wp2
  go_ret
  exact ⟨rfl, _, rfl⟩
theorem bits_14_1 (x : Int) (h0 : 0 ≤ x) (h1 : x < 65536) (w : World) : Calls Try.prog 32 #[.int .u16 x, .int .i64 14, .int .i64 1] w fun e w' => e = .returned (.int .i64 (x / 16384 % 2)) ∧ ∃ n, w' = w.drewN n := by
  go_enter Try.func32, Try.ntmps32
  go_wp2_with fail
  go_quiet (fail)
  go_wp2
  go_ret
  exact ⟨rfl, _, rfl⟩
theorem bits_9_1 (x : Int) (h0 : 0 ≤ x) (h1 : x < 65536) (w : World) : Calls Try.prog 32 #[.int .u16 x, .int .i64 9, .int .i64 1] w fun e w' => e = .returned (.int .i64 (x / 512 % 2)) ∧ ∃ n, w' = w.drewN n := by
  go_enter Try.func32, Try.ntmps32
  go_wp2_with fail
  go_quiet (fail)
  go_wp2
  go_ret
  exact ⟨rfl, _, rfl⟩
theorem on_top {x : Int} (h0 : 0 ≤ x) (h1 : x < 65536) : (x / 32768 % 2 == 1) = (x / 32768 == 1) := by
  have : x / 32768 % 2 = x / 32768 := by omega
  rw [this]
theorem ron_any {w : World} {b o : Nat} (c : Ch) (h0 : 0 ≤ c.ctl) (h1 : c.ctl < 65536) (hc : w.cell? ⟨b, o + 3, none⟩ = some (.int .u16 c.ctl)) :
    Calls Try.prog 30 #[.pointer (some ⟨b, o, none⟩)] w fun e w' => e = .returned (.bool (on c)) ∧ ∃ n, w' = w.drewN n := by
  unfold on
  rw [← on_top h0 h1]
  generalize c.ctl = x at *
  have B := Lib.hid (bits_15_1 x h0 h1 w)
  go_enter Try.func30, Try.ntmps30
  go_wp2_with fail
  refine B.out.mono ?_
  rintro e w' ⟨rfl, n, rfl⟩
  go_wp2_with fail
  go_ret
  exact ⟨rfl, n, rfl⟩
set_option maxHeartbeats 2000000 in
theorem feeds_any {w : World} {ub i : Nat} {T : TypeId} {u : Nat → Ch} {c : Ch} (h : B1 w w ub T u i c) (hi : i < 4) (c0 : 0 ≤ c.ctl) (c1 : c.ctl < 65536) :
    Calls Try.prog 33 #[.pointer (some ⟨ub, 0, none⟩), .int .i64 i] w fun e w' => e = .returned (.bool (sound c i)) ∧ ∃ n, w' = w.drewN n := by
  have C3 := h.c3 hi
  have OH := Lib.hid (ron_any (b := ub) (o := i * 10) c c0 c1 C3)
  have i0 : (0 : Int) ≤ (i : Int) := by omega
  have i4 : (i : Int) < 4 := by omega
  have BH := Lib.hid (fun w => bits_12_2 c.ctl c0 c1 w)
  unfold sound wh
  clear h
  generalize on c = oc at *
  generalize hwk : c.ctl / 4096 % 4 = wk at *
  clear hwk
  cases oc
  · go_enter Try.func33, Try.ntmps33
    go_wp2_with fail
    refine OH.out.mono ?_
    rintro e w' ⟨rfl, n, rfl⟩
    go_wp2_with fail
    go_ret
    exact ⟨rfl, n, rfl⟩
  · cases t3 : (wk == 3)
    all_goals
      cases t1 : ((i : Int) == 1)
      all_goals
        go_enter Try.func33, Try.ntmps33
        go_wp2_with fail
        refine OH.out.mono ?_
        rintro e w' ⟨rfl, n, rfl⟩
        go_wp2_with fail
        refine (BH.out _).mono ?_
        rintro e w' ⟨rfl, m, rfl⟩
        go_wp2_with fail
        go_ret
        exact ⟨rfl, n + m, rfl⟩
theorem go0_any (a h n : Int) (a0 : 0 ≤ a) (a1 : a < 4294967296) (n0 : 0 ≤ n) (n1 : n < 8) (w : World) :
    Calls Try.prog 34 #[.int .u32 a, .int .i64 h, .int .i64 n] w fun e w' => e = .returned (.int .u32 (moved a h n)) ∧ w = w' := by
  unfold moved
  have g : IntKind.u32.wrap n = n := by rw [wrap_u32]; omega
  by_cases h1 : h = 1
  · rw [if_pos h1]
    have t : (h == 1) = true := by simpa using h1
    clear h1
    go_enter Try.func34, Try.ntmps34
    go_wp2
    go_ret
    exact ⟨rfl, rfl⟩
  · rw [if_neg h1]
    have t : (h == 1) = false := by simpa using h1
    clear h1
    by_cases h2 : h = 2
    · rw [if_pos h2]
      have t2 : (h == 2) = true := by simpa using h2
      clear h2
      go_enter Try.func34, Try.ntmps34
      go_wp2
      go_ret
      exact ⟨rfl, rfl⟩
    · rw [if_neg h2]
      have t2 : (h == 2) = false := by simpa using h2
      clear h2
      go_enter Try.func34, Try.ntmps34
      go_wp2
      go_ret
      exact ⟨rfl, rfl⟩
def lf0 (c : Ch) (i : Int) : Int := if c.count = 0 then most i else c.count
theorem ld_eq (c : Ch) (i : Int) : ldC c i = if sound c i then { c with first := true, left := 4 } else { c with first := true, left := lf0 c i } := by
  unfold ldC lf0
  split <;> rfl
set_option maxHeartbeats 8000000 in
theorem rload_any {w : World} {ub i : Nat} {T : TypeId} {u : Nat → Ch} {c : Ch} (h : B1 w w ub T u i c) (hi : i < 4) (c0 : 0 ≤ c.ctl) (c1 : c.ctl < 65536) :
    Calls Try.prog 31 #[.pointer (some ⟨ub, 0, none⟩), .int .i64 i] w fun e w' => e = .returned (.tuple #[]) ∧ B1 w w' ub T u i (ldC c i) := by
  have C2 := h.c2 hi
  have C6 := h.c6 hi
  have C8 := h.c8 hi
  have Fz := h.free
  have ub0 := h.lt
  have i0 : (0 : Int) ≤ (i : Int) := by omega
  have i4 : (i : Int) < 4 := by omega
  have S0 := (h.s8 hi true).s6 hi c.count
  have LE := Lib.hid (ld_eq c i)
  have fin : ∀ (w2 : World) (lf : Int), B1 w w2 ub T u i { c with first := true, left := lf } → lf = lf0 c i → Calls Try.prog 33 #[.pointer (some ⟨ub, 0, none⟩), .int .i64 i] w2 fun e w' => e = .returned (.bool (sound c i)) ∧ B1 w w' ub T u i { c with first := true, left := lf } := fun w2 lf b e => by
    refine (feeds_any (B1.self b) hi c0 c1).mono ?_
    rintro e w' ⟨rfl, n, rfl⟩
    exact ⟨rfl, Only.drewN n b⟩
  have FN := Lib.hid fin
  have S0H := Lib.hid S0
  have S1H := Lib.hid (S0.s6 hi 16384)
  clear S0 fin
  have DH := Lib.hid (show sound c i = false → ldC c i = { c with first := true, left := lf0 c i } from fun hs => by rw [LE.out, hs]; rfl)
  have DH2 := Lib.hid (show sound c i = true → ldC c i = { c with first := true, left := 4 } from fun hs => by rw [LE.out, hs]; rfl)
  clear LE h
  go_enter Try.func31, Try.ntmps31
  go_upto_if 24 with fail
  go_cut [] (fun wx => Hid (B1 w wx ub T u i { c with first := true, left := lf0 c i }))
  case first =>
    by_cases hz : c.count = 0
    · have tz : (c.count == 0) = true := by simpa using hz
      by_cases h3 : (i : Int) = 3
      · have t3 : ((i : Int) == 3) = true := by simpa using h3
        have hl : lf0 c i = 65536 := by unfold lf0 most; rw [if_pos hz, if_pos h3]
        have HL := Lib.hid hl
        clear hz h3 hl
        go_upto_region 6 with fail
        have b := S1H.out
        generalize ((w.setCell ⟨ub, i * 10 + 8, none⟩ (.bool true)).setCell ⟨ub, i * 10 + 6, none⟩ (.int .i64 c.count)).setCell ⟨ub, i * 10 + 6, none⟩ (.int .i64 16384) = w2 at *
        have D6 := b.c6 hi
        have G := b.free
        have ub1 := b.lt
        have S4 := Lib.hid (b.s6 hi 65536)
        clear b S1H C2 C6 C8 Fz
        go_wp2_with fail
        go_meet
        case rel => rw [HL.out]; exact S4
      · have t3 : ((i : Int) == 3) = false := by simpa using h3
        have hl : lf0 c i = 16384 := by unfold lf0 most; rw [if_pos hz, if_neg h3]
        have HL := Lib.hid hl
        clear hz h3 hl
        go_wp2_with fail
        go_meet
        case rel => rw [HL.out]; exact S1H
    · have tz : (c.count == 0) = false := by simpa using hz
      have hl : lf0 c i = c.count := by unfold lf0; rw [if_neg hz]
      have HL := Lib.hid hl
      clear hz hl
      go_wp2_with fail
      go_meet
      case rel => rw [HL.out]; exact S0H
  case rest =>
  have b := hcut.out
  clear S0H S1H C2 C6 C8 Fz
  go_wp2_with fail
  refine (FN.out _ _ b rfl).mono ?_
  rintro e w' ⟨rfl, b⟩
  have D6 := b.c6 hi
  have G := b.free
  have ub1 := b.lt
  have S4 := Lib.hid (b.s6 hi 4)
  have BH := Lib.hid b
  clear b FN
  cases hs : sound c i
  · have E := Lib.hid (DH.out hs)
    clear hs DH DH2
    go_wp2_with fail
    go_end0
    refine ⟨rfl, ?_⟩
    rw [E.out]
    exact BH.out
  · have E := Lib.hid (DH2.out hs)
    clear hs DH DH2
    go_wp2_with fail
    go_end0
    refine ⟨rfl, ?_⟩
    rw [E.out]
    exact S4.out
end Go.Proofs.Ytbpeppmajmhmiaa.Va
