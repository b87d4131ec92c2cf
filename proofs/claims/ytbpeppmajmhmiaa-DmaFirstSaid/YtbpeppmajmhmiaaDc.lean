/- Package dma, walked: Write, the count and the control word. -/
import Derived.Test.YtbpeppmajmhmiaaDb
namespace Go.Proofs.Ytbpeppmajmhmiaa.Dc
set_option linter.unusedVariables false
set_option linter.unusedSimpArgs false
open Go.RowKit Go.Proofs.Ytbpeppmajmhmiaa.Bt Go.Proofs.Ytbpeppmajmhmiaa.Wk Go.Proofs.Ytbpeppmajmhmiaa.Sg Go.Proofs.Ytbpeppmajmhmiaa.Dp Go.Proofs.Ytbpeppmajmhmiaa.Da Go.Proofs.Ytbpeppmajmhmiaa.Db

set_option maxRecDepth 100000 in
set_option maxHeartbeats 8000000 in
theorem write4 {w : World} {ub i : Nat} {T : TypeId} {u : Nat → Ch} {c : Ch} (h : B1 w w ub T u i c) (hi : i < 4) (f : Wf c) (x : Int) (x0 : 0 ≤ x) (x1 : x < 65536) :
    Calls Try.prog 10 #[.pointer (some ⟨ub, 0, none⟩), .int .i64 i, .int .i64 4, .int .u16 x] w fun e w' => e = .returned (.tuple #[]) ∧ B1 w w' ub T u i (wrC c i 4 x) := by
  have M := Lib.hid (most_any (i : Int))
  have e : wrC c i 4 x = { c with count := x % most (i : Int) } := rfl
  have H := Lib.hid (h.s2 hi (x % most (i : Int)))
  rw [e]
  have C0 := h.c0 hi
  have C1 := h.c1 hi
  have C3 := h.c3 hi
  have Fz := h.free
  have ub0 := h.lt
  have i0 : (0 : Int) ≤ (i : Int) := by omega
  have i4 : (i : Int) < 4 := by omega
  have q0 : decide ((i : Int) < 0) = false := decide_eq_false (by omega)
  have q3 : decide ((3 : Int) < (i : Int)) = false := decide_eq_false (by omega)
  have C2 := h.c2 hi
  have g : Go.bits .and .i64 x (most (i : Int) - 1) = x % most (i : Int) ∧ (most (i : Int) = 65536 ∨ most (i : Int) = 16384) := by
    unfold most
    by_cases h3 : (i : Int) = 3
    · rw [if_pos h3]; exact ⟨by have := and_mask_i64 x 16 (by decide); simpa using this, .inl rfl⟩
    · rw [if_neg h3]; exact ⟨by have := and_mask_i64 x 14 (by decide); simpa using this, .inr rfl⟩
  obtain ⟨g1, g2⟩ := g
  have m0 : 0 ≤ most (i : Int) := by omega
  have m1 : most (i : Int) ≤ 65536 := by omega
  have G2 := Lib.hid g2
  clear h e g2
  generalize most (i : Int) = mi at *
  go_enter Try.func10, Try.ntmps10
  go_wp2_with (go_at_call 18; ((with_reducible refine (M.out _).mono ?_); rintro e w' ⟨rfl, rfl⟩))
  go_end0
  exact ⟨rfl, H.out⟩
set_option maxRecDepth 100000 in
set_option maxHeartbeats 8000000 in
theorem write5 {w : World} {ub i : Nat} {T : TypeId} {u : Nat → Ch} {c : Ch} (h : B1 w w ub T u i c) (hi : i < 4) (f : Wf c) (x : Int) (x0 : 0 ≤ x) (x1 : x < 65536) :
    Calls Try.prog 10 #[.pointer (some ⟨ub, 0, none⟩), .int .i64 i, .int .i64 5, .int .u16 x] w fun e w' => e = .returned (.tuple #[]) ∧ B1 w w' ub T u i (wrC c i 5 x) := by
  have C0 := h.c0 hi
  have C1 := h.c1 hi
  have C3 := h.c3 hi
  have Fz := h.free
  have ub0 := h.lt
  have i0 : (0 : Int) ≤ (i : Int) := by omega
  have i4 : (i : Int) < 4 := by omega
  have q0 : decide ((i : Int) < 0) = false := decide_eq_false (by omega)
  have q3 : decide ((3 : Int) < (i : Int)) = false := decide_eq_false (by omega)
  have c0 := f.c0
  have c1 := f.c1
  have b := ctlX_bd x0 x1
  have O1 := Lib.hid (on_any c c0 c1 C3)
  have h1 := h.s3 hi (ctlX x)
  have g : Go.bits .and .u16 x 63456 = ctlX x := rfl
  obtain ⟨b0, b1⟩ := b
  have O2 := Lib.hid (on_any { c with ctl := ctlX x } b0 b1 (h1.c3 hi))
  have H1 := Lib.hid h1
  have wrE : wrC c i 5 x = (let d := { c with ctl := ctlX x }; if on d = false then { d with pend := false } else if on c then d else let e := ldC { d with at_ := d.src, to_ := d.dst } i; { e with pend := wh e == 0 }) := rfl
  have WE := Lib.hid wrE
  clear h h1 wrE C0 C1 f
  generalize hcx : ctlX x = cx at *
  have HCX := Lib.hid hcx
  clear hcx
  go_enter Try.func10, Try.ntmps10
  go_wp2_with fail
  refine O1.out.mono ?_
  rintro e w' ⟨rfl, rfl⟩
  go_wp2_with fail
  generalize w.setCell ⟨ub, i * 10 + 3, none⟩ (.int .u16 cx) = w1 at *
  clear C3 Fz ub0
  refine O2.out.mono ?_
  rintro e w' ⟨rfl, rfl⟩
  have ub1 := H1.out.lt
  have Fz := H1.out.free
  have D7 := H1.out.c7 hi
  cases o2 : on { c with ctl := cx }
  · have H2 : Hid (B1 w (w1.setCell ⟨ub, i * 10 + 7, none⟩ (.bool false)) ub T u i (wrC c i 5 x)) := Lib.hid (by
      rw [WE.out]; (try dsimp only); rw [if_pos o2]; exact H1.out.s7 hi false)
    clear o2
    go_wp2
    go_end0
    exact ⟨rfl, H2.out⟩
  · cases o1 : on c
    · have D0 := H1.out.c0 hi
      have D1 := H1.out.c1 hi
      have D4 := H1.out.c4 hi
      have D5 := H1.out.c5 hi
      dsimp only at D0 D1 D4 D5 D7
      have S2 := (H1.out.s4 hi c.src).s5 hi c.dst
      have WEO := Lib.hid (show wrC c i 5 x = { (ldC { c with ctl := cx, at_ := c.src, to_ := c.dst } i) with pend := wh (ldC { c with ctl := cx, at_ := c.src, to_ := c.dst } i) == 0 } by rw [WE.out]; (try dsimp only); rw [if_neg (by rw [o2]; decide), if_neg (by rw [o1]; decide)])
      have S2H := Lib.hid S2
      clear o1 o2 S2
      go_upto_region 26 with fail
      go_region
      have S3 := Lib.hid (show B1 w _ ub T u i { c with ctl := cx, at_ := c.src, to_ := c.dst } from Only.drew S2H.out)
      generalize ((w1.setCell ⟨ub, i * 10 + 4, none⟩ (.int .u32 c.src)).setCell ⟨ub, i * 10 + 5, none⟩ (.int .u32 c.dst)).drew = w2 at *
      clear D0 D1 D4 D5 D7 Fz ub1
      have L := Lib.hid (load_any (B1.self S3.out) hi b0 b1)
      generalize hcc : ({ c with ctl := cx, at_ := c.src, to_ := c.dst } : Ch) = cc at *
      have ec : cc.ctl = cx := by rw [← hcc]
      have EC := Lib.hid ec
      have HCC := Lib.hid hcc
      clear hcc ec
      go_wp2_with fail
      refine L.out.mono ?_
      rintro e w3 ⟨rfl, hl⟩
      have S4 := S3.out.trans hl
      have WN := Lib.hid (when_any (w := w3) (b := ub) (o := i * 10) (ldC cc i) (by show 0 ≤ cc.ctl; rw [EC.out]; exact b0) (by show cc.ctl < 65536; rw [EC.out]; exact b1) (S4.c3 hi))
      have D7 := S4.c7 hi
      have Fz := S4.free
      have ub3 := S4.lt
      have H5 := Lib.hid (S4.s7 hi (wh (ldC cc i) == 0))
      clear S4 hl
      generalize (ldC cc i).pend = pp at *
      generalize wh (ldC cc i) = ww at *
      go_wp2_with fail
      refine WN.out.mono ?_
      rintro e w' ⟨rfl, rfl⟩
      go_wp2_with fail
      go_end0
      refine ⟨rfl, ?_⟩
      rw [WEO.out]
      exact H5.out
    · have H2 : Hid (B1 w w1 ub T u i (wrC c i 5 x)) := Lib.hid (by
        rw [WE.out]; (try dsimp only); rw [if_neg (by rw [o2]; decide), if_pos o1]; exact H1.out)
      clear o1 o2
      go_wp2
      go_end0
      exact ⟨rfl, H2.out⟩
end Go.Proofs.Ytbpeppmajmhmiaa.Dc
