/- The document's channels, walked: Write. -/
import Derived.Test.YtbpeppmajmhmiaaVb
namespace Go.Proofs.Ytbpeppmajmhmiaa.Vc
set_option linter.unusedVariables false
set_option linter.unusedSimpArgs false
open Go.RowKit Go.Proofs.Ytbpeppmajmhmiaa.Bt Go.Proofs.Ytbpeppmajmhmiaa.Wk Go.Proofs.Ytbpeppmajmhmiaa.Sg Go.Proofs.Ytbpeppmajmhmiaa.Dp Go.Proofs.Ytbpeppmajmhmiaa.Da Go.Proofs.Ytbpeppmajmhmiaa.Db Go.Proofs.Ytbpeppmajmhmiaa.Dc Go.Proofs.Ytbpeppmajmhmiaa.Dd Go.Proofs.Ytbpeppmajmhmiaa.De Go.Proofs.Ytbpeppmajmhmiaa.Fq Go.Proofs.Ytbpeppmajmhmiaa.Df Go.Proofs.Ytbpeppmajmhmiaa.Dg Go.Proofs.Ytbpeppmajmhmiaa.Dh Go.Proofs.Ytbpeppmajmhmiaa.Di Go.Proofs.Ytbpeppmajmhmiaa.Dj Go.Proofs.Ytbpeppmajmhmiaa.Dk Go.Proofs.Ytbpeppmajmhmiaa.Va Go.Proofs.Ytbpeppmajmhmiaa.Vb

theorem ctlX_wh {x : Int} (h0 : 0 ≤ x) (h1 : x < 65536) : ctlX x / 4096 % 4 = x / 4096 % 4 := by
  obtain ⟨n, rfl⟩ := Int.eq_ofNat_of_zero_le h0
  unfold ctlX
  rw [show (63456 : Int) = ((63456 : Nat) : Int) from rfl, and_nat .u16 ws_u16 n _ (by simp [IntKind.bits]; omega) (by decide)]
  have s := land_split 12 n 63456
  rw [show 63456 % 2 ^ 12 = 2016 by decide, show 63456 / 2 ^ 12 = 2 ^ 4 - 1 by decide, Nat.and_two_pow_sub_one_eq_mod] at s
  have l : (n % 2 ^ 12) &&& 2016 < 4096 := Nat.lt_of_le_of_lt Nat.and_le_right (by decide)
  generalize (n % 2 ^ 12) &&& 2016 = y at *
  rw [s]
  omega
set_option maxRecDepth 100000 in
set_option maxHeartbeats 8000000 in
theorem rwrite0 {w : World} {ub i : Nat} {T : TypeId} {u : Nat → Ch} {c : Ch} (h : B1 w w ub T u i c) (hi : i < 4) (f : Wf c) (x : Int) (x0 : 0 ≤ x) (x1 : x < 65536) :
    Calls Try.prog 24 #[.pointer (some ⟨ub, 0, none⟩), .int .i64 i, .int .i64 0, .int .u16 x] w fun e w' => e = .returned (.tuple #[]) ∧ B1 w w' ub T u i (wrC c i 0 x) := by
  have s0 := f.s0
  have s1 := f.s1
  have e : wrC c i 0 x = { c with src := c.src / 65536 * 65536 + x } := rfl
  have H := Lib.hid (h.s0 hi (c.src / 65536 * 65536 + x))
  rw [e]
  have C0 := h.c0 hi
  have C1 := h.c1 hi
  have C3 := h.c3 hi
  have Fz := h.free
  have ub0 := h.lt
  have i0 : (0 : Int) ≤ (i : Int) := by omega
  have i4 : (i : Int) < 4 := by omega
  clear h e
  generalize c.src = y at *
  go_enter Try.func24, Try.ntmps24
  go_wp2
  go_end0
  exact ⟨rfl, H.out⟩
set_option maxRecDepth 100000 in
set_option maxHeartbeats 8000000 in
theorem rwrite2 {w : World} {ub i : Nat} {T : TypeId} {u : Nat → Ch} {c : Ch} (h : B1 w w ub T u i c) (hi : i < 4) (f : Wf c) (x : Int) (x0 : 0 ≤ x) (x1 : x < 65536) :
    Calls Try.prog 24 #[.pointer (some ⟨ub, 0, none⟩), .int .i64 i, .int .i64 2, .int .u16 x] w fun e w' => e = .returned (.tuple #[]) ∧ B1 w w' ub T u i (wrC c i 2 x) := by
  have s0 := f.d0
  have s1 := f.d1
  have e : wrC c i 2 x = { c with dst := c.dst / 65536 * 65536 + x } := rfl
  have H := Lib.hid (h.s1 hi (c.dst / 65536 * 65536 + x))
  rw [e]
  have C0 := h.c0 hi
  have C1 := h.c1 hi
  have C3 := h.c3 hi
  have Fz := h.free
  have ub0 := h.lt
  have i0 : (0 : Int) ≤ (i : Int) := by omega
  have i4 : (i : Int) < 4 := by omega
  clear h e
  generalize c.dst = y at *
  go_enter Try.func24, Try.ntmps24
  go_wp2
  go_end0
  exact ⟨rfl, H.out⟩
set_option maxRecDepth 100000 in
set_option maxHeartbeats 8000000 in
theorem rwrite1 {w : World} {ub i : Nat} {T : TypeId} {u : Nat → Ch} {c : Ch} (h : B1 w w ub T u i c) (hi : i < 4) (f : Wf c) (x : Int) (x0 : 0 ≤ x) (x1 : x < 65536) :
    Calls Try.prog 24 #[.pointer (some ⟨ub, 0, none⟩), .int .i64 i, .int .i64 1, .int .u16 x] w fun e w' => e = .returned (.tuple #[]) ∧ B1 w w' ub T u i (wrC c i 1 x) := by
  have s0 := f.s0
  have s1 := f.s1
  have C0 := h.c0 hi
  have C1 := h.c1 hi
  have C3 := h.c3 hi
  have Fz := h.free
  have ub0 := h.lt
  have i0 : (0 : Int) ≤ (i : Int) := by omega
  have i4 : (i : Int) < 4 := by omega
  by_cases hi0 : (i : Int) = 0
  · have e : wrC c i 1 x = { c with src := c.src % 65536 + x % 2048 * 65536 } := by
      unfold wrC
      rw [if_neg (by decide), if_pos rfl, if_pos hi0]
    have H := Lib.hid (h.s0 hi (c.src % 65536 + x % 2048 * 65536))
    rw [e]
    have ti : ((i : Int) == 0) = true := by simpa using hi0
    have r0 : 0 ≤ x % 2048 := by omega
    have r1 : x % 2048 < 2048 := by omega
    have r2 : x % 2048 % 4096 = x % 2048 := by omega
    clear h e hi0
    generalize c.src = y at *
    go_enter Try.func24, Try.ntmps24
    go_wp2
    go_end0
    exact ⟨rfl, H.out⟩
  · have e : wrC c i 1 x = { c with src := c.src % 65536 + x % 4096 * 65536 } := by
      unfold wrC
      rw [if_neg (by decide), if_pos rfl, if_neg hi0]
    have H := Lib.hid (h.s0 hi (c.src % 65536 + x % 4096 * 65536))
    rw [e]
    have ti : ((i : Int) == 0) = false := by simpa using hi0
    have r0 : 0 ≤ x % 4096 := by omega
    have r1 : x % 4096 < 4096 := by omega
    have r2 : x % 4096 % 4096 = x % 4096 := by omega
    clear h e hi0
    generalize c.src = y at *
    go_enter Try.func24, Try.ntmps24
    go_wp2
    go_end0
    exact ⟨rfl, H.out⟩
set_option maxRecDepth 100000 in
set_option maxHeartbeats 8000000 in
theorem rwrite3 {w : World} {ub i : Nat} {T : TypeId} {u : Nat → Ch} {c : Ch} (h : B1 w w ub T u i c) (hi : i < 4) (f : Wf c) (x : Int) (x0 : 0 ≤ x) (x1 : x < 65536) :
    Calls Try.prog 24 #[.pointer (some ⟨ub, 0, none⟩), .int .i64 i, .int .i64 3, .int .u16 x] w fun e w' => e = .returned (.tuple #[]) ∧ B1 w w' ub T u i (wrC c i 3 x) := by
  have s0 := f.d0
  have s1 := f.d1
  have C0 := h.c0 hi
  have C1 := h.c1 hi
  have C3 := h.c3 hi
  have Fz := h.free
  have ub0 := h.lt
  have i0 : (0 : Int) ≤ (i : Int) := by omega
  have i4 : (i : Int) < 4 := by omega
  by_cases hi0 : (i : Int) = 3
  · have e : wrC c i 3 x = { c with dst := c.dst % 65536 + x % 4096 * 65536 } := by
      unfold wrC
      rw [if_neg (by decide), if_neg (by decide), if_neg (by decide), if_pos rfl, if_pos hi0]
    have H := Lib.hid (h.s1 hi (c.dst % 65536 + x % 4096 * 65536))
    rw [e]
    have ti : decide ((i : Int) < 3) = false := by simp; omega
    have ti2 : 3 ≤ (i : Int) := by omega
    have r0 : 0 ≤ x % 4096 := by omega
    have r1 : x % 4096 < 4096 := by omega
    have r2 : x % 4096 % 4096 = x % 4096 := by omega
    clear h e hi0
    generalize c.dst = y at *
    go_enter Try.func24, Try.ntmps24
    go_wp2
    go_end0
    exact ⟨rfl, H.out⟩
  · have e : wrC c i 3 x = { c with dst := c.dst % 65536 + x % 2048 * 65536 } := by
      unfold wrC
      rw [if_neg (by decide), if_neg (by decide), if_neg (by decide), if_pos rfl, if_neg hi0]
    have H := Lib.hid (h.s1 hi (c.dst % 65536 + x % 2048 * 65536))
    rw [e]
    have ti : decide ((i : Int) < 3) = true := by simp; omega
    have ti2 : (i : Int) < 3 := by omega
    have r0 : 0 ≤ x % 2048 := by omega
    have r1 : x % 2048 < 2048 := by omega
    have r2 : x % 2048 % 4096 = x % 2048 := by omega
    clear h e hi0
    generalize c.dst = y at *
    go_enter Try.func24, Try.ntmps24
    go_wp2
    go_end0
    exact ⟨rfl, H.out⟩
set_option maxRecDepth 100000 in
set_option maxHeartbeats 8000000 in
theorem rwrite4 {w : World} {ub i : Nat} {T : TypeId} {u : Nat → Ch} {c : Ch} (h : B1 w w ub T u i c) (hi : i < 4) (f : Wf c) (x : Int) (x0 : 0 ≤ x) (x1 : x < 65536) :
    Calls Try.prog 24 #[.pointer (some ⟨ub, 0, none⟩), .int .i64 i, .int .i64 4, .int .u16 x] w fun e w' => e = .returned (.tuple #[]) ∧ B1 w w' ub T u i (wrC c i 4 x) := by
  have C0 := h.c0 hi
  have C1 := h.c1 hi
  have C3 := h.c3 hi
  have Fz := h.free
  have ub0 := h.lt
  have i0 : (0 : Int) ≤ (i : Int) := by omega
  have i4 : (i : Int) < 4 := by omega
  have C2 := h.c2 hi
  by_cases hi0 : (i : Int) = 3
  · have e : wrC c i 4 x = { c with count := x } := by
      show ({ c with count := x % most (i : Int) } : Ch) = _
      rw [show most (i : Int) = 65536 from if_pos hi0, show x % 65536 = x by omega]
    have H := Lib.hid (h.s2 hi x)
    rw [e]
    have ti2 : 3 ≤ (i : Int) := by omega
    clear h e hi0
    go_enter Try.func24, Try.ntmps24
    go_wp2
    go_end0
    exact ⟨rfl, H.out⟩
  · have e : wrC c i 4 x = { c with count := x % 16384 } := by
      show ({ c with count := x % most (i : Int) } : Ch) = _
      rw [show most (i : Int) = 16384 from if_neg hi0]
    have H := Lib.hid ((h.s2 hi x).s2 hi (x % 16384))
    rw [e]
    have ti2 : (i : Int) < 3 := by omega
    clear h e hi0
    go_enter Try.func24, Try.ntmps24
    go_wp2
    go_end0
    exact ⟨rfl, H.out⟩
set_option maxRecDepth 100000 in
set_option maxHeartbeats 8000000 in
theorem rwrite5 {w : World} {ub i : Nat} {T : TypeId} {u : Nat → Ch} {c : Ch} (h : B1 w w ub T u i c) (hi : i < 4) (f : Wf c) (x : Int) (x0 : 0 ≤ x) (x1 : x < 65536) :
    Calls Try.prog 24 #[.pointer (some ⟨ub, 0, none⟩), .int .i64 i, .int .i64 5, .int .u16 x] w fun e w' => e = .returned (.tuple #[]) ∧ B1 w w' ub T u i (wrC c i 5 x) := by
  have C0 := h.c0 hi
  have C1 := h.c1 hi
  have C3 := h.c3 hi
  have Fz := h.free
  have ub0 := h.lt
  have i0 : (0 : Int) ≤ (i : Int) := by omega
  have i4 : (i : Int) < 4 := by omega
  have c0 := f.c0
  have c1 := f.c1
  have b := ctlX_bd x0 x1
  have O1 := Lib.hid (ron_any (b := ub) (o := i * 10) c c0 c1 C3)
  have g : Go.bits .and .u16 x 63456 = ctlX x := rfl
  obtain ⟨b0, b1⟩ := b
  have BH := Lib.hid h
  have BW := Lib.hid (fun w => bits_12_2 x x0 x1 w)
  have wrE : wrC c i 5 x = (let d := { c with ctl := ctlX x }; if on d = false then { d with pend := false } else if on c then d else let e := ldC { d with at_ := d.src, to_ := d.dst } i; { e with pend := wh e == 0 }) := rfl
  have WE := Lib.hid wrE
  have WX := Lib.hid (ctlX_wh x0 x1)
  clear h wrE C0 C1 f
  generalize hcx : ctlX x = cx at *
  have HCX := Lib.hid hcx
  clear hcx
  go_enter Try.func24, Try.ntmps24
  go_wp2_with fail
  refine O1.out.mono ?_
  rintro e w' ⟨rfl, q, rfl⟩
  have bq : B1 w (w.drewN q) ub T u i c := Only.drewN _ BH.out
  generalize w.drewN q = w0 at *
  clear C3 Fz ub0
  have C3 := bq.c3 hi
  have Fz := bq.free
  have ub0 := bq.lt
  have H1 := Lib.hid (bq.s3 hi cx)
  clear bq
  go_wp2_with fail
  generalize w0.setCell ⟨ub, i * 10 + 3, none⟩ (.int .u16 cx) = w1 at *
  clear C3 Fz ub0
  have O2 := Lib.hid (ron_any (b := ub) (o := i * 10) { c with ctl := cx } b0 b1 (H1.out.c3 hi))
  refine O2.out.mono ?_
  rintro e w' ⟨rfl, q2, rfl⟩
  have H2 : Hid (B1 w (w1.drewN q2) ub T u i { c with ctl := cx }) := Lib.hid (Only.drewN _ H1.out)
  generalize w1.drewN q2 = w2 at *
  clear H1 O2 O1
  have ub1 := H2.out.lt
  have Fz := H2.out.free
  have D7 := H2.out.c7 hi
  cases o2 : on { c with ctl := cx }
  · have H3 : Hid (B1 w (w2.setCell ⟨ub, i * 10 + 7, none⟩ (.bool false)) ub T u i (wrC c i 5 x)) := Lib.hid (by
      rw [WE.out]; (try dsimp only); rw [if_pos o2]; exact H2.out.s7 hi false)
    clear o2
    go_wp2
    go_end0
    exact ⟨rfl, H3.out⟩
  · cases o1 : on c
    · have D0 := H2.out.c0 hi
      have D1 := H2.out.c1 hi
      have D4 := H2.out.c4 hi
      have D5 := H2.out.c5 hi
      dsimp only at D0 D1 D4 D5 D7
      have S3 := Lib.hid ((H2.out.s4 hi c.src).s5 hi c.dst)
      have WEO := Lib.hid (show wrC c i 5 x = { (ldC { c with ctl := cx, at_ := c.src, to_ := c.dst } i) with pend := wh (ldC { c with ctl := cx, at_ := c.src, to_ := c.dst } i) == 0 } by rw [WE.out]; (try dsimp only); rw [if_neg (by rw [o2]; decide), if_neg (by rw [o1]; decide)])
      clear o1 o2
      go_upto_region 28 with fail
      generalize (w2.setCell ⟨ub, i * 10 + 4, none⟩ (.int .u32 c.src)).setCell ⟨ub, i * 10 + 5, none⟩ (.int .u32 c.dst) = w3 at *
      clear D0 D1 D4 D5 D7 Fz ub1
      have L := Lib.hid (rload_any (B1.self S3.out) hi b0 b1)
      generalize hcc : ({ c with ctl := cx, at_ := c.src, to_ := c.dst } : Ch) = cc at *
      have EC := Lib.hid (show cc.ctl = cx by rw [← hcc])
      clear hcc
      go_wp2_with fail
      refine L.out.mono ?_
      rintro e w4 ⟨rfl, hl⟩
      have S4 := Lib.hid (S3.out.trans hl)
      clear hl L
      go_wp2_with fail
      refine (BW.out _).mono ?_
      rintro e w' ⟨rfl, q3, rfl⟩
      have S5 : B1 w (w4.drewN q3) ub T u i (ldC cc i) := Only.drewN _ S4.out
      generalize w4.drewN q3 = w5 at *
      have D7 := S5.c7 hi
      have Fz := S5.free
      have ub3 := S5.lt
      have WHX : wh (ldC cc i) = x / 4096 % 4 := by
        have e : (ldC cc i).ctl = cx := by show cc.ctl = cx; exact EC.out
        unfold wh
        rw [e]
        exact WX.out
      have H5 := Lib.hid (show B1 w _ ub T u i { (ldC cc i) with pend := wh (ldC cc i) == 0 } from S5.s7 hi (wh (ldC cc i) == 0))
      rw [WHX] at H5
      have WHY := Lib.hid WHX
      clear S5 WHX
      generalize (ldC cc i).pend = pp at *
      generalize x / 4096 % 4 = xx at *
      go_wp2_with fail
      go_end0
      refine ⟨rfl, ?_⟩
      rw [WEO.out, WHY.out]
      exact H5.out
    · have H3 : Hid (B1 w w2 ub T u i (wrC c i 5 x)) := Lib.hid (by
        rw [WE.out]; (try dsimp only); rw [if_neg (by rw [o2]; decide), if_pos o1]; exact H2.out)
      clear o1 o2
      go_wp2
      go_end0
      exact ⟨rfl, H3.out⟩
set_option maxRecDepth 100000 in
set_option maxHeartbeats 4000000 in
theorem rwriteE {w : World} {ub i : Nat} {T : TypeId} {u : Nat → Ch} {c : Ch} (h : B1 w w ub T u i c) (hi : i < 4) (part x : Int) (x0 : 0 ≤ x) (x1 : x < 65536) (hp : part < 0 ∨ 5 < part) :
    Calls Try.prog 24 #[.pointer (some ⟨ub, 0, none⟩), .int .i64 i, .int .i64 part, .int .u16 x] w fun e w' => e = .returned (.tuple #[]) ∧ w = w' := by
  have i0 : (0 : Int) ≤ (i : Int) := by omega
  have i4 : (i : Int) < 4 := by omega
  have t0 : (part == 0) = false := by
    have : part ≠ 0 := by omega
    simpa using this
  have t1 : (part == 1) = false := by
    have : part ≠ 1 := by omega
    simpa using this
  have t2 : (part == 2) = false := by
    have : part ≠ 2 := by omega
    simpa using this
  have t3 : (part == 3) = false := by
    have : part ≠ 3 := by omega
    simpa using this
  have t4 : (part == 4) = false := by
    have : part ≠ 4 := by omega
    simpa using this
  have t5 : (part == 5) = false := by
    have : part ≠ 5 := by omega
    simpa using this
  clear hp h
  go_enter Try.func24, Try.ntmps24
  go_wp2
  go_end0
  exact ⟨rfl, rfl⟩
theorem rwriteP {w : World} {ub i : Nat} {T : TypeId} {u : Nat → Ch} {c : Ch} (h : B1 w w ub T u i c) (hi : i < 4) (f : Wf c) (part x : Int) (x0 : 0 ≤ x) (x1 : x < 65536) :
    Calls Try.prog 24 #[.pointer (some ⟨ub, 0, none⟩), .int .i64 i, .int .i64 part, .int .u16 x] w fun e w' => e = .returned (.tuple #[]) ∧ B1 w w' ub T u i (wrC c i part x) := by
  by_cases h0 : part = 0
  · subst h0; exact rwrite0 h hi f x x0 x1
  by_cases h1 : part = 1
  · subst h1; exact rwrite1 h hi f x x0 x1
  by_cases h2 : part = 2
  · subst h2; exact rwrite2 h hi f x x0 x1
  by_cases h3 : part = 3
  · subst h3; exact rwrite3 h hi f x x0 x1
  by_cases h4 : part = 4
  · subst h4; exact rwrite4 h hi f x x0 x1
  by_cases h5 : part = 5
  · subst h5; exact rwrite5 h hi f x x0 x1
  refine (rwriteE h hi part x x0 x1 (by omega)).mono ?_
  rintro e w' ⟨rfl, rfl⟩
  have e : wrC c i part x = c := by
    unfold wrC
    rw [if_neg h0, if_neg h1, if_neg h2, if_neg h3, if_neg h4, if_neg h5]
  rw [e]
  exact ⟨rfl, h⟩
theorem rwrite_out (p : Value) (i part x : Int) (hi : i < 0 ∨ 3 < i) (w : World) :
    Calls Try.prog 24 #[p, .int .i64 i, .int .i64 part, .int .u16 x] w fun e w' => e = .returned (.tuple #[]) ∧ w = w' := by
  by_cases h0 : i < 0
  · have t : decide (i < 0) = true := decide_eq_true h0
    clear hi
    go_enter Try.func24, Try.ntmps24
    go_wp2
    refine bodyPost_ret (results_none rfl _ _ _) rfl ?_
    exact ⟨rfl, rfl⟩
  · have t : decide (i < 0) = false := decide_eq_false h0
    have h3 : 3 < i := by omega
    have t3 : decide (3 < i) = true := decide_eq_true h3
    clear hi
    go_enter Try.func24, Try.ntmps24
    go_wp2
    refine bodyPost_ret (results_none rfl _ _ _) rfl ?_
    exact ⟨rfl, rfl⟩
end Go.Proofs.Ytbpeppmajmhmiaa.Vc
