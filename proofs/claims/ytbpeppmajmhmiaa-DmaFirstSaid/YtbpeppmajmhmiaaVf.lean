/- The document's channels, walked: Took. -/
import Derived.Test.YtbpeppmajmhmiaaVe
namespace Go.Proofs.Ytbpeppmajmhmiaa.Vf
set_option linter.unusedVariables false
set_option linter.unusedSimpArgs false
open Go.RowKit Go.Proofs.Ytbpeppmajmhmiaa.Bt Go.Proofs.Ytbpeppmajmhmiaa.Wk Go.Proofs.Ytbpeppmajmhmiaa.Sg Go.Proofs.Ytbpeppmajmhmiaa.Dp Go.Proofs.Ytbpeppmajmhmiaa.Da Go.Proofs.Ytbpeppmajmhmiaa.Db Go.Proofs.Ytbpeppmajmhmiaa.Dc Go.Proofs.Ytbpeppmajmhmiaa.Dd Go.Proofs.Ytbpeppmajmhmiaa.De Go.Proofs.Ytbpeppmajmhmiaa.Fq Go.Proofs.Ytbpeppmajmhmiaa.Df Go.Proofs.Ytbpeppmajmhmiaa.Dg Go.Proofs.Ytbpeppmajmhmiaa.Dh Go.Proofs.Ytbpeppmajmhmiaa.Di Go.Proofs.Ytbpeppmajmhmiaa.Dj Go.Proofs.Ytbpeppmajmhmiaa.Dk Go.Proofs.Ytbpeppmajmhmiaa.Va Go.Proofs.Ytbpeppmajmhmiaa.Vb Go.Proofs.Ytbpeppmajmhmiaa.Vc Go.Proofs.Ytbpeppmajmhmiaa.Qt Go.Proofs.Ytbpeppmajmhmiaa.Vd Go.Proofs.Ytbpeppmajmhmiaa.Ve

/-- What is kept, of what was read. -/
def rkept (c : Ch) (wd x : Int) : Int := if 33554432 ≤ c.at_ then rdC c wd x else c.latch
set_option maxRecDepth 1000000 in
set_option maxHeartbeats 8000000 in
theorem rtook_any {w : World} {ub i : Nat} {T : TypeId} {u : Nat → Ch} (h : isU w ub T u) (f : Wf (u i)) (hi : i < 4) (x : Int) (x0 : 0 ≤ x) (x1 : x < 4294967296) :
    Calls Try.prog 29 #[.pointer (some ⟨ub, 0, none⟩), .agg (encP (rplan (u i) i)).toArray, .int .u32 x] w fun e w' => e = .returned (.tuple #[.int .u32 (rkept (u i) (width (u i) i) x), .bool (took (u i) i (rkept (u i) (width (u i) i) x)).2.1, .bool (took (u i) i (rkept (u i) (width (u i) i) x)).2.2]) ∧
      B1 w w' ub T u i (took (u i) i (rkept (u i) (width (u i) i) x)).1 := by
  have lt := sizeAt h
  have b0 : B1 w w ub T u i (u i) := B1.start h i
  have w2 := width_or (u i) i
  generalize hc : u i = c at *
  clear hc
  obtain ⟨wd, hwd⟩ : ∃ z, width c i = z := ⟨_, rfl⟩
  obtain ⟨p, hp⟩ : ∃ p, rplan c i = p := ⟨_, rfl⟩
  have pc : p.ch = i := by rw [← hp]; rfl
  have pr : p.reads = decide (33554432 ≤ c.at_) := by rw [← hp]; rfl
  have pw : p.wid = wd := by rw [← hp, ← hwd]; rfl
  have T0 : Hid (TX w (w.alloc (.cells (encP p).toArray 36)) ub T u i c p) := Lib.hid ⟨Only.alloc b0 _, alloc_new w _⟩
  obtain ⟨K, hK⟩ : ∃ K, rkept c wd x = K := ⟨_, rfl⟩
  rw [hwd, hK, hp]
  rw [hwd] at w2
  have KH := Lib.hid hK
  have FH := Lib.hid f
  have WH := Lib.hid hwd
  have PC := Lib.hid pc
  have i0 : (0 : Int) ≤ (i : Int) := by omega
  have i4 : (i : Int) < 4 := by omega
  have wl : 2 ≤ wd := by omega
  have wh4 : wd ≤ 4 := by omega
  obtain ⟨pch, prd, pfr, pto, pwd, pcl⟩ := p
  dsimp only at pc pr pw
  subst pc
  subst pw
  have PR := Lib.hid pr
  clear hp hK h f b0 hwd pr
  have T00 : Hid (TX w (w.alloc (.cells #[.int .i64 (i : Int), .bool prd, .int .u32 pfr, .int .u32 pto, .int .i64 pwd, .int .i64 pcl] 36)) ub T u i c ⟨(i : Int), prd, pfr, pto, pwd, pcl⟩) := T0
  clear T0
  have T0 := T00
  clear T00
  show Calls Try.prog 29 #[.pointer (some ⟨ub, 0, none⟩), .agg #[.int .i64 (i : Int), .bool prd, .int .u32 pfr, .int .u32 pto, .int .i64 pwd, .int .i64 pcl], .int .u32 x] w _
  go_enter Try.func29, Try.ntmps29
  go_upto_region 1 with fail
  generalize w.alloc (.cells #[.int .i64 (i : Int), .bool prd, .int .u32 pfr, .int .u32 pto, .int .i64 pwd, .int .i64 pcl] 36) = W0 at *
  have X0 : W0.cell? ⟨w.heap.size, 0, none⟩ = some (.int .i64 i) := cellsAt T0.out.box 0
  have XL := sizeAt T0.out.box
  have ltW := T0.out.self.lt
  go_quiet (fail)
  have T1 := Lib.hid (T0.out.drewN nq)
  generalize W0.drewN nq = W1 at *
  clear X0 XL ltW T0
  have XB := cellsAt T1.out.box
  have X1 : W1.cell? ⟨w.heap.size, 1, none⟩ = some (.bool prd) := XB 1
  have X4 : W1.cell? ⟨w.heap.size, 4, none⟩ = some (.int .i64 pwd) := XB 4
  clear XB
  have XL := sizeAt T1.out.box
  have b1 := T1.out.self
  have C9 := b1.c9 hi
  have Fz := b1.free
  have lt1 := b1.lt
  go_upto_if 20 with fail
  go_cut [] (fun wx => Hid (TX w wx ub T u i { c with latch := K } ⟨(i : Int), prd, pfr, pto, pwd, pcl⟩))
  case first =>
    cases prd
    · have e : K = c.latch := by
        have := of_decide_eq_false PR.out.symm
        rw [← KH.out]; unfold rkept; rw [if_neg this]
      have E : Hid (TX w W1 ub T u i { c with latch := K } ⟨(i : Int), false, pfr, pto, pwd, pcl⟩) := Lib.hid (by rw [e]; exact T1.out)
      clear e b1
      go_wp2_with fail
      go_meet
      case rel => exact E
    · have e0 := of_decide_eq_true PR.out.symm
      rcases w2 with e2 | e2
      · have e : K = x % 65536 * 65536 + x % 65536 := by rw [← KH.out]; unfold rkept rdC; rw [if_pos e0, if_pos e2]
        have t2 : (pwd == 2) = true := by simp [e2]
        have S1 := T1.out.step lt (b1.s9 hi x)
        have E : Hid (TX w ((W1.setCell ⟨ub, i * 10 + 9, none⟩ (.int .u32 x)).setCell ⟨ub, i * 10 + 9, none⟩ (.int .u32 (x % 65536 * 65536 + x % 65536))) ub T u i { c with latch := K } ⟨(i : Int), true, pfr, pto, pwd, pcl⟩) := Lib.hid (by rw [e]; exact S1.step lt (S1.self.s9 hi _))
        clear e e2 b1 S1 e0
        go_wp2_with fail
        go_meet
        case rel => exact E
      · have e : K = x := by rw [← KH.out]; unfold rkept rdC; rw [if_pos e0, if_neg (by omega)]
        have t2 : (pwd == 2) = false := by simp [e2]
        have E : Hid (TX w (W1.setCell ⟨ub, i * 10 + 9, none⟩ (.int .u32 x)) ub T u i { c with latch := K } ⟨(i : Int), true, pfr, pto, pwd, pcl⟩) := Lib.hid (by rw [e]; exact T1.out.step lt (b1.s9 hi x))
        clear e e2 b1 e0
        go_wp2_with fail
        go_meet
        case rel => exact E
  case rest =>
  have E1 := hcut
  clear T1 X1 X4 XL b1 C9 Fz lt1
  have b := E1.out.self
  have C9 : wc.cell? ⟨ub, i * 10 + 9, none⟩ = some (.int .u32 K) := b.c9 hi
  have C8 : wc.cell? ⟨ub, i * 10 + 8, none⟩ = some (.bool c.first) := b.c8 hi
  have C3 : wc.cell? ⟨ub, i * 10 + 3, none⟩ = some (.int .u16 c.ctl) := b.c3 hi
  have Fz := b.free
  have lt1 := b.lt
  have ct0 := FH.out.c0
  have ct1 := FH.out.c1
  have a0 := FH.out.a0
  have a1 := FH.out.a1
  have t0 := FH.out.t0
  have t1 := FH.out.t1
  have E2 := Lib.hid (E1.out.step lt (b.s8 hi false))
  have B5 := Lib.hid (fun w => bits_5_2 c.ctl ct0 ct1 w)
  have B7 := Lib.hid (fun w => bits_7_2 c.ctl ct0 ct1 w)
  clear b E1
  go_wp2_with fail
  refine (B5.out _).mono ?_
  rintro e w' ⟨rfl, q, rfl⟩
  have E3 := Lib.hid (E2.out.drewN q)
  generalize (wc.setCell ⟨ub, i * 10 + 8, none⟩ (.bool false)).drewN q = w3 at *
  clear E2 C9 C8 C3 Fz lt1
  have b := E3.out.self
  have C4 : w3.cell? ⟨ub, i * 10 + 4, none⟩ = some (.int .u32 c.at_) := b.c4 hi
  have C3 : w3.cell? ⟨ub, i * 10 + 3, none⟩ = some (.int .u16 c.ctl) := b.c3 hi
  have Fz := b.free
  have lt1 := b.lt
  have X4 : w3.cell? ⟨w.heap.size, 4, none⟩ = some (.int .i64 pwd) := cellsAt E3.out.box 4
  have XL := sizeAt E3.out.box
  have G1 := Lib.hid (go0_any c.at_ (c.ctl / 128 % 4) pwd a0 a1 (by omega) (by omega))
  obtain ⟨na, hna⟩ : ∃ z, moved c.at_ (c.ctl / 128 % 4) pwd = z := ⟨_, rfl⟩
  rw [hna] at G1
  have HNA := Lib.hid hna
  have S4 := Lib.hid (fun n => (E3.out.drewN n).step lt (((E3.out.drewN n).self).s4 hi na))
  clear hna b
  go_upto_region 9 with fail
  go_cut [] (fun wx => Hid (TX w wx ub T u i { c with first := false, latch := K, at_ := na } ⟨(i : Int), prd, pfr, pto, pwd, pcl⟩))
  case first =>
    refine region_quiet_tail 13 (by kernel_rfl) (by kernel_rfl) ?_
    simp only [List.take_succ_cons, List.take_zero, List.drop_succ_cons, List.drop_zero]
    repeat (quiet_step ((first | (go_at_call 32; exact Calls.quiet_of (B7.out _)) | (go_at_call 34; exact Calls.quiet_of_same (flip (G1.out _))))))
    refine wpQuiet_nil ?_
    intro _ hw'
    obtain ⟨nq, hw''⟩ := hw'
    subst hw''
    go_wp2_with fail
    go_meet
    case rel => exact S4.out _
  case rest =>
  have E4 := hcut
  clear S4 E3 C4 C3 Fz lt1 X4 XL G1 B7 B5
  have FD := Lib.hid (feeds_any E4.out.self hi ct0 ct1)
  have X0 : wc.cell? ⟨w.heap.size, 0, none⟩ = some (.int .i64 i) := cellsAt E4.out.box 0
  have XL := sizeAt E4.out.box
  obtain ⟨so, hso⟩ : ∃ z, sound c i = z := ⟨_, rfl⟩
  have FD2 := FD.out
  rw [show sound { c with first := false, latch := K, at_ := na } (i : Int) = so from hso] at FD2
  have FD3 := Lib.hid FD2
  have HSO := Lib.hid hso
  clear FD FD2 hso
  go_wp2_with fail
  refine FD3.out.mono ?_
  rintro e w' ⟨rfl, q, rfl⟩
  have E5 := Lib.hid (E4.out.drewN q)
  generalize wc.drewN q = w5 at *
  clear E4 X0 XL FD3
  have b := E5.out.self
  have C5 : w5.cell? ⟨ub, i * 10 + 5, none⟩ = some (.int .u32 c.to_) := b.c5 hi
  have Fz := b.free
  have lt1 := b.lt
  have X4 : w5.cell? ⟨w.heap.size, 4, none⟩ = some (.int .i64 pwd) := cellsAt E5.out.box 4
  have XL := sizeAt E5.out.box
  have G2 := Lib.hid (go0_any c.to_ (c.ctl / 32 % 4) pwd t0 t1 (by omega) (by omega))
  obtain ⟨nt, hnt⟩ : ∃ z, moved c.to_ (toHow c i) pwd = z := ⟨_, rfl⟩
  have HNT := Lib.hid hnt
  clear hnt b
  go_upto_if 68 with fail
  go_cut [] (fun wx => Hid (TX w wx ub T u i { c with first := false, latch := K, at_ := na, to_ := nt } ⟨(i : Int), prd, pfr, pto, pwd, pcl⟩))
  case first =>
    cases so
    · have e : moved c.to_ (c.ctl / 32 % 4) pwd = nt := by
        rw [← HNT.out]; unfold toHow; rw [HSO.out]; rfl
      have G3 := G2.out
      rw [e] at G3
      have G4 := Lib.hid G3
      have S5 := Lib.hid (fun n => (E5.out.drewN n).step lt (((E5.out.drewN n).self).s5 hi nt))
      clear e G3 G2
      go_wp2_with fail
      refine region_quiet_tail 9 (by kernel_rfl) (by kernel_rfl) ?_
      simp only [List.take_succ_cons, List.take_zero, List.drop_succ_cons, List.drop_zero]
      repeat (quiet_step ((go_at_call 34; exact Calls.quiet_of_same (flip (G4.out _)))))
      refine wpQuiet_nil ?_
      intro _ hw'
      obtain ⟨nq, hw''⟩ := hw'
      subst hw''
      go_wp2_with fail
      go_meet
      case rel => exact S5.out _
    · have e : nt = c.to_ := by
        rw [← HNT.out]; unfold toHow; rw [HSO.out]; unfold moved; rfl
      have S5 : Hid (TX w w5 ub T u i { c with first := false, latch := K, at_ := na, to_ := nt } ⟨(i : Int), prd, pfr, pto, pwd, pcl⟩) := Lib.hid (by rw [e]; exact E5.out)
      clear e
      go_wp2_with fail
      go_meet
      case rel => exact S5
  case rest =>
  have E6 := hcut
  go_step
  refine took_second FH hi lt rfl ?_ ?_ E6
  · rw [WH.out]; exact HNA
  · rw [WH.out]; exact HNT
end Go.Proofs.Ytbpeppmajmhmiaa.Vf
