/- IrqRuns and IrqClears, walked. -/
import Derived.Test.YtmpphmlibcdnhaaIt
namespace Go.Proofs.Ytmpphmlibcdnhaa.Iz
set_option linter.unusedVariables false
set_option linter.unusedSimpArgs false
open Go.RowKit Go.Proofs.Ytmpphmlibcdnhaa.Bt Go.Proofs.Ytmpphmlibcdnhaa.Wk Go.Proofs.Ytmpphmlibcdnhaa.It

/-- Both controllers, and a block beside them. -/
structure Trio (w : World) (BC BR BX : Nat) (s r : St) (X : Obj) (w' : World) : Prop where
  b : Below w.heap.size w w'
  c : w'.heap[BC]? = some s.c
  r : w'.heap[BR]? = some r.r
  x : w'.heap[BX]? = some X
theorem Trio.callC {w : World} {BC BR BX : Nat} {s r s' : St} {X : Obj} {w1 w2 : World} (t : Trio w BC BR BX s r X w1) (o : Only BC s'.c w1 w2) (h0 : w.heap.size ≤ BC) (h1 : BC < BR) (h2 : BC < BX) : Trio w BC BR BX s' r X w2 :=
  ⟨below_only t.b o h0 t.b.size, o.at_, o.keep t.r (by omega), o.keep t.x (by omega)⟩
theorem Trio.callR {w : World} {BC BR BX : Nat} {s r r' : St} {X : Obj} {w1 w2 : World} (t : Trio w BC BR BX s r X w1) (o : Only BR r'.r w1 w2) (h0 : w.heap.size ≤ BR) (h1 : BC < BR) (h2 : BR < BX) : Trio w BC BR BX s r' X w2 :=
  ⟨below_only t.b o h0 t.b.size, o.keep t.c (by omega), o.at_, o.keep t.x (by omega)⟩
set_option maxRecDepth 100000 in
set_option maxHeartbeats 4000000 in
theorem runs_law (A : Option Addr) (n cap : Nat) (f0 f1 f2 : Nat → Int) (w : World) (hc : n ≤ cap) (hm : cap ≤ maxLen)
    (he : Elts w A n 3 (fun i => [.int .i64 (f0 i), .int .i64 (f1 i), .int .u16 (f2 i)]))
    (hf : ∀ i, i < n → (Lit.int .i64 (f0 i)).wf = true ∧ (Lit.int .i64 (f1 i)).wf = true ∧ (Lit.int .u16 (f2 i)).wf = true ∧ True) :
    Calls Try.prog 4 #[.slice A n cap] w fun e w' => e = .returned (.bool true) ∧ Below w.heap.size w w' := by
  unfold maxLen at hm
  have HE := Lib.hid he
  have HF := Lib.hid hf
  clear he hf
  go_enter Try.func4, Try.ntmps4
  go_wp2_with fail
  refine (Ix.awake_any _).mono ?_
  rintro e w0 ⟨rfl, hb0⟩
  go_wp2_with fail
  refine (Ix.new_any _).mono ?_
  rintro e w1 ⟨rfl, o1⟩
  go_wp2_with fail
  have hz0 := hb0.size
  have hz1 := o1.size
  have hC : (w1.alloc St.new.r).heap[w0.heap.size]? = some St.new.c := alloc_old _ o1.at_
  have hR : (w1.alloc St.new.r).heap[w1.heap.size]? = some St.new.r := alloc_new _ _
  have hlt : w0.heap.size < w1.heap.size := sizeAt o1.at_
  have hb : Below w.heap.size w (w1.alloc St.new.r) := Below.alloc (below_only hb0 o1 hz0 hz0) (by omega) _
  have enew : St.new.r = Obj.cells #[Value.bool false, Value.bool false, Value.bool false, Value.bool false, Value.bool false, Value.bool false,
          Value.bool false, Value.bool false, Value.bool false, Value.bool false, Value.bool false, Value.bool false,
          Value.bool false, Value.bool false, Value.bool false, Value.bool false, Value.bool false, Value.bool false,
          Value.bool false, Value.bool false, Value.bool false, Value.bool false, Value.bool false, Value.bool false,
          Value.bool false, Value.bool false, Value.bool false, Value.bool false, Value.bool false, Value.bool false,
          Value.bool false, Value.bool false, Value.bool false, Value.bool false, Value.bool false, Value.bool false,
          Value.bool false, Value.bool false, Value.int IntKind.u16 0, Value.bool false] 37 := rfl
  have hCH := Lib.hid hC
  have hRH := Lib.hid hR
  clear hC hR o1 hb0
  rw [← enew]
  clear enew
  generalize hBC : w0.heap.size = BC at *
  generalize hBR : w1.heap.size = BR at *
  clear hBC hBR
  have hB0 : w.heap.size ≤ BC := by have := hb.size; omega
  go_loopw [16] (fun i wr => ∃ (k : Nat) (s : St), k ≤ n ∧ i = .int .i64 k ∧ Below w.heap.size w wr ∧ Hid (wr.heap[BC]? = some s.c) ∧ Hid (wr.heap[BR]? = some s.r)) (fun i _ => n - (intOf i).toNat)
  case atStart => exact ⟨0, St.new, by omega, rfl, hb, hCH, hRH⟩
  case round =>
    clear hb hCH hRH
    obtain ⟨k, s, hk, rfl, hb, hC, hR⟩ := hrel
    by_cases hkn : k < n
    · obtain ⟨a, rfl, hal, hcell⟩ := HE.out.cells hb hkn
      obtain ⟨_, _, hx, _⟩ := HF.out k hkn
      obtain ⟨x0, x1⟩ := bounds_u16 hx
      have ha : (a.add (k * 3)).block < wr.heap.size := Nat.lt_of_lt_of_le hal hb.size
      have g0 : wr.cell? (a.add (k * 3)) = some (.int .i64 (f0 k)) := hcell 0 (by decide)
      have g1 : wr.cell? ⟨(a.add (k * 3)).block, (a.add (k * 3)).off + 1, none⟩ = some (.int .i64 (f1 k)) := hcell 1 (by decide)
      have g2 : wr.cell? ⟨(a.add (k * 3)).block, (a.add (k * 3)).off + 2, none⟩ = some (.int .u16 (f2 k)) := hcell 2 (by decide)
      clear hcell hx
      generalize f0 k = y0 at *
      generalize f1 k = y1 at *
      generalize f2 k = y2 at *
      by_cases h5 : ((k : Int) == 500) = true
      · go_wp2
        go_ret
        exact ⟨rfl, hb.alloc hb.size _⟩
      · replace h5 : ((k : Int) == 500) = false := by simpa using h5
        have hBX : BR < wr.heap.size := sizeAt hR.out
        have T : Trio w BC BR wr.heap.size s s (.cells #[.int .i64 y0, .int .i64 y1, .int .u16 y2] 28) (wr.alloc (.cells #[.int .i64 y0, .int .i64 y1, .int .u16 y2] 28)) := ⟨hb.alloc hb.size _, alloc_old _ hC.out, alloc_old _ hR.out, alloc_new _ _⟩
        have TH := Lib.hid T
        clear T hC hR
        by_cases c0 : (y0 == 0) = true
        · obtain ⟨s', P1, P2⟩ := raise_both s y1
          go_wp2_with fail
          refine (P1 _ _ TH.out.c).mono ?_
          rintro e w2 ⟨rfl, o1⟩
          have T2 := TH.out.callC o1 hB0 hlt (by omega)
          have F2 := cellsAt T2.x
          have T2H := Lib.hid T2
          clear T2 TH o1
          go_wp2_with fail
          refine (P2 _ _ T2H.out.r).mono ?_
          rintro e w3 ⟨rfl, o2⟩
          have T3 := T2H.out.callR o2 (by omega) hlt hBX
          have F3 := cellsAt T3.x
          have T3H := Lib.hid T3
          clear T3 T2H o2 F2
          go_wp2_with fail
          obtain ⟨vw, W1, W2⟩ := wakes_both s'
          obtain ⟨vf, G1, G2⟩ := fires_both s'
          obtain ⟨vr, D1, D2⟩ := read_both s' y1
          obtain ⟨v0, A0, B0⟩ := read_both s' 304
          obtain ⟨v1, A1, B1⟩ := read_both s' 306
          obtain ⟨v2, A2, B2⟩ := read_both s' 512
          obtain ⟨v3, A3, B3⟩ := read_both s' 514
          obtain ⟨v4, A4, B4⟩ := read_both s' 520
          have CW := Lib.hid (fun n => W1 BC _ (drewN_heap n T3H.out.c))
          have RW := Lib.hid (fun n => flip (W2 BR _ (drewN_heap n T3H.out.r)))
          have CF := Lib.hid (fun n => G1 BC _ (drewN_heap n T3H.out.c))
          have RF := Lib.hid (fun n => G2 BR _ (drewN_heap n T3H.out.r))
          have CR := Lib.hid (fun n => flip (D1 BC _ (drewN_heap n T3H.out.c)))
          have RR := Lib.hid (fun n => flip (D2 BR _ (drewN_heap n T3H.out.r)))
          go_quiet ((first | (go_at_call 16; (with_reducible exact Calls.quiet_of (CW.out _))) | (go_at_call 17; (with_reducible exact Calls.quiet_of_same (RW.out _))) | (go_at_call 18; (with_reducible exact Calls.quiet_of (CF.out _))) | (go_at_call 19; (with_reducible exact Calls.quiet_of (RF.out _))) | (go_at_call 11; (with_reducible exact Calls.quiet_of_same (CR.out _))) | (go_at_call 20; (with_reducible exact Calls.quiet_of_same (RR.out _)))))
          clear CW RW CF RF CR RR
          go_wp2_with fail
          have T4 : Trio w BC BR wr.heap.size s' s' (.cells #[.int .i64 y0, .int .i64 y1, .int .u16 y2] 28) ((w3.drewN nq).alloc (.cells #[.int .i64 304, .int .i64 306, .int .i64 512, .int .i64 514, .int .i64 520] 3)) := ⟨Below.alloc (below_dn T3H.out.b nq) (Nat.le_trans T3H.out.b.size (Nat.le_refl _)) _, alloc_old _ (drewN_heap nq T3H.out.c), alloc_old _ (drewN_heap nq T3H.out.r), alloc_old _ (drewN_heap nq T3H.out.x)⟩
          have N4 : ∀ j, ((w3.drewN nq).alloc (.cells #[.int .i64 304, .int .i64 306, .int .i64 512, .int .i64 514, .int .i64 520] 3)).cell? ⟨w3.heap.size, j, none⟩ = (#[.int .i64 304, .int .i64 306, .int .i64 512, .int .i64 514, .int .i64 520] : Array Value)[j]? := cellsAt (alloc_new (w3.drewN nq) (.cells #[.int .i64 304, .int .i64 306, .int .i64 512, .int .i64 514, .int .i64 520] 3))
          generalize (w3.drewN nq).alloc (.cells #[.int .i64 304, .int .i64 306, .int .i64 512, .int .i64 514, .int .i64 520] 3) = w4 at *
          have a0 := Lib.hid (A0 BC _ T4.c)
          have a1 := Lib.hid (A1 BC _ T4.c)
          have a2 := Lib.hid (A2 BC _ T4.c)
          have a3 := Lib.hid (A3 BC _ T4.c)
          have a4 := Lib.hid (A4 BC _ T4.c)
          have b0 := Lib.hid (B0 BR _ T4.r)
          have b1 := Lib.hid (B1 BR _ T4.r)
          have b2 := Lib.hid (B2 BR _ T4.r)
          have b3 := Lib.hid (B3 BR _ T4.r)
          have b4 := Lib.hid (B4 BR _ T4.r)
          have T4H := Lib.hid T4
          clear T4 A0 A1 A2 A3 A4 B0 B1 B2 B3 B4 W1 W2 G1 G2 D1 D2
          refine wp_loop_rounds 6 ?_
          rw [rounds_succ]
          go_wp2_with (first | (go_at_call 11; refine a0.out.mono ?_; rintro e w' ⟨rfl, rfl⟩) | (go_at_call 20; refine b0.out.mono ?_; rintro e w' ⟨rfl, rfl⟩))
          rw [rounds_succ]
          go_wp2_with (first | (go_at_call 11; refine a1.out.mono ?_; rintro e w' ⟨rfl, rfl⟩) | (go_at_call 20; refine b1.out.mono ?_; rintro e w' ⟨rfl, rfl⟩))
          rw [rounds_succ]
          go_wp2_with (first | (go_at_call 11; refine a2.out.mono ?_; rintro e w' ⟨rfl, rfl⟩) | (go_at_call 20; refine b2.out.mono ?_; rintro e w' ⟨rfl, rfl⟩))
          rw [rounds_succ]
          go_wp2_with (first | (go_at_call 11; refine a3.out.mono ?_; rintro e w' ⟨rfl, rfl⟩) | (go_at_call 20; refine b3.out.mono ?_; rintro e w' ⟨rfl, rfl⟩))
          rw [rounds_succ]
          go_wp2_with (first | (go_at_call 11; refine a4.out.mono ?_; rintro e w' ⟨rfl, rfl⟩) | (go_at_call 20; refine b4.out.mono ?_; rintro e w' ⟨rfl, rfl⟩))
          rw [rounds_succ]
          go_wp2
          go_roundw
          case rel => exact ⟨k + 1, s', by omega, by go_num, T4H.out.b, Lib.hid T4H.out.c, Lib.hid T4H.out.r⟩
          case measure => simp [intOf]; omega
        · replace c0 : (y0 == 0) = false := by simpa using c0
          by_cases c1 : (y0 == 1) = true
          · obtain ⟨s', P1, P2⟩ := write_both s y1 y2 x0 (by omega)
            go_wp2_with fail
            refine (P1 _ _ TH.out.c).mono ?_
            rintro e w2 ⟨rfl, o1⟩
            have T2 := TH.out.callC o1 hB0 hlt (by omega)
            have F2 := cellsAt T2.x
            have T2H := Lib.hid T2
            clear T2 TH o1
            go_wp2_with fail
            refine (P2 _ _ T2H.out.r).mono ?_
            rintro e w3 ⟨rfl, o2⟩
            have T3 := T2H.out.callR o2 (by omega) hlt hBX
            have F3 := cellsAt T3.x
            have T3H := Lib.hid T3
            clear T3 T2H o2 F2
            go_wp2_with fail
            obtain ⟨vw, W1, W2⟩ := wakes_both s'
            obtain ⟨vf, G1, G2⟩ := fires_both s'
            obtain ⟨vr, D1, D2⟩ := read_both s' y1
            obtain ⟨v0, A0, B0⟩ := read_both s' 304
            obtain ⟨v1, A1, B1⟩ := read_both s' 306
            obtain ⟨v2, A2, B2⟩ := read_both s' 512
            obtain ⟨v3, A3, B3⟩ := read_both s' 514
            obtain ⟨v4, A4, B4⟩ := read_both s' 520
            have CW := Lib.hid (fun n => W1 BC _ (drewN_heap n T3H.out.c))
            have RW := Lib.hid (fun n => flip (W2 BR _ (drewN_heap n T3H.out.r)))
            have CF := Lib.hid (fun n => G1 BC _ (drewN_heap n T3H.out.c))
            have RF := Lib.hid (fun n => G2 BR _ (drewN_heap n T3H.out.r))
            have CR := Lib.hid (fun n => flip (D1 BC _ (drewN_heap n T3H.out.c)))
            have RR := Lib.hid (fun n => flip (D2 BR _ (drewN_heap n T3H.out.r)))
            go_quiet ((first | (go_at_call 16; (with_reducible exact Calls.quiet_of (CW.out _))) | (go_at_call 17; (with_reducible exact Calls.quiet_of_same (RW.out _))) | (go_at_call 18; (with_reducible exact Calls.quiet_of (CF.out _))) | (go_at_call 19; (with_reducible exact Calls.quiet_of (RF.out _))) | (go_at_call 11; (with_reducible exact Calls.quiet_of_same (CR.out _))) | (go_at_call 20; (with_reducible exact Calls.quiet_of_same (RR.out _)))))
            clear CW RW CF RF CR RR
            go_wp2_with fail
            have T4 : Trio w BC BR wr.heap.size s' s' (.cells #[.int .i64 y0, .int .i64 y1, .int .u16 y2] 28) ((w3.drewN nq).alloc (.cells #[.int .i64 304, .int .i64 306, .int .i64 512, .int .i64 514, .int .i64 520] 3)) := ⟨Below.alloc (below_dn T3H.out.b nq) (Nat.le_trans T3H.out.b.size (Nat.le_refl _)) _, alloc_old _ (drewN_heap nq T3H.out.c), alloc_old _ (drewN_heap nq T3H.out.r), alloc_old _ (drewN_heap nq T3H.out.x)⟩
            have N4 : ∀ j, ((w3.drewN nq).alloc (.cells #[.int .i64 304, .int .i64 306, .int .i64 512, .int .i64 514, .int .i64 520] 3)).cell? ⟨w3.heap.size, j, none⟩ = (#[.int .i64 304, .int .i64 306, .int .i64 512, .int .i64 514, .int .i64 520] : Array Value)[j]? := cellsAt (alloc_new (w3.drewN nq) (.cells #[.int .i64 304, .int .i64 306, .int .i64 512, .int .i64 514, .int .i64 520] 3))
            generalize (w3.drewN nq).alloc (.cells #[.int .i64 304, .int .i64 306, .int .i64 512, .int .i64 514, .int .i64 520] 3) = w4 at *
            have a0 := Lib.hid (A0 BC _ T4.c)
            have a1 := Lib.hid (A1 BC _ T4.c)
            have a2 := Lib.hid (A2 BC _ T4.c)
            have a3 := Lib.hid (A3 BC _ T4.c)
            have a4 := Lib.hid (A4 BC _ T4.c)
            have b0 := Lib.hid (B0 BR _ T4.r)
            have b1 := Lib.hid (B1 BR _ T4.r)
            have b2 := Lib.hid (B2 BR _ T4.r)
            have b3 := Lib.hid (B3 BR _ T4.r)
            have b4 := Lib.hid (B4 BR _ T4.r)
            have T4H := Lib.hid T4
            clear T4 A0 A1 A2 A3 A4 B0 B1 B2 B3 B4 W1 W2 G1 G2 D1 D2
            refine wp_loop_rounds 6 ?_
            rw [rounds_succ]
            go_wp2_with (first | (go_at_call 11; refine a0.out.mono ?_; rintro e w' ⟨rfl, rfl⟩) | (go_at_call 20; refine b0.out.mono ?_; rintro e w' ⟨rfl, rfl⟩))
            rw [rounds_succ]
            go_wp2_with (first | (go_at_call 11; refine a1.out.mono ?_; rintro e w' ⟨rfl, rfl⟩) | (go_at_call 20; refine b1.out.mono ?_; rintro e w' ⟨rfl, rfl⟩))
            rw [rounds_succ]
            go_wp2_with (first | (go_at_call 11; refine a2.out.mono ?_; rintro e w' ⟨rfl, rfl⟩) | (go_at_call 20; refine b2.out.mono ?_; rintro e w' ⟨rfl, rfl⟩))
            rw [rounds_succ]
            go_wp2_with (first | (go_at_call 11; refine a3.out.mono ?_; rintro e w' ⟨rfl, rfl⟩) | (go_at_call 20; refine b3.out.mono ?_; rintro e w' ⟨rfl, rfl⟩))
            rw [rounds_succ]
            go_wp2_with (first | (go_at_call 11; refine a4.out.mono ?_; rintro e w' ⟨rfl, rfl⟩) | (go_at_call 20; refine b4.out.mono ?_; rintro e w' ⟨rfl, rfl⟩))
            rw [rounds_succ]
            go_wp2
            go_roundw
            case rel => exact ⟨k + 1, s', by omega, by go_num, T4H.out.b, Lib.hid T4H.out.c, Lib.hid T4H.out.r⟩
            case measure => simp [intOf]; omega
          · replace c1 : (y0 == 1) = false := by simpa using c1
            by_cases c2 : (y0 == 2) = true
            · obtain ⟨s', P1, P2⟩ := press_both s y2 x0 (by omega)
              go_wp2_with fail
              refine (P1 _ _ TH.out.c).mono ?_
              rintro e w2 ⟨rfl, o1⟩
              have T2 := TH.out.callC o1 hB0 hlt (by omega)
              have F2 := cellsAt T2.x
              have T2H := Lib.hid T2
              clear T2 TH o1
              go_wp2_with fail
              refine (P2 _ _ T2H.out.r).mono ?_
              rintro e w3 ⟨rfl, o2⟩
              have T3 := T2H.out.callR o2 (by omega) hlt hBX
              have F3 := cellsAt T3.x
              have T3H := Lib.hid T3
              clear T3 T2H o2 F2
              go_wp2_with fail
              obtain ⟨vw, W1, W2⟩ := wakes_both s'
              obtain ⟨vf, G1, G2⟩ := fires_both s'
              obtain ⟨vr, D1, D2⟩ := read_both s' y1
              obtain ⟨v0, A0, B0⟩ := read_both s' 304
              obtain ⟨v1, A1, B1⟩ := read_both s' 306
              obtain ⟨v2, A2, B2⟩ := read_both s' 512
              obtain ⟨v3, A3, B3⟩ := read_both s' 514
              obtain ⟨v4, A4, B4⟩ := read_both s' 520
              have CW := Lib.hid (fun n => W1 BC _ (drewN_heap n T3H.out.c))
              have RW := Lib.hid (fun n => flip (W2 BR _ (drewN_heap n T3H.out.r)))
              have CF := Lib.hid (fun n => G1 BC _ (drewN_heap n T3H.out.c))
              have RF := Lib.hid (fun n => G2 BR _ (drewN_heap n T3H.out.r))
              have CR := Lib.hid (fun n => flip (D1 BC _ (drewN_heap n T3H.out.c)))
              have RR := Lib.hid (fun n => flip (D2 BR _ (drewN_heap n T3H.out.r)))
              go_quiet ((first | (go_at_call 16; (with_reducible exact Calls.quiet_of (CW.out _))) | (go_at_call 17; (with_reducible exact Calls.quiet_of_same (RW.out _))) | (go_at_call 18; (with_reducible exact Calls.quiet_of (CF.out _))) | (go_at_call 19; (with_reducible exact Calls.quiet_of (RF.out _))) | (go_at_call 11; (with_reducible exact Calls.quiet_of_same (CR.out _))) | (go_at_call 20; (with_reducible exact Calls.quiet_of_same (RR.out _)))))
              clear CW RW CF RF CR RR
              go_wp2_with fail
              have T4 : Trio w BC BR wr.heap.size s' s' (.cells #[.int .i64 y0, .int .i64 y1, .int .u16 y2] 28) ((w3.drewN nq).alloc (.cells #[.int .i64 304, .int .i64 306, .int .i64 512, .int .i64 514, .int .i64 520] 3)) := ⟨Below.alloc (below_dn T3H.out.b nq) (Nat.le_trans T3H.out.b.size (Nat.le_refl _)) _, alloc_old _ (drewN_heap nq T3H.out.c), alloc_old _ (drewN_heap nq T3H.out.r), alloc_old _ (drewN_heap nq T3H.out.x)⟩
              have N4 : ∀ j, ((w3.drewN nq).alloc (.cells #[.int .i64 304, .int .i64 306, .int .i64 512, .int .i64 514, .int .i64 520] 3)).cell? ⟨w3.heap.size, j, none⟩ = (#[.int .i64 304, .int .i64 306, .int .i64 512, .int .i64 514, .int .i64 520] : Array Value)[j]? := cellsAt (alloc_new (w3.drewN nq) (.cells #[.int .i64 304, .int .i64 306, .int .i64 512, .int .i64 514, .int .i64 520] 3))
              generalize (w3.drewN nq).alloc (.cells #[.int .i64 304, .int .i64 306, .int .i64 512, .int .i64 514, .int .i64 520] 3) = w4 at *
              have a0 := Lib.hid (A0 BC _ T4.c)
              have a1 := Lib.hid (A1 BC _ T4.c)
              have a2 := Lib.hid (A2 BC _ T4.c)
              have a3 := Lib.hid (A3 BC _ T4.c)
              have a4 := Lib.hid (A4 BC _ T4.c)
              have b0 := Lib.hid (B0 BR _ T4.r)
              have b1 := Lib.hid (B1 BR _ T4.r)
              have b2 := Lib.hid (B2 BR _ T4.r)
              have b3 := Lib.hid (B3 BR _ T4.r)
              have b4 := Lib.hid (B4 BR _ T4.r)
              have T4H := Lib.hid T4
              clear T4 A0 A1 A2 A3 A4 B0 B1 B2 B3 B4 W1 W2 G1 G2 D1 D2
              refine wp_loop_rounds 6 ?_
              rw [rounds_succ]
              go_wp2_with (first | (go_at_call 11; refine a0.out.mono ?_; rintro e w' ⟨rfl, rfl⟩) | (go_at_call 20; refine b0.out.mono ?_; rintro e w' ⟨rfl, rfl⟩))
              rw [rounds_succ]
              go_wp2_with (first | (go_at_call 11; refine a1.out.mono ?_; rintro e w' ⟨rfl, rfl⟩) | (go_at_call 20; refine b1.out.mono ?_; rintro e w' ⟨rfl, rfl⟩))
              rw [rounds_succ]
              go_wp2_with (first | (go_at_call 11; refine a2.out.mono ?_; rintro e w' ⟨rfl, rfl⟩) | (go_at_call 20; refine b2.out.mono ?_; rintro e w' ⟨rfl, rfl⟩))
              rw [rounds_succ]
              go_wp2_with (first | (go_at_call 11; refine a3.out.mono ?_; rintro e w' ⟨rfl, rfl⟩) | (go_at_call 20; refine b3.out.mono ?_; rintro e w' ⟨rfl, rfl⟩))
              rw [rounds_succ]
              go_wp2_with (first | (go_at_call 11; refine a4.out.mono ?_; rintro e w' ⟨rfl, rfl⟩) | (go_at_call 20; refine b4.out.mono ?_; rintro e w' ⟨rfl, rfl⟩))
              rw [rounds_succ]
              go_wp2
              go_roundw
              case rel => exact ⟨k + 1, s', by omega, by go_num, T4H.out.b, Lib.hid T4H.out.c, Lib.hid T4H.out.r⟩
              case measure => simp [intOf]; omega
            · replace c2 : (y0 == 2) = false := by simpa using c2
              obtain ⟨s', hs'⟩ : ∃ s', s' = s := ⟨_, rfl⟩
              subst hs'
              go_wp2_with fail
              generalize wr.alloc (.cells #[.int .i64 y0, .int .i64 y1, .int .u16 y2] 28) = w3 at *
              have F3 := cellsAt TH.out.x
              obtain ⟨vw, W1, W2⟩ := wakes_both s'
              obtain ⟨vf, G1, G2⟩ := fires_both s'
              obtain ⟨vr, D1, D2⟩ := read_both s' y1
              obtain ⟨v0, A0, B0⟩ := read_both s' 304
              obtain ⟨v1, A1, B1⟩ := read_both s' 306
              obtain ⟨v2, A2, B2⟩ := read_both s' 512
              obtain ⟨v3, A3, B3⟩ := read_both s' 514
              obtain ⟨v4, A4, B4⟩ := read_both s' 520
              have CW := Lib.hid (fun n => W1 BC _ (drewN_heap n TH.out.c))
              have RW := Lib.hid (fun n => flip (W2 BR _ (drewN_heap n TH.out.r)))
              have CF := Lib.hid (fun n => G1 BC _ (drewN_heap n TH.out.c))
              have RF := Lib.hid (fun n => G2 BR _ (drewN_heap n TH.out.r))
              have CR := Lib.hid (fun n => flip (D1 BC _ (drewN_heap n TH.out.c)))
              have RR := Lib.hid (fun n => flip (D2 BR _ (drewN_heap n TH.out.r)))
              go_quiet ((first | (go_at_call 16; (with_reducible exact Calls.quiet_of (CW.out _))) | (go_at_call 17; (with_reducible exact Calls.quiet_of_same (RW.out _))) | (go_at_call 18; (with_reducible exact Calls.quiet_of (CF.out _))) | (go_at_call 19; (with_reducible exact Calls.quiet_of (RF.out _))) | (go_at_call 11; (with_reducible exact Calls.quiet_of_same (CR.out _))) | (go_at_call 20; (with_reducible exact Calls.quiet_of_same (RR.out _)))))
              clear CW RW CF RF CR RR
              go_wp2_with fail
              have T4 : Trio w BC BR wr.heap.size s' s' (.cells #[.int .i64 y0, .int .i64 y1, .int .u16 y2] 28) ((w3.drewN nq).alloc (.cells #[.int .i64 304, .int .i64 306, .int .i64 512, .int .i64 514, .int .i64 520] 3)) := ⟨Below.alloc (below_dn TH.out.b nq) (Nat.le_trans TH.out.b.size (Nat.le_refl _)) _, alloc_old _ (drewN_heap nq TH.out.c), alloc_old _ (drewN_heap nq TH.out.r), alloc_old _ (drewN_heap nq TH.out.x)⟩
              have N4 : ∀ j, ((w3.drewN nq).alloc (.cells #[.int .i64 304, .int .i64 306, .int .i64 512, .int .i64 514, .int .i64 520] 3)).cell? ⟨w3.heap.size, j, none⟩ = (#[.int .i64 304, .int .i64 306, .int .i64 512, .int .i64 514, .int .i64 520] : Array Value)[j]? := cellsAt (alloc_new (w3.drewN nq) (.cells #[.int .i64 304, .int .i64 306, .int .i64 512, .int .i64 514, .int .i64 520] 3))
              generalize (w3.drewN nq).alloc (.cells #[.int .i64 304, .int .i64 306, .int .i64 512, .int .i64 514, .int .i64 520] 3) = w4 at *
              have a0 := Lib.hid (A0 BC _ T4.c)
              have a1 := Lib.hid (A1 BC _ T4.c)
              have a2 := Lib.hid (A2 BC _ T4.c)
              have a3 := Lib.hid (A3 BC _ T4.c)
              have a4 := Lib.hid (A4 BC _ T4.c)
              have b0 := Lib.hid (B0 BR _ T4.r)
              have b1 := Lib.hid (B1 BR _ T4.r)
              have b2 := Lib.hid (B2 BR _ T4.r)
              have b3 := Lib.hid (B3 BR _ T4.r)
              have b4 := Lib.hid (B4 BR _ T4.r)
              have T4H := Lib.hid T4
              clear T4 A0 A1 A2 A3 A4 B0 B1 B2 B3 B4 W1 W2 G1 G2 D1 D2
              refine wp_loop_rounds 6 ?_
              rw [rounds_succ]
              go_wp2_with (first | (go_at_call 11; refine a0.out.mono ?_; rintro e w' ⟨rfl, rfl⟩) | (go_at_call 20; refine b0.out.mono ?_; rintro e w' ⟨rfl, rfl⟩))
              rw [rounds_succ]
              go_wp2_with (first | (go_at_call 11; refine a1.out.mono ?_; rintro e w' ⟨rfl, rfl⟩) | (go_at_call 20; refine b1.out.mono ?_; rintro e w' ⟨rfl, rfl⟩))
              rw [rounds_succ]
              go_wp2_with (first | (go_at_call 11; refine a2.out.mono ?_; rintro e w' ⟨rfl, rfl⟩) | (go_at_call 20; refine b2.out.mono ?_; rintro e w' ⟨rfl, rfl⟩))
              rw [rounds_succ]
              go_wp2_with (first | (go_at_call 11; refine a3.out.mono ?_; rintro e w' ⟨rfl, rfl⟩) | (go_at_call 20; refine b3.out.mono ?_; rintro e w' ⟨rfl, rfl⟩))
              rw [rounds_succ]
              go_wp2_with (first | (go_at_call 11; refine a4.out.mono ?_; rintro e w' ⟨rfl, rfl⟩) | (go_at_call 20; refine b4.out.mono ?_; rintro e w' ⟨rfl, rfl⟩))
              rw [rounds_succ]
              go_wp2
              go_roundw
              case rel => exact ⟨k + 1, s', by omega, by go_num, T4H.out.b, Lib.hid T4H.out.c, Lib.hid T4H.out.r⟩
              case measure => simp [intOf]; omega
    · obtain rfl : k = n := by omega
      go_wp2
      go_ret
      exact ⟨rfl, hb⟩
end Go.Proofs.Ytmpphmlibcdnhaa.Iz
