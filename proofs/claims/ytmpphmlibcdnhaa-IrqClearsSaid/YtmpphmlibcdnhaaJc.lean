/- IrqClears, walked. -/
import Derived.Test.YtmpphmlibcdnhaaIt
namespace Go.Proofs.Ytmpphmlibcdnhaa.Jc
set_option linter.unusedVariables false
set_option linter.unusedSimpArgs false
open Go.RowKit Go.Proofs.Ytmpphmlibcdnhaa.Bt Go.Proofs.Ytmpphmlibcdnhaa.Wk Go.Proofs.Ytmpphmlibcdnhaa.It
open Go.Proofs.Ytmpphmlibcdnhaa.Iw (ctl readS)

set_option maxRecDepth 100000 in
set_option maxHeartbeats 4000000 in
theorem clears_law (A : Option Addr) (n cap : Nat) (f0 f1 f2 : Nat → Int) (x : Int) (w : World) (hc : n ≤ cap) (hm : cap ≤ maxLen)
    (he : Elts w A n 3 (fun i => [.int .i64 (f0 i), .int .i64 (f1 i), .int .u16 (f2 i)]))
    (hf : ∀ i, i < n → (Lit.int .i64 (f0 i)).wf = true ∧ (Lit.int .i64 (f1 i)).wf = true ∧ (Lit.int .u16 (f2 i)).wf = true ∧ True) (hx : (Lit.int .u16 x).wf = true) :
    Calls Try.prog 3 #[.slice A n cap, .int .u16 x] w fun e w' => e = .returned (.bool true) ∧ Below w.heap.size w w' := by
  unfold maxLen at hm
  have HE := Lib.hid he
  have HF := Lib.hid hf
  clear he hf hx
  by_cases h300 : 300 < n
  · have d : decide (300 < (n : Int)) = true := decide_eq_true (by omega)
    go_enter Try.func3, Try.ntmps3
    go_wp2_with fail
    refine (Ix.awake_any _).mono ?_
    rintro e w0 ⟨rfl, hb0⟩
    go_wp2
    go_ret
    exact ⟨rfl, hb0⟩
  have d : decide (300 < (n : Int)) = false := decide_eq_false (by omega)
  go_enter Try.func3, Try.ntmps3
  go_wp2_with fail
  refine (Ix.awake_any _).mono ?_
  rintro e w0 ⟨rfl, hb0⟩
  go_wp2_with fail
  refine (Ix.new_any _).mono ?_
  rintro e w1 ⟨rfl, o1⟩
  go_wp2_with fail
  have hz0 := hb0.size
  have hC : w1.heap[w0.heap.size]? = some St.new.c := o1.at_
  have hb : Below w.heap.size w w1 := below_only hb0 o1 hz0 hz0
  have hCH := Lib.hid hC
  clear hC o1 hb0
  generalize hBC : w0.heap.size = BC at *
  clear hBC
  go_loopw [17] (fun i wr => ∃ (k : Nat) (s : St), k ≤ n ∧ i = .int .i64 k ∧ Below w.heap.size w wr ∧ Hid (wr.heap[BC]? = some s.c)) (fun i _ => n - (intOf i).toNat)
  case atStart => exact ⟨0, St.new, by omega, rfl, hb, hCH⟩
  case round =>
    clear hb hCH
    obtain ⟨k, s, hk, rfl, hb, hC⟩ := hrel
    by_cases hkn : k < n
    · obtain ⟨a, rfl, hal, hcell⟩ := HE.out.cells hb hkn
      obtain ⟨_, _, hx, _⟩ := HF.out k hkn
      obtain ⟨x0, x1⟩ := bounds_u16 hx
      have ha : (a.add (k * 3)).block < wr.heap.size := Nat.lt_of_lt_of_le hal hb.size
      have g0 : wr.cell? (a.add (k * 3)) = some (.int .i64 (f0 k)) := hcell 0 (by decide)
      have g1 : wr.cell? ⟨(a.add (k * 3)).block, (a.add (k * 3)).off + 1, none⟩ = some (.int .i64 (f1 k)) := hcell 1 (by decide)
      have g2 : wr.cell? ⟨(a.add (k * 3)).block, (a.add (k * 3)).off + 2, none⟩ = some (.int .u16 (f2 k)) := hcell 2 (by decide)
      clear hcell hx
      generalize f0 k = y0 at *
      generalize f1 k = y1 at *
      generalize f2 k = y2 at *
      have hC' := Lib.hid (alloc_old (.cells #[.int .i64 y0, .int .i64 y1, .int .u16 y2] 28) hC.out)
      have hb' := Lib.hid (hb.alloc hb.size (.cells #[.int .i64 y0, .int .i64 y1, .int .u16 y2] 28))
      by_cases c1 : (y0 == 1) = true
      · obtain ⟨s', P1, _⟩ := write_both s y1 y2 x0 (by omega)
        go_wp2_with fail
        refine (P1 _ _ hC'.out).mono ?_
        rintro e w2 ⟨rfl, o1⟩
        go_wp2
        go_roundw
        case rel => exact ⟨k + 1, s', by omega, by go_num, below_only hb'.out o1 hz0 hb'.out.size, Lib.hid o1.at_⟩
        case measure => simp [intOf]; omega
      · replace c1 : (y0 == 1) = false := by simpa using c1
        obtain ⟨s', P1, _⟩ := raise_both s y1
        go_wp2_with fail
        refine (P1 _ _ hC'.out).mono ?_
        rintro e w2 ⟨rfl, o1⟩
        go_wp2
        go_roundw
        case rel => exact ⟨k + 1, s', by omega, by go_num, below_only hb'.out o1 hz0 hb'.out.size, Lib.hid o1.at_⟩
        case measure => simp [intOf]; omega
    · obtain rfl : k = n := by omega
      have q : ∀ en fl ms ke wa, readS en fl ms ke wa 514 = fl := fun _ _ _ _ _ => rfl
      have R1 := Iw.read_any BC s.en s.fl s.ms s.ke s.wa 514 _ hC.out
      have P := Lib.hid (Ix.write_514 BC s.en s.fl s.ms s.ke s.wa x _ hC.out)
      rw [q] at R1
      have R1H := Lib.hid R1
      have l : decide ((s.fl : Int) < 16384) = true := by have := s.hf; simp; omega
      clear R1
      have qH := Lib.hid q
      clear q
      generalize (s.fl : Int) = fl at *
      go_wp2_with fail
      refine R1H.out.mono ?_
      rintro e w' ⟨rfl, rfl⟩
      go_wp2_with fail
      refine P.out.mono ?_
      rintro e w2 ⟨rfl, o2⟩
      have R2 := Iw.read_any BC _ _ _ _ _ 514 _ o2.at_
      rw [qH.out] at R2
      have R2H := Lib.hid R2
      have O2 := Lib.hid o2
      clear R2 o2
      go_wp2_with (go_at_call 11; refine R2H.out.mono ?_; rintro e w' ⟨rfl, rfl⟩)
      go_ret
      exact ⟨rfl, below_only hb O2.out hz0 hb.size⟩
end Go.Proofs.Ytmpphmlibcdnhaa.Jc
