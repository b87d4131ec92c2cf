/- The lowest channel that has begun goes first: walked. -/
import Derived.Test.YtbpeppmajmhmiaaWf
namespace Go.Proofs.Ytbpeppmajmhmiaa.Wg
set_option linter.unusedVariables false
set_option linter.unusedSimpArgs false
open Go.RowKit Go.Proofs.Ytbpeppmajmhmiaa.Bt Go.Proofs.Ytbpeppmajmhmiaa.Wk Go.Proofs.Ytbpeppmajmhmiaa.Sg Go.Proofs.Ytbpeppmajmhmiaa.Dp Go.Proofs.Ytbpeppmajmhmiaa.Da Go.Proofs.Ytbpeppmajmhmiaa.Db Go.Proofs.Ytbpeppmajmhmiaa.Dc Go.Proofs.Ytbpeppmajmhmiaa.Dd Go.Proofs.Ytbpeppmajmhmiaa.De Go.Proofs.Ytbpeppmajmhmiaa.Fq Go.Proofs.Ytbpeppmajmhmiaa.Df Go.Proofs.Ytbpeppmajmhmiaa.Dg Go.Proofs.Ytbpeppmajmhmiaa.Dh Go.Proofs.Ytbpeppmajmhmiaa.Di Go.Proofs.Ytbpeppmajmhmiaa.Dj Go.Proofs.Ytbpeppmajmhmiaa.Dk Go.Proofs.Ytbpeppmajmhmiaa.Dl Go.Proofs.Ytbpeppmajmhmiaa.Dm Go.Proofs.Ytbpeppmajmhmiaa.Dt Go.Proofs.Ytbpeppmajmhmiaa.Va Go.Proofs.Ytbpeppmajmhmiaa.Vb Go.Proofs.Ytbpeppmajmhmiaa.Vc Go.Proofs.Ytbpeppmajmhmiaa.Qt Go.Proofs.Ytbpeppmajmhmiaa.Vd Go.Proofs.Ytbpeppmajmhmiaa.Ve Go.Proofs.Ytbpeppmajmhmiaa.Vf Go.Proofs.Ytbpeppmajmhmiaa.Wa Go.Proofs.Ytbpeppmajmhmiaa.Wb Go.Proofs.Ytbpeppmajmhmiaa.Wc Go.Proofs.Ytbpeppmajmhmiaa.Wd Go.Proofs.Ytbpeppmajmhmiaa.We Go.Proofs.Ytbpeppmajmhmiaa.Wf

theorem tm4 (x : Int) : -4 < Int.tmod x 4 ∧ Int.tmod x 4 < 4 := ⟨Int.lt_tmod_of_pos x (by decide), Int.tmod_lt_of_pos x (by decide)⟩
/-- The program's side alone is looked at. -/
def Ux (w1 : World) (N : Nat) (Q : (Nat → Ch) → Prop) (w' : World) : Prop := ∃ u um ps ws, Jf Z0 w1 w' u um ps ws ∧ ws.length = ps.length ∧ ps.length ≤ N ∧ Q u
theorem ux_write {w1 wr : World} {N : Nat} {Q R : (Nat → Ch) → Prop} (h : Ux w1 N Q wr) {i : Nat} (hi : i < 4) (part x : Int) (x0 : 0 ≤ x) (x1 : x < 65536) (q : ∀ u, Q u → R (wrU u i part x)) :
    Calls Try.prog 10 #[.pointer (some ⟨w1.heap.size, 0, none⟩), .int .i64 i, .int .i64 part, .int .u16 x] wr fun e w' => e = .returned (.tuple #[]) ∧ Hid (Ux w1 N R w') := by
  obtain ⟨u, um, ps, ws, J, hl, hn, hq⟩ := h
  refine (j_write_u J hi part x x0 x1).mono ?_
  rintro e w' ⟨rfl, J'⟩
  exact ⟨rfl, Lib.hid ⟨_, _, _, _, J', hl, hn, q u hq⟩⟩
theorem ux_step {w1 wr : World} {N : Nat} {Q R : (Nat → Ch) → Prop} {d : Bool} (h : Ux w1 N Q wr) (hN : N ≤ 90000) {i : Nat} (hr : ∀ u, Q u → ready u = i) (hd : ∀ u, Q u → stepD u i = d) (q : ∀ u, Q u → R (stepU u i)) :
    Calls Try.prog 11 #[.pointer (some ⟨w1.heap.size, 0, none⟩), .iface 25 (.pointer (some ⟨w1.heap.size + 1 + 1, 0, none⟩))] wr fun e w' => ∃ b : Bool, e = .returned (.tuple #[.int .i64 i, .bool d, .bool b]) ∧ Hid (Ux w1 (N + 1) R w') := by
  obtain ⟨u, um, ps, ws, J, hl, hn, hq⟩ := h
  refine (j_step_u J (hr u hq) hl (by omega)).mono ?_
  rintro e w' ⟨rfl, J'⟩
  rw [hd u hq]
  exact ⟨_, rfl, Lib.hid ⟨_, _, _, _, J', by simp [hl], by simp; omega, q u hq⟩⟩
theorem ux_of {w1 wr : World} {n : Nat} (h : Rz Z0 w1 n wr) : Ux w1 n (fun u => OffTo u 0) wr := by
  obtain ⟨u, ps, ws, J, hl, hn⟩ := h
  exact ⟨u, u, ps, ws, J, hl, hn, fun j hj => absurd hj (Nat.not_lt_zero _)⟩
theorem ux_mono {w1 wr : World} {N M : Nat} {Q : (Nat → Ch) → Prop} (h : Ux w1 N Q wr) (hm : N ≤ M) : Ux w1 M Q wr := by
  obtain ⟨u, um, ps, ws, J, hl, hn, hq⟩ := h
  exact ⟨u, um, ps, ws, J, hl, by omega, hq⟩
theorem ux_below {w1 wr : World} {N : Nat} {Q : (Nat → Ch) → Prop} (h : Ux w1 N Q wr) : Below w1.heap.size w1 wr := by
  obtain ⟨u, um, ps, ws, J, hl, hn, hq⟩ := h
  exact jf_below J
/-- Low is done, high runs on. -/
def Last (hi : Nat) (u : Nat → Ch) : Prop := Run (u hi) 8 ∧ ∀ k, k < hi → (u k).pend = false
theorem last_d {u : Nat → Ch} {hi : Nat} (h : Last hi u) : stepD u hi = false := by
  obtain ⟨t1, t2, t3⟩ := run_took h.1 (hi : Int) (kept (u hi) (width (u hi) hi))
  unfold stepD; rw [t1]; rfl
set_option maxRecDepth 100000 in
set_option maxHeartbeats 8000000 in
theorem first_law (A : Option Addr) (n cap : Nat) (f0 f1 f2 f3 f4 f5 : Nat → Int) (low high : Int) (w : World) (hc : n ≤ cap) (hm : cap ≤ maxLen)
    (he : Elts w A n 6 (fun i => [.int .i64 (f0 i), .int .i64 (f1 i), .int .i64 (f2 i), .int .u16 (f3 i), .int .i64 (f4 i), .int .u32 (f5 i)]))
    (hf : ∀ i, i < n → (Lit.int .i64 (f0 i)).wf = true ∧ (Lit.int .i64 (f1 i)).wf = true ∧ (Lit.int .i64 (f2 i)).wf = true ∧ (Lit.int .u16 (f3 i)).wf = true ∧ (Lit.int .i64 (f4 i)).wf = true ∧ (Lit.int .u32 (f5 i)).wf = true ∧ True)
    (q1 : (Lit.int .i64 low).wf = true) (q2 : (Lit.int .i64 high).wf = true) :
    Calls Try.prog 6 #[.slice A n cap, .int .i64 low, .int .i64 high] w fun e w' => e = .returned (.bool true) ∧ Below w.heap.size w w' := by
  unfold maxLen at hm
  have HE := Lib.hid he
  have HF := Lib.hid hf
  have AW := Lib.hid (awake_any w)
  clear he hf q1 q2
  obtain ⟨t1a, t1b⟩ := tm4 low
  obtain ⟨t2a, t2b⟩ := tm4 high
  obtain ⟨lo, hlo⟩ := Int.eq_ofNat_of_zero_le (show 0 ≤ Int.tmod low 4 % 4 by omega)
  obtain ⟨hi, hhi⟩ := Int.eq_ofNat_of_zero_le (show 0 ≤ Int.tmod high 4 % 4 by omega)
  have lo4 : (lo : Int) < 4 := by omega
  have hi4 : (hi : Int) < 4 := by omega
  have lo0 : (0 : Int) ≤ (lo : Int) := by omega
  have hi0 : (0 : Int) ≤ (hi : Int) := by omega
  by_cases g : (hi : Int) ≤ (lo : Int) ∨ (100 : Int) < (n : Int)
  · by_cases g1 : (hi : Int) ≤ (lo : Int)
    · clear g
      go_enter Try.func6, Try.ntmps6
      go_wp2_with (go_at_call 8; ((with_reducible refine AW.out.mono ?_); rintro e w1 ⟨rfl, hb⟩; have LW := Lib.hid hb; clear hb))
      go_ret
      exact ⟨rfl, LW.out⟩
    · have g2 : (100 : Int) < (n : Int) := by omega
      have g3 : (lo : Int) < (hi : Int) := by omega
      clear g g1
      go_enter Try.func6, Try.ntmps6
      go_wp2_with (go_at_call 8; ((with_reducible refine AW.out.mono ?_); rintro e w1 ⟨rfl, hb⟩; have LW := Lib.hid hb; clear hb))
      go_ret
      exact ⟨rfl, LW.out⟩
  have g3 : (lo : Int) < (hi : Int) := by omega
  have g4 : (n : Int) ≤ 100 := by omega
  have g5 : decide ((100 : Int) < (n : Int)) = false := decide_eq_false (by omega)
  have g6 : decide ((hi : Int) ≤ (lo : Int)) = false := decide_eq_false (by omega)
  have lh : lo < hi := by omega
  have h4 : hi < 4 := by omega
  clear g
  go_enter Try.func6, Try.ntmps6
  go_wp2_with (go_at_call 8; ((with_reducible refine AW.out.mono ?_); rintro e w1 ⟨rfl, hb⟩; have LW := Lib.hid hb; clear hb))
  refine (new_any w1).mono ?_
  rintro e w2 ⟨rfl, rfl⟩
  go_wp2_with fail
  have RS := Lib.hid (rz_start2 w1)
  generalize ((w1.alloc (.cells (cells fun _ => zeroCh).toArray 62)).alloc (.cells #[.int .u32 0, .int .u32 0, .int .i64 0, .int .u16 0, .int .u32 0, .int .u32 0, .int .i64 0, .bool false, .bool false, .int .u32 0, .int .u32 0, .int .u32 0, .int .i64 0, .int .u16 0, .int .u32 0, .int .u32 0, .int .i64 0, .bool false, .bool false, .int .u32 0, .int .u32 0, .int .u32 0, .int .i64 0, .int .u16 0, .int .u32 0, .int .u32 0, .int .i64 0, .bool false, .bool false, .int .u32 0, .int .u32 0, .int .u32 0, .int .i64 0, .int .u16 0, .int .u32 0, .int .u32 0, .int .i64 0, .bool false, .bool false, .int .u32 0] 50)).alloc (.cells #[.slice none 0 0, .slice none 0 0] 29) = W2 at *
  have BA := Lib.hid (fun (m : Nat) (wr : World) (R : Rz Z0 w1 m wr) (hm : m ≤ 80000) (kind i part x nn addr : Int) (x0 : 0 ≤ x) (x1 : x < 65536) (a0 : 0 ≤ addr) (a1 : addr < 4294967296) =>
    (show Calls Try.prog 16 #[.pointer (some ⟨w1.heap.size, 0, none⟩), .pointer (some ⟨w1.heap.size + 1, 0, none⟩), .pointer (some ⟨w1.heap.size + 1 + 1, 0, none⟩), .agg #[.int .i64 kind, .int .i64 i, .int .i64 part, .int .u16 x, .int .i64 nn, .int .u32 addr]] wr _ from both_all R hm kind i part x nn addr x0 x1 a0 a1))
  have ST1 := Lib.hid (fun (wr : World) (h : Ux w1 6000 (fun u => HS u hi 9) wr) => ux_step (R := fun u => HS u hi 8) (d := false) h (by decide) (fun u q => hs_ready q h4) (fun u q => (hs_step q (by decide)).1) (fun u q => (hs_step q (by decide)).2))
  have ST2 := Lib.hid (fun (wr : World) (h : Ux w1 6001 (fun u => LHS u lo hi 2 8) wr) => ux_step (R := fun u => LHS u lo hi 1 8) (d := false) h (by decide) (fun u q => lhs_ready q lh h4) (fun u q => (lhs_step1 q lh (by decide)).1) (fun u q => (lhs_step1 q lh (by decide)).2))
  have ST3 := Lib.hid (fun (wr : World) (h : Ux w1 6002 (fun u => LHS u lo hi 1 8) wr) => ux_step (R := Last hi) (d := true) h (by decide) (fun u q => lhs_ready q lh h4) (fun u q => (lhs_step2 q lh h4).1) (fun u q => ⟨(lhs_step2 q lh h4).2.2.1, (lhs_step2 q lh h4).2.2.2⟩))
  have ST4 := Lib.hid (fun (wr : World) (h : Ux w1 6003 (Last hi) wr) => ux_step (R := fun _ => True) (d := false) h (by decide) (fun u q => ready_low h4 q.1.pend q.2) (fun u q => last_d q) (fun u q => trivial))
  generalize w1.heap.size + 1 + 1 = tb at *
  obtain ⟨gm, hgm⟩ : ∃ gm : Nat, gm = n := ⟨_, rfl⟩
  have GH := Lib.hid hgm
  clear hgm
  go_loopg [50] gm (fun g s wx => ∃ k : Nat, s = .int .i64 k ∧ k ≤ n ∧ g = n - k ∧ Hid (Rz Z0 w1 (60 * k) wx))
  case atStart => exact ⟨0, rfl, by omega, by rw [GH.out]; rfl, RS⟩
  case round =>
    obtain ⟨k, rfl, hk, hg, RK⟩ := hrel
    clear RS
    have HG := Lib.hid hg
    clear hg
    have LB := Lib.hid (below_then LW.out (rz_below RK.out) LW.out.size)
    have k0 : (0 : Int) ≤ (k : Int) := by omega
    by_cases hlt : k < n
    · have t : (k : Int) < (n : Int) := by omega
      obtain ⟨a, rfl, hal, hcell⟩ := HE.out.cells LB.out hlt
      obtain ⟨w0, w1', w2', w3', w4', w5', _⟩ := HF.out k hlt
      obtain ⟨x0, x1⟩ := bounds_u16 w3'
      obtain ⟨a0, a1⟩ := bounds_u32 w5'
      have ha : (a.add (k * 6)).block < wr.heap.size := Nat.lt_of_lt_of_le hal LB.out.size
      have g0 : wr.cell? (a.add (k * 6)) = some (.int .i64 (f0 k)) := hcell 0 (by decide)
      have g1 : wr.cell? ⟨(a.add (k * 6)).block, (a.add (k * 6)).off + 1, none⟩ = some (.int .i64 (f1 k)) := hcell 1 (by decide)
      have g2 : wr.cell? ⟨(a.add (k * 6)).block, (a.add (k * 6)).off + 2, none⟩ = some (.int .i64 (f2 k)) := hcell 2 (by decide)
      have g3 : wr.cell? ⟨(a.add (k * 6)).block, (a.add (k * 6)).off + 3, none⟩ = some (.int .u16 (f3 k)) := hcell 3 (by decide)
      have g4 : wr.cell? ⟨(a.add (k * 6)).block, (a.add (k * 6)).off + 4, none⟩ = some (.int .i64 (f4 k)) := hcell 4 (by decide)
      have g5 : wr.cell? ⟨(a.add (k * 6)).block, (a.add (k * 6)).off + 5, none⟩ = some (.int .u32 (f5 k)) := hcell 5 (by decide)
      clear hcell w0 w1' w2' w3' w4' w5'
      generalize f0 k = y0 at *
      generalize f1 k = y1 at *
      generalize f2 k = y2 at *
      generalize f3 k = y3 at *
      generalize f4 k = y4 at *
      generalize f5 k = y5 at *
      have RX := Lib.hid (rz_later RK.out (bl wr (.cells #[.int .i64 y0, .int .i64 y1, .int .i64 y2, .int .u16 y3, .int .i64 y4, .int .u32 y5] 52)))
      obtain ⟨tk, htk⟩ : ∃ b, (y0 != 3) = b := ⟨_, rfl⟩
      cases tk
      · have RY : Hid (Rz Z0 w1 (60 * (k + 1)) (wr.alloc (.cells #[.int .i64 y0, .int .i64 y1, .int .i64 y2, .int .u16 y3, .int .i64 y4, .int .u32 y5] 52))) := Lib.hid (by
          obtain ⟨u, ps, ws, J, hl, hn⟩ := RX.out
          exact ⟨u, ps, ws, J, hl, by omega⟩)
        have y3e : y0 = 3 := by simpa using htk
        subst y3e
        clear htk
        go_wp2_with fail
        go_roundg (n - (k + 1))
        case measure => rw [HG.out]; omega
        case rel => exact ⟨k + 1, by go_num, by omega, rfl, RY⟩
      · have BC := Lib.hid (BA.out _ _ RX.out (by omega) y0 y1 y2 y3 y4 y5 x0 (by omega) a0 (by omega))
        go_wp2_with fail
        refine BC.out.mono ?_
        rintro e w9 ⟨rfl, R9⟩
        clear BC
        go_wp2_with fail
        go_roundg (n - (k + 1))
        case measure => rw [HG.out]; omega
        case rel => exact ⟨k + 1, by go_num, by omega, rfl, R9⟩
    · have t : (n : Int) ≤ (k : Int) := by omega
      have t5 : decide ((k : Int) < (n : Int)) = false := decide_eq_false (by omega)
      have t6 : decide (k < n) = false := decide_eq_false hlt
      have U0 := Lib.hid (ux_mono (ux_of RK.out) (show 60 * k ≤ 6000 by omega))
      clear hlt RK BA HE HF
      go_wp2_with fail
      obtain ⟨gm2, hgm2⟩ : ∃ gm : Nat, gm = 4 := ⟨_, rfl⟩
      have GH2 := Lib.hid hgm2
      clear hgm2
      go_loopg [66] gm2 (fun g s wx => ∃ j : Nat, s = .int .i64 j ∧ j ≤ 4 ∧ g = 4 - j ∧ Hid (Ux w1 6000 (fun u => OffTo u j) wx))
      case atStart => exact ⟨0, rfl, by omega, by rw [GH2.out], U0⟩
      case round =>
        obtain ⟨j, rfl, hj, hg, UJ⟩ := hrel
        clear U0
        have HG2 := Lib.hid hg
        clear hg
        have j0 : (0 : Int) ≤ (j : Int) := by omega
        by_cases hlt : j < 4
        · have t4 : (j : Int) < 4 := by omega
          have WR := Lib.hid (ux_write UJ.out hlt 5 0 (by decide) (by decide) (R := fun u => OffTo u (j + 1)) (fun u q => off_step q))
          go_wp2_with fail
          refine WR.out.mono ?_
          rintro e w9 ⟨rfl, R9⟩
          clear WR
          go_wp2_with fail
          go_roundg (4 - (j + 1))
          case measure => rw [HG2.out]; omega
          case rel => exact ⟨j + 1, by go_num, by omega, rfl, R9⟩
        · obtain rfl : j = 4 := by omega
          have t4 : (4 : Int) ≤ ((4 : Nat) : Int) := by decide
          have hh := (show ((hi : Int) != (hi : Int)) = false by simp)
          have W1 := Lib.hid (ux_write UJ.out h4 4 9 (by decide) (by decide) (R := fun u => HS (wrU u hi 5 32768) hi 9) (fun u q => hs_start q h4))
          clear hlt
          go_wp2_with fail
          refine W1.out.mono ?_
          rintro e wa ⟨rfl, RA⟩
          have W2' := Lib.hid (ux_write RA.out h4 5 32768 (by decide) (by decide) (R := fun u => HS u hi 9) (fun u q => q))
          clear W1 UJ
          go_wp2_with fail
          refine W2'.out.mono ?_
          rintro e wb ⟨rfl, RB⟩
          have S1 := Lib.hid (ST1.out _ RB.out)
          clear W2' RA
          go_wp2_with fail
          refine S1.out.mono ?_
          rintro e wc ⟨b1, rfl, RC⟩
          have W3 := Lib.hid (ux_write RC.out (show lo < 4 by omega) 4 2 (by decide) (by decide) (R := fun u => LHS (wrU u lo 5 32768) lo hi 2 8) (fun u q => lhs_start q lh h4))
          clear S1 RB
          go_wp2_with fail
          refine W3.out.mono ?_
          rintro e wd ⟨rfl, RD⟩
          have W4 := Lib.hid (ux_write RD.out (show lo < 4 by omega) 5 32768 (by decide) (by decide) (R := fun u => LHS u lo hi 2 8) (fun u q => q))
          clear W3 RC
          go_wp2_with fail
          refine W4.out.mono ?_
          rintro e we ⟨rfl, RE⟩
          have S2 := Lib.hid (ST2.out _ RE.out)
          clear W4 RD
          go_wp2_with fail
          refine S2.out.mono ?_
          rintro e wf ⟨b2, rfl, RF⟩
          have S3 := Lib.hid (ST3.out _ RF.out)
          clear S2 RE
          go_wp2_with fail
          refine S3.out.mono ?_
          rintro e wg ⟨b3, rfl, RG⟩
          have S4 := Lib.hid (ST4.out _ RG.out)
          clear S3 RF
          go_wp2_with fail
          refine S4.out.mono ?_
          rintro e wh ⟨b4, rfl, RH⟩
          have LE := Lib.hid (below_then LW.out (ux_below RH.out) LW.out.size)
          clear S4 RG
          go_wp2_with fail
          go_ret
          exact ⟨rfl, LE.out⟩
end Go.Proofs.Ytbpeppmajmhmiaa.Wg
