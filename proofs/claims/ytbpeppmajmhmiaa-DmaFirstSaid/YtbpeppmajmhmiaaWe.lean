/- Channels are as the document has them, in every order of calls: walked. -/
import Derived.Test.YtbpeppmajmhmiaaWd
namespace Go.Proofs.Ytbpeppmajmhmiaa.We
set_option linter.unusedVariables false
set_option linter.unusedSimpArgs false
open Go.RowKit Go.Proofs.Ytbpeppmajmhmiaa.Bt Go.Proofs.Ytbpeppmajmhmiaa.Wk Go.Proofs.Ytbpeppmajmhmiaa.Sg Go.Proofs.Ytbpeppmajmhmiaa.Dp Go.Proofs.Ytbpeppmajmhmiaa.Da Go.Proofs.Ytbpeppmajmhmiaa.Db Go.Proofs.Ytbpeppmajmhmiaa.Dc Go.Proofs.Ytbpeppmajmhmiaa.Dd Go.Proofs.Ytbpeppmajmhmiaa.De Go.Proofs.Ytbpeppmajmhmiaa.Fq Go.Proofs.Ytbpeppmajmhmiaa.Df Go.Proofs.Ytbpeppmajmhmiaa.Dg Go.Proofs.Ytbpeppmajmhmiaa.Dh Go.Proofs.Ytbpeppmajmhmiaa.Di Go.Proofs.Ytbpeppmajmhmiaa.Dj Go.Proofs.Ytbpeppmajmhmiaa.Dk Go.Proofs.Ytbpeppmajmhmiaa.Dl Go.Proofs.Ytbpeppmajmhmiaa.Dm Go.Proofs.Ytbpeppmajmhmiaa.Dt Go.Proofs.Ytbpeppmajmhmiaa.Va Go.Proofs.Ytbpeppmajmhmiaa.Vb Go.Proofs.Ytbpeppmajmhmiaa.Vc Go.Proofs.Ytbpeppmajmhmiaa.Qt Go.Proofs.Ytbpeppmajmhmiaa.Vd Go.Proofs.Ytbpeppmajmhmiaa.Ve Go.Proofs.Ytbpeppmajmhmiaa.Vf Go.Proofs.Ytbpeppmajmhmiaa.Wa Go.Proofs.Ytbpeppmajmhmiaa.Wb Go.Proofs.Ytbpeppmajmhmiaa.Wc Go.Proofs.Ytbpeppmajmhmiaa.Wd

abbrev Z0 : Nat → Option Obj := fun _ => none
theorem both_all {w1 wr : World} {n : Nat} (R : Rz Z0 w1 n wr) (hn8 : n ≤ 80000) (kind i part x nn addr : Int) (x0 : 0 ≤ x) (x1 : x < 65536) (a0 : 0 ≤ addr) (a1 : addr < 4294967296) :
    Calls Try.prog 16 #[.pointer (some ⟨w1.heap.size, 0, none⟩), .pointer (some ⟨w1.heap.size + 1, 0, none⟩), .pointer (some ⟨w1.heap.size + 2, 0, none⟩), .agg #[.int .i64 kind, .int .i64 i, .int .i64 part, .int .u16 x, .int .i64 nn, .int .u32 addr]] wr fun e w' => e = .returned (.bool true) ∧ Hid (Rz Z0 w1 (n + 60) w') := by
  obtain ⟨u, ps, ws, J, hl, hn⟩ := R
  have JH := Lib.hid J
  have HL := Lib.hid hl
  have HN := Lib.hid hn
  by_cases k0 : kind = 0
  · subst k0
    by_cases hi : i < 0 ∨ 3 < i
    · exact both_write_out JH HL HN hn8 x0 x1 a0 a1 hi
    · obtain ⟨k, rfl⟩ := Int.eq_ofNat_of_zero_le (show 0 ≤ i by omega)
      exact both_write_in JH HL HN hn8 x0 x1 a0 a1 (by omega)
  by_cases k1 : kind = 1
  · subst k1; exact both_moment JH HL HN hn8 x0 x1 a0 a1
  by_cases k2 : kind = 2
  · subst k2; exact both_hungry JH HL HN hn8 x0 x1 a0 a1
  by_cases k3 : kind = 3
  · subst k3; exact both_steps JH HL HN hn8
  exact both_other JH HL HN hn8 x0 x1 a0 a1 (by simpa using k0) (by simpa using k1) (by simpa using k2) (by simpa using k3)
theorem rz_start (w1 : World) : Rz Z0 w1 0 (((w1.alloc (.cells (cells fun _ => zeroCh).toArray 62)).alloc (.cells (cells fun _ => zeroCh).toArray 50)).alloc (.cells #[.slice none 0 0, .slice none 0 0] 29)) := ⟨_, _, _, jf_start w1, rfl, Nat.le_refl _⟩
theorem rz_below {w1 wr : World} {n : Nat} (h : Rz Z0 w1 n wr) : Below w1.heap.size w1 wr := by
  obtain ⟨u, ps, ws, J, hl, hn⟩ := h
  exact jf_below J
theorem rz_later {w1 wr w' : World} {n : Nat} (h : Rz Z0 w1 n wr) (hb : Below wr.heap.size wr w') : Rz Z0 w1 n w' := by
  obtain ⟨u, ps, ws, J, hl, hn⟩ := h
  exact ⟨u, ps, ws, jf_later J hb, hl, hn⟩
theorem zb50 : (cells fun _ => zeroCh).toArray = #[.int .u32 0, .int .u32 0, .int .i64 0, .int .u16 0, .int .u32 0, .int .u32 0, .int .i64 0, .bool false, .bool false, .int .u32 0, .int .u32 0, .int .u32 0, .int .i64 0, .int .u16 0, .int .u32 0, .int .u32 0, .int .i64 0, .bool false, .bool false, .int .u32 0, .int .u32 0, .int .u32 0, .int .i64 0, .int .u16 0, .int .u32 0, .int .u32 0, .int .i64 0, .bool false, .bool false, .int .u32 0, .int .u32 0, .int .u32 0, .int .i64 0, .int .u16 0, .int .u32 0, .int .u32 0, .int .i64 0, .bool false, .bool false, .int .u32 0] := by rw [cells_zero]
theorem rz_start2 (w1 : World) : Rz Z0 w1 0 (((w1.alloc (.cells (cells fun _ => zeroCh).toArray 62)).alloc (.cells #[.int .u32 0, .int .u32 0, .int .i64 0, .int .u16 0, .int .u32 0, .int .u32 0, .int .i64 0, .bool false, .bool false, .int .u32 0, .int .u32 0, .int .u32 0, .int .i64 0, .int .u16 0, .int .u32 0, .int .u32 0, .int .i64 0, .bool false, .bool false, .int .u32 0, .int .u32 0, .int .u32 0, .int .i64 0, .int .u16 0, .int .u32 0, .int .u32 0, .int .i64 0, .bool false, .bool false, .int .u32 0, .int .u32 0, .int .u32 0, .int .i64 0, .int .u16 0, .int .u32 0, .int .u32 0, .int .i64 0, .bool false, .bool false, .int .u32 0] 50)).alloc (.cells #[.slice none 0 0, .slice none 0 0] 29)) := by
  rw [← zb50]; exact rz_start w1
set_option maxRecDepth 100000 in
set_option maxHeartbeats 8000000 in
theorem runs_law (A : Option Addr) (n cap : Nat) (f0 f1 f2 f3 f4 f5 : Nat → Int) (w : World) (hc : n ≤ cap) (hm : cap ≤ maxLen)
    (he : Elts w A n 6 (fun i => [.int .i64 (f0 i), .int .i64 (f1 i), .int .i64 (f2 i), .int .u16 (f3 i), .int .i64 (f4 i), .int .u32 (f5 i)]))
    (hf : ∀ i, i < n → (Lit.int .i64 (f0 i)).wf = true ∧ (Lit.int .i64 (f1 i)).wf = true ∧ (Lit.int .i64 (f2 i)).wf = true ∧ (Lit.int .u16 (f3 i)).wf = true ∧ (Lit.int .i64 (f4 i)).wf = true ∧ (Lit.int .u32 (f5 i)).wf = true ∧ True) :
    Calls Try.prog 5 #[.slice A n cap] w fun e w' => e = .returned (.bool true) ∧ Below w.heap.size w w' := by
  unfold maxLen at hm
  have HE := Lib.hid he
  have HF := Lib.hid hf
  have AW := Lib.hid (awake_any w)
  clear he hf
  go_enter Try.func5, Try.ntmps5
  go_wp2_with (go_at_call 8; ((with_reducible refine AW.out.mono ?_); rintro e w1 ⟨rfl, hb⟩; have LW := Lib.hid hb; clear hb))
  refine (new_any w1).mono ?_
  rintro e w2 ⟨rfl, rfl⟩
  go_wp2_with fail
  have RS := Lib.hid (rz_start2 w1)
  generalize ((w1.alloc (.cells (cells fun _ => zeroCh).toArray 62)).alloc (.cells #[.int .u32 0, .int .u32 0, .int .i64 0, .int .u16 0, .int .u32 0, .int .u32 0, .int .i64 0, .bool false, .bool false, .int .u32 0, .int .u32 0, .int .u32 0, .int .i64 0, .int .u16 0, .int .u32 0, .int .u32 0, .int .i64 0, .bool false, .bool false, .int .u32 0, .int .u32 0, .int .u32 0, .int .i64 0, .int .u16 0, .int .u32 0, .int .u32 0, .int .i64 0, .bool false, .bool false, .int .u32 0, .int .u32 0, .int .u32 0, .int .i64 0, .int .u16 0, .int .u32 0, .int .u32 0, .int .i64 0, .bool false, .bool false, .int .u32 0] 50)).alloc (.cells #[.slice none 0 0, .slice none 0 0] 29) = W2 at *
  have BA := Lib.hid (fun (m : Nat) (wr : World) (R : Rz Z0 w1 m wr) (hm : m ≤ 80000) (kind i part x nn addr : Int) (x0 : 0 ≤ x) (x1 : x < 65536) (a0 : 0 ≤ addr) (a1 : addr < 4294967296) =>
    (show Calls Try.prog 16 #[.pointer (some ⟨w1.heap.size, 0, none⟩), .pointer (some ⟨w1.heap.size + 1, 0, none⟩), .pointer (some ⟨w1.heap.size + 1 + 1, 0, none⟩), .agg #[.int .i64 kind, .int .i64 i, .int .i64 part, .int .u16 x, .int .i64 nn, .int .u32 addr]] wr _ from both_all R hm kind i part x nn addr x0 x1 a0 a1))
  generalize w1.heap.size + 1 + 1 = tb at *
  obtain ⟨gm, hgm⟩ : ∃ gm : Nat, gm = n := ⟨_, rfl⟩
  have GH := Lib.hid hgm
  clear hgm
  go_loopg [17] gm (fun g s wx => ∃ k : Nat, s = .int .i64 k ∧ k ≤ n ∧ k ≤ 200 ∧ g = n - k ∧ Hid (Rz Z0 w1 (60 * k) wx))
  case atStart => exact ⟨0, rfl, by omega, by omega, by rw [GH.out]; rfl, RS⟩
  case round =>
    obtain ⟨k, rfl, hk, hk2, hg, RK⟩ := hrel
    clear RS
    have HG := Lib.hid hg
    clear hg
    have LB := Lib.hid (below_then LW.out (rz_below RK.out) LW.out.size)
    have k0 : (0 : Int) ≤ (k : Int) := by omega
    by_cases hlt : k < n
    · have t : (k : Int) < (n : Int) := by omega
      obtain ⟨a, rfl, hal, hcell⟩ := HE.out.cells LB.out hlt
      obtain ⟨w0, w1', w2', w3', w4', w5', _⟩ := HF.out k hlt
      obtain ⟨x0, x1⟩ := bounds_u16 w3'
      obtain ⟨a0, a1⟩ := bounds_u32 w5'
      have ha : (a.add (k * 6)).block < wr.heap.size := Nat.lt_of_lt_of_le hal LB.out.size
      have g0 : wr.cell? (a.add (k * 6)) = some (.int .i64 (f0 k)) := hcell 0 (by decide)
      have g1 : wr.cell? ⟨(a.add (k * 6)).block, (a.add (k * 6)).off + 1, none⟩ = some (.int .i64 (f1 k)) := hcell 1 (by decide)
      have g2 : wr.cell? ⟨(a.add (k * 6)).block, (a.add (k * 6)).off + 2, none⟩ = some (.int .i64 (f2 k)) := hcell 2 (by decide)
      have g3 : wr.cell? ⟨(a.add (k * 6)).block, (a.add (k * 6)).off + 3, none⟩ = some (.int .u16 (f3 k)) := hcell 3 (by decide)
      have g4 : wr.cell? ⟨(a.add (k * 6)).block, (a.add (k * 6)).off + 4, none⟩ = some (.int .i64 (f4 k)) := hcell 4 (by decide)
      have g5 : wr.cell? ⟨(a.add (k * 6)).block, (a.add (k * 6)).off + 5, none⟩ = some (.int .u32 (f5 k)) := hcell 5 (by decide)
      clear hcell w0 w1' w2' w3' w4' w5'
      generalize f0 k = y0 at *
      generalize f1 k = y1 at *
      generalize f2 k = y2 at *
      generalize f3 k = y3 at *
      generalize f4 k = y4 at *
      generalize f5 k = y5 at *
      have RX := Lib.hid (rz_later RK.out (bl wr (.cells #[.int .i64 y0, .int .i64 y1, .int .i64 y2, .int .u16 y3, .int .i64 y4, .int .u32 y5] 52)))
      by_cases h5 : k = 200
      · have h5' : ((k : Int) == 200) = true := by simp [h5]
        have EE := Lib.hid (below_then LW.out (rz_below RX.out) LW.out.size)
        clear h5
        go_wp2
        go_ret
        exact ⟨rfl, EE.out⟩
      · have h5' : ((k : Int) == 200) = false := by simp; omega
        have k200 : k < 200 := by omega
        have BC := Lib.hid (BA.out _ _ RX.out (by omega) y0 y1 y2 y3 y4 y5 x0 (by omega) a0 (by omega))
        clear h5
        go_wp2_with fail
        refine BC.out.mono ?_
        rintro e w9 ⟨rfl, R9⟩
        clear BC
        go_wp2_with fail
        go_roundg (n - (k + 1))
        case measure => rw [HG.out]; omega
        case rel => exact ⟨k + 1, by go_num, by omega, by omega, rfl, R9⟩
    · have t : (n : Int) ≤ (k : Int) := by omega
      clear hlt
      go_wp2
      go_ret
      exact ⟨rfl, LB.out⟩
end Go.Proofs.Ytbpeppmajmhmiaa.We
