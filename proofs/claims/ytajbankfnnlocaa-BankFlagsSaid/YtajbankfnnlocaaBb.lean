/- Package bank, walked on: User, SetUser. -/
import Derived.Test.YtajbankfnnlocaaBa
namespace Go.Proofs.Ytajbankfnnlocaa.Bb
set_option linter.unusedVariables false
set_option linter.unusedSimpArgs false
open Go.RowKit Go.Proofs.Ytajbankfnnlocaa.Bt Go.Proofs.Ytajbankfnnlocaa.Wk Go.Proofs.Ytajbankfnnlocaa.Sg Go.Proofs.Ytajbankfnnlocaa.Ba

def userV (P : Bk) (k : Nat) : Int := if 8 ≤ k ∧ k ≤ 12 ∧ sl P.c = 1 then P.hi (5 + (k - 8)) else if 13 ≤ k ∧ k ≤ 14 ∧ sl P.c ≠ 0 then P.ot (k - 13) else P.r k
def setUserF (P : Bk) (k : Nat) (x : Int) : Bk := if 8 ≤ k ∧ k ≤ 12 ∧ sl P.c = 1 then { P with hi := upd P.hi (5 + (k - 8)) x } else if 13 ≤ k ∧ k ≤ 14 ∧ sl P.c ≠ 0 then { P with ot := upd P.ot (k - 13) x } else { P with r := upd P.r k x }
set_option maxHeartbeats 2000000 in
theorem user_any (b k : Nat) (i : Int) (P : Bk) (hk : i % 16 = k) (c0 : 0 ≤ P.c) (c1 : P.c < 4294967296) (w : World) (hs : w.heap[b]? = some (bk P)) :
    Calls Try.prog 15 #[.pointer (some ⟨b, 0, none⟩), .int .i64 i] w fun e w' => e = .returned (.int .u32 (userV P k)) ∧ w = w' := by
  have hk16 : k < 16 := by omega
  have g : Go.bits .and .i64 i 15 = k := by rw [and_m 4 (by decide) 15 (by decide) 16 (by decide), hk]
  have C : w.cell? ⟨b, 44, none⟩ = some (.int .u32 P.c) := (cellsAt hs _).trans (atC P)
  have C1 : w.cell? ⟨b, k, none⟩ = some (.int .u32 (P.r k)) := (cellsAt hs _).trans (atR P hk16)
  have R := Lib.hid (slot_any P.c c0 c1 w)
  have H := Lib.hid hs
  have F := freeAt hs
  unfold userV
  clear hs hk
  generalize sl P.c = s at *
  by_cases hA : 8 ≤ k ∧ k ≤ 12 ∧ s = 1
  · rw [if_pos hA]
    obtain ⟨a, a', rfl⟩ := hA
    obtain ⟨j, rfl⟩ : ∃ j, k = j + 8 := ⟨k - 8, by omega⟩
    have C2 : w.cell? ⟨b, 33 + j, none⟩ = some (.int .u32 (P.hi (5 + j))) := by rw [show 33 + j = 28 + (5 + j) by omega]; exact (cellsAt H.out _).trans (atH P (by omega))
    rw [show 5 + (j + 8 - 8) = 5 + j by omega]
    have d1 : decide (8 ≤ ((j + 8 : Nat) : Int)) = true := decide_eq_true (by omega)
    have d2 : decide (((j + 8 : Nat) : Int) ≤ 12) = true := decide_eq_true (by omega)
    go_enter Try.func15, Try.ntmps15
    go_wp2_with (go_at_call 33; refine R.out.mono ?_; rintro e w' ⟨rfl, rfl⟩)
    go_ret
    exact ⟨rfl, rfl⟩
  rw [if_neg hA]
  by_cases hB : 13 ≤ k ∧ k ≤ 14 ∧ s ≠ 0
  · rw [if_pos hB]
    obtain ⟨a, a', sn⟩ := hB
    obtain ⟨j, rfl⟩ : ∃ j, k = j + 13 := ⟨k - 13, by omega⟩
    have C2 : w.cell? ⟨b, 16 + j, none⟩ = some (.int .u32 (P.ot j)) := (cellsAt H.out _).trans (atO P (by omega))
    rw [show j + 13 - 13 = j by omega]
    have d1 : decide (8 ≤ ((j + 13 : Nat) : Int)) = true := decide_eq_true (by omega)
    have d2 : decide (((j + 13 : Nat) : Int) ≤ 12) = false := decide_eq_false (by omega)
    have d3 : decide (13 ≤ ((j + 13 : Nat) : Int)) = true := decide_eq_true (by omega)
    have d4 : decide (((j + 13 : Nat) : Int) ≤ 14) = true := decide_eq_true (by omega)
    have d5 : ((s : Int) != 0) = true := by simpa using sn
    clear hA
    go_enter Try.func15, Try.ntmps15
    go_wp2_with (go_at_call 33; refine R.out.mono ?_; rintro e w' ⟨rfl, rfl⟩)
    go_ret
    exact ⟨rfl, rfl⟩
  rw [if_neg hB]
  by_cases q : k < 8
  · have d1 : decide (8 ≤ (k : Int)) = false := decide_eq_false (by omega)
    have d3 : decide (13 ≤ (k : Int)) = false := decide_eq_false (by omega)
    clear hA hB
    go_enter Try.func15, Try.ntmps15
    go_wp2_with (go_at_call 33; refine R.out.mono ?_; rintro e w' ⟨rfl, rfl⟩)
    go_ret
    exact ⟨rfl, rfl⟩
  have d1 : decide (8 ≤ (k : Int)) = true := decide_eq_true (by omega)
  by_cases q2 : k ≤ 12
  · have d2 : decide ((k : Int) ≤ 12) = true := decide_eq_true (by omega)
    have d3 : decide (13 ≤ (k : Int)) = false := decide_eq_false (by omega)
    have d5 : ((s : Int) == 1) = false := by
      have : ¬ s = 1 := fun e => hA ⟨by omega, q2, e⟩
      simp; omega
    clear hA hB
    go_enter Try.func15, Try.ntmps15
    go_wp2_with (go_at_call 33; refine R.out.mono ?_; rintro e w' ⟨rfl, rfl⟩)
    go_ret
    exact ⟨rfl, rfl⟩
  have d2 : decide ((k : Int) ≤ 12) = false := decide_eq_false (by omega)
  have d3 : decide (13 ≤ (k : Int)) = true := decide_eq_true (by omega)
  by_cases q3 : k ≤ 14
  · have d4 : decide ((k : Int) ≤ 14) = true := decide_eq_true (by omega)
    have d5 : ((s : Int) != 0) = false := by
      have : s = 0 := Decidable.byContradiction fun e => hB ⟨by omega, q3, e⟩
      subst this; rfl
    clear hA hB
    go_enter Try.func15, Try.ntmps15
    go_wp2_with (go_at_call 33; refine R.out.mono ?_; rintro e w' ⟨rfl, rfl⟩)
    go_ret
    exact ⟨rfl, rfl⟩
  · have d4 : decide ((k : Int) ≤ 14) = false := decide_eq_false (by omega)
    clear hA hB
    go_enter Try.func15, Try.ntmps15
    go_wp2_with (go_at_call 33; refine R.out.mono ?_; rintro e w' ⟨rfl, rfl⟩)
    go_ret
    exact ⟨rfl, rfl⟩
set_option maxHeartbeats 2000000 in
theorem setUser_any (b k : Nat) (i x : Int) (P : Bk) (hk : i % 16 = k) (c0 : 0 ≤ P.c) (c1 : P.c < 4294967296) (w : World) (hs : w.heap[b]? = some (bk P)) :
    Calls Try.prog 30 #[.pointer (some ⟨b, 0, none⟩), .int .i64 i, .int .u32 x] w fun e w' => e = .returned (.tuple #[]) ∧ Only b (bk (setUserF P k x)) w w' := by
  have hk16 : k < 16 := by omega
  have g : Go.bits .and .i64 i 15 = k := by rw [and_m 4 (by decide) 15 (by decide) 16 (by decide), hk]
  have C : w.cell? ⟨b, 44, none⟩ = some (.int .u32 P.c) := (cellsAt hs _).trans (atC P)
  have C1 : w.cell? ⟨b, k, none⟩ = some (.int .u32 (P.r k)) := (cellsAt hs _).trans (atR P hk16)
  have R := Lib.hid (slot_any P.c c0 c1 w)
  have H := Lib.hid hs
  have F := freeAt hs
  unfold setUserF
  clear hs hk
  generalize sl P.c = s at *
  by_cases hA : 8 ≤ k ∧ k ≤ 12 ∧ s = 1
  · rw [if_pos hA]
    obtain ⟨a, a', rfl⟩ := hA
    obtain ⟨j, rfl⟩ : ∃ j, k = j + 8 := ⟨k - 8, by omega⟩
    have C2 : w.cell? ⟨b, 33 + j, none⟩ = some (.int .u32 (P.hi (5 + j))) := by rw [show 33 + j = 28 + (5 + j) by omega]; exact (cellsAt H.out _).trans (atH P (by omega))
    rw [show 5 + (j + 8 - 8) = 5 + j by omega]
    have d1 : decide (8 ≤ ((j + 8 : Nat) : Int)) = true := decide_eq_true (by omega)
    have d2 : decide (((j + 8 : Nat) : Int) ≤ 12) = true := decide_eq_true (by omega)
    have O : Only b (bk { P with hi := upd P.hi (5 + j) x }) w (w.setCell ⟨b, 33 + j, none⟩ (.int .u32 x)) := ((Only.refl H.out).set (j := 33 + j) _).to (by rw [show 33 + j = 28 + (5 + j) by omega, setH P (by omega)]; rfl)
    have OH := Lib.hid O
    clear O
    go_enter Try.func30, Try.ntmps30
    go_wp2_with (go_at_call 33; refine R.out.mono ?_; rintro e w' ⟨rfl, rfl⟩)
    go_end0
    exact ⟨rfl, OH.out⟩
  rw [if_neg hA]
  by_cases hB : 13 ≤ k ∧ k ≤ 14 ∧ s ≠ 0
  · rw [if_pos hB]
    obtain ⟨a, a', sn⟩ := hB
    obtain ⟨j, rfl⟩ : ∃ j, k = j + 13 := ⟨k - 13, by omega⟩
    have C2 : w.cell? ⟨b, 16 + j, none⟩ = some (.int .u32 (P.ot j)) := (cellsAt H.out _).trans (atO P (by omega))
    rw [show j + 13 - 13 = j by omega]
    have d1 : decide (8 ≤ ((j + 13 : Nat) : Int)) = true := decide_eq_true (by omega)
    have d2 : decide (((j + 13 : Nat) : Int) ≤ 12) = false := decide_eq_false (by omega)
    have d3 : decide (13 ≤ ((j + 13 : Nat) : Int)) = true := decide_eq_true (by omega)
    have d4 : decide (((j + 13 : Nat) : Int) ≤ 14) = true := decide_eq_true (by omega)
    have d5 : ((s : Int) != 0) = true := by simpa using sn
    clear hA
    have O : Only b (bk { P with ot := upd P.ot j x }) w (w.setCell ⟨b, 16 + j, none⟩ (.int .u32 x)) := ((Only.refl H.out).set (j := 16 + j) _).to (by rw [setO P (by omega)]; rfl)
    have OH := Lib.hid O
    clear O
    go_enter Try.func30, Try.ntmps30
    go_wp2_with (go_at_call 33; refine R.out.mono ?_; rintro e w' ⟨rfl, rfl⟩)
    go_end0
    exact ⟨rfl, OH.out⟩
  rw [if_neg hB]
  have O : Only b (bk { P with r := upd P.r k x }) w (w.setCell ⟨b, k, none⟩ (.int .u32 x)) := ((Only.refl H.out).set _).to (by rw [setR P hk16]; rfl)
  have OH := Lib.hid O
  clear O
  by_cases q : k < 8
  · have d1 : decide (8 ≤ (k : Int)) = false := decide_eq_false (by omega)
    have d3 : decide (13 ≤ (k : Int)) = false := decide_eq_false (by omega)
    clear hA hB
    go_enter Try.func30, Try.ntmps30
    go_wp2_with (go_at_call 33; refine R.out.mono ?_; rintro e w' ⟨rfl, rfl⟩)
    go_end0
    exact ⟨rfl, OH.out⟩
  have d1 : decide (8 ≤ (k : Int)) = true := decide_eq_true (by omega)
  by_cases q2 : k ≤ 12
  · have d2 : decide ((k : Int) ≤ 12) = true := decide_eq_true (by omega)
    have d3 : decide (13 ≤ (k : Int)) = false := decide_eq_false (by omega)
    have d5 : ((s : Int) == 1) = false := by
      have : ¬ s = 1 := fun e => hA ⟨by omega, q2, e⟩
      simp; omega
    clear hA hB
    go_enter Try.func30, Try.ntmps30
    go_wp2_with (go_at_call 33; refine R.out.mono ?_; rintro e w' ⟨rfl, rfl⟩)
    go_end0
    exact ⟨rfl, OH.out⟩
  have d2 : decide ((k : Int) ≤ 12) = false := decide_eq_false (by omega)
  have d3 : decide (13 ≤ (k : Int)) = true := decide_eq_true (by omega)
  by_cases q3 : k ≤ 14
  · have d4 : decide ((k : Int) ≤ 14) = true := decide_eq_true (by omega)
    have d5 : ((s : Int) != 0) = false := by
      have : s = 0 := Decidable.byContradiction fun e => hB ⟨by omega, q3, e⟩
      subst this; rfl
    clear hA hB
    go_enter Try.func30, Try.ntmps30
    go_wp2_with (go_at_call 33; refine R.out.mono ?_; rintro e w' ⟨rfl, rfl⟩)
    go_end0
    exact ⟨rfl, OH.out⟩
  · have d4 : decide ((k : Int) ≤ 14) = false := decide_eq_false (by omega)
    clear hA hB
    go_enter Try.func30, Try.ntmps30
    go_wp2_with (go_at_call 33; refine R.out.mono ?_; rintro e w' ⟨rfl, rfl⟩)
    go_end0
    exact ⟨rfl, OH.out⟩
end Go.Proofs.Ytajbankfnnlocaa.Bb
