/- Package dma, walked: the unit's other calls. -/
import Derived.Test.YtbpeppmajmhmiaaDc
namespace Go.Proofs.Ytbpeppmajmhmiaa.Dd
set_option linter.unusedVariables false
set_option linter.unusedSimpArgs false
open Go.RowKit Go.Proofs.Ytbpeppmajmhmiaa.Bt Go.Proofs.Ytbpeppmajmhmiaa.Wk Go.Proofs.Ytbpeppmajmhmiaa.Sg Go.Proofs.Ytbpeppmajmhmiaa.Dp Go.Proofs.Ytbpeppmajmhmiaa.Da Go.Proofs.Ytbpeppmajmhmiaa.Db Go.Proofs.Ytbpeppmajmhmiaa.Dc

set_option maxRecDepth 100000 in
set_option maxHeartbeats 4000000 in
theorem writeE {w : World} {ub i : Nat} {T : TypeId} {u : Nat → Ch} {c : Ch} (h : B1 w w ub T u i c) (hi : i < 4) (part x : Int) (hp : part < 0 ∨ 5 < part) :
    Calls Try.prog 10 #[.pointer (some ⟨ub, 0, none⟩), .int .i64 i, .int .i64 part, .int .u16 x] w fun e w' => e = .returned (.tuple #[]) ∧ w = w' := by
  have i0 : (0 : Int) ≤ (i : Int) := by omega
  have i4 : (i : Int) < 4 := by omega
  have q0 : decide ((i : Int) < 0) = false := decide_eq_false (by omega)
  have q3 : decide ((3 : Int) < (i : Int)) = false := decide_eq_false (by omega)
  have t0 : (part == 0) = false := by
    have : part ≠ 0 := by omega
    simpa using this
  have t1 : (part == 1) = false := by
    have : part ≠ 1 := by omega
    simpa using this
  have t2 : (part == 2) = false := by
    have : part ≠ 2 := by omega
    simpa using this
  have t3 : (part == 3) = false := by
    have : part ≠ 3 := by omega
    simpa using this
  have t4 : (part == 4) = false := by
    have : part ≠ 4 := by omega
    simpa using this
  have t5 : (part == 5) = false := by
    have : part ≠ 5 := by omega
    simpa using this
  clear hp h
  go_enter Try.func10, Try.ntmps10
  go_wp2
  go_end0
  exact ⟨rfl, rfl⟩
theorem writeP {w : World} {ub i : Nat} {T : TypeId} {u : Nat → Ch} {c : Ch} (h : B1 w w ub T u i c) (hi : i < 4) (f : Wf c) (part x : Int) (x0 : 0 ≤ x) (x1 : x < 65536) :
    Calls Try.prog 10 #[.pointer (some ⟨ub, 0, none⟩), .int .i64 i, .int .i64 part, .int .u16 x] w fun e w' => e = .returned (.tuple #[]) ∧ B1 w w' ub T u i (wrC c i part x) := by
  by_cases h0 : part = 0
  · subst h0; exact write0 h hi f x x0 x1
  by_cases h1 : part = 1
  · subst h1; exact write1 h hi f x x0 x1
  by_cases h2 : part = 2
  · subst h2; exact write2 h hi f x x0 x1
  by_cases h3 : part = 3
  · subst h3; exact write3 h hi f x x0 x1
  by_cases h4 : part = 4
  · subst h4; exact write4 h hi f x x0 x1
  by_cases h5 : part = 5
  · subst h5; exact write5 h hi f x x0 x1
  refine (writeE h hi part x (by omega)).mono ?_
  rintro e w' ⟨rfl, rfl⟩
  refine ⟨rfl, ?_⟩
  have : wrC c i part x = c := by unfold wrC; rw [if_neg h0, if_neg h1, if_neg h2, if_neg h3, if_neg h4, if_neg h5]
  rw [this]
  exact h
set_option maxRecDepth 100000 in
set_option maxHeartbeats 4000000 in
theorem write_out (p : Option Addr) (i part x : Int) (hi : i < 0 ∨ 3 < i ∨ p = none) (w : World) :
    Calls Try.prog 10 #[.pointer p, .int .i64 i, .int .i64 part, .int .u16 x] w fun e w' => e = .returned (.tuple #[]) ∧ w = w' := by
  rcases p with _ | p
  · go_enter Try.func10, Try.ntmps10
    go_wp2
    refine bodyPost_ret (results_none rfl _ _ _) rfl ?_
    exact ⟨rfl, rfl⟩
  · by_cases h0 : i < 0
    · have t : decide (i < 0) = true := decide_eq_true h0
      clear hi
      go_enter Try.func10, Try.ntmps10
      go_wp2
      refine bodyPost_ret (results_none rfl _ _ _) rfl ?_
      exact ⟨rfl, rfl⟩
    · have t : decide (i < 0) = false := decide_eq_false h0
      have h3 : 3 < i := by
        rcases hi with h | h | h
        · exact absurd h h0
        · exact h
        · cases h
      have t3 : decide (3 < i) = true := decide_eq_true h3
      clear hi
      go_enter Try.func10, Try.ntmps10
      go_wp2
      refine bodyPost_ret (results_none rfl _ _ _) rfl ?_
      exact ⟨rfl, rfl⟩
/-! ### Control, Ready -/
def isU (w : World) (ub : Nat) (T : TypeId) (u : Nat → Ch) : Prop := w.heap[ub]? = some (.cells (cells u).toArray T (0, 0))
theorem isU_b1 {w : World} {ub : Nat} {T : TypeId} {u : Nat → Ch} (h : isU w ub T u) (i : Nat) : B1 w w ub T u i (u i) := B1.start h i
theorem control_any {w : World} {ub i : Nat} {T : TypeId} {u : Nat → Ch} (h : isU w ub T u) (hi : i < 4) :
    Calls Try.prog 14 #[.pointer (some ⟨ub, 0, none⟩), .int .i64 i] w fun e w' => e = .returned (.int .u16 (u i).ctl) ∧ w = w' := by
  have C3 := (isU_b1 h i).c3 hi
  have i0 : (0 : Int) ≤ (i : Int) := by omega
  have i4 : (i : Int) < 4 := by omega
  have q0 : decide ((i : Int) < 0) = false := decide_eq_false (by omega)
  have q3 : decide ((3 : Int) < (i : Int)) = false := decide_eq_false (by omega)
  clear h
  generalize (u i).ctl = y at *
  go_enter Try.func14, Try.ntmps14
  go_wp2
  go_ret
  exact ⟨rfl, rfl⟩
theorem control_out (p : Option Addr) (i : Int) (hi : i < 0 ∨ 3 < i ∨ p = none) (w : World) :
    Calls Try.prog 14 #[.pointer p, .int .i64 i] w fun e w' => e = .returned (.int .u16 0) ∧ w = w' := by
  rcases p with _ | p
  · go_enter Try.func14, Try.ntmps14
    go_wp2
    go_ret
    exact ⟨rfl, rfl⟩
  · by_cases h0 : i < 0
    · have t : decide (i < 0) = true := decide_eq_true h0
      clear hi
      go_enter Try.func14, Try.ntmps14
      go_wp2
      go_ret
      exact ⟨rfl, rfl⟩
    · have t : decide (i < 0) = false := decide_eq_false h0
      have h3 : 3 < i := by
        rcases hi with h | h | h
        · exact absurd h h0
        · exact h
        · cases h
      have t3 : decide (3 < i) = true := decide_eq_true h3
      clear hi
      go_enter Try.func14, Try.ntmps14
      go_wp2
      go_ret
      exact ⟨rfl, rfl⟩
theorem ready_nil (w : World) : Calls Try.prog 13 #[.pointer none] w fun e w' => e = .returned (.int .i64 (-1)) ∧ w = w' := by
  go_enter Try.func13, Try.ntmps13
  go_wp2
  go_ret
  exact ⟨rfl, rfl⟩
/-- From channel k on. -/
def rdy (u : Nat → Ch) (k : Nat) : Int := if 4 ≤ k then -1 else if (u k).pend then k else rdy u (k + 1)
termination_by 4 - k
theorem rdy_at (u : Nat → Ch) {k : Nat} (h : k < 4) : rdy u k = if (u k).pend then (k : Int) else rdy u (k + 1) := by
  rw [rdy, if_neg (by omega)]
theorem rdy_end (u : Nat → Ch) : rdy u 4 = -1 := by rw [rdy, if_pos (by omega)]
theorem ready_rdy (u : Nat → Ch) : ready u = rdy u 0 := by
  unfold ready
  rw [rdy_at u (by decide), rdy_at u (show 0 + 1 < 4 by decide), rdy_at u (show 0 + 1 + 1 < 4 by decide), rdy_at u (show 0 + 1 + 1 + 1 < 4 by decide), rdy_end]
  rfl
set_option maxHeartbeats 1000000 in
theorem ready_any {w : World} {ub : Nat} {T : TypeId} {u : Nat → Ch} (h : isU w ub T u) :
    Calls Try.prog 13 #[.pointer (some ⟨ub, 0, none⟩)] w fun e w' => e = .returned (.int .i64 (ready u)) ∧ w = w' := by
  rw [ready_rdy]
  have HH := Lib.hid h
  clear h
  go_enter Try.func13, Try.ntmps13
  go_wp2
  go_loop [6] (fun i => ∃ k : Nat, i = .int .i64 k ∧ k ≤ 4 ∧ rdy u k = rdy u 0) (fun i => 4 - (intOf i).toNat)
  case atStart => exact ⟨0, rfl, by omega, rfl⟩
  case round =>
    obtain ⟨k, rfl, hk, hr⟩ := hrel
    by_cases hlt : k < 4
    · have C7 := (isU_b1 HH.out k).c7 hlt
      rw [rdy_at u hlt] at hr
      have i0 : (0 : Int) ≤ (k : Int) := by omega
      have i4 : (k : Int) < 4 := by omega
      have t : decide ((k : Int) < 4) = true := decide_eq_true (by omega)
      generalize (u k).pend = p at *
      have HR := Lib.hid hr
      clear hr
      cases p
      · go_wp2
        go_round
        case rel => exact ⟨k + 1, by go_num, by omega, by have := HR.out; simpa using this⟩
        case measure => simp [intOf]; omega
      · go_wp2
        go_ret
        exact ⟨ret_i (by have := HR.out; simpa using this), rfl⟩
    · have : k = 4 := by omega
      subst this
      rw [rdy_end] at hr
      have HR := Lib.hid hr
      clear hr
      go_wp2
      go_ret
      exact ⟨ret_i HR.out, rfl⟩
end Go.Proofs.Ytbpeppmajmhmiaa.Dd
