/- Package irq, walked: each method's answer, and the controller's words behind it. -/
import Derived.Test.YtmpphmlibcdnhaaProg
import Derived.Test.YtmpphmlibcdnhaaBt
import Derived.Test.YtmpphmlibcdnhaaWk
import Derived.WalkLawsBesides
import Derived.Outline
import Derived.Lib.Hide
import Derived.Deep.QuietTactic
import Derived.BigQuiet
import Derived.RegionTactic
import Derived.ChangeAlike
namespace Go.Proofs.Ytmpphmlibcdnhaa.Iw
set_option linter.unusedVariables false
set_option linter.unusedSimpArgs false
open Go.RowKit Go.Proofs.Ytmpphmlibcdnhaa.Bt Go.Proofs.Ytmpphmlibcdnhaa.Wk

theorem ret_b {a b : Bool} (h : a = b) : Ending.returned (.bool a) = Ending.returned (.bool b) := by rw [h]
theorem ret_i {k : IntKind} {a b : Int} (h : a = b) : Ending.returned (.int k a) = Ending.returned (.int k b) := by rw [h]
/-- A controller's words. -/
def ctl (en fl : Int) (ms : Bool) (ke wa : Int) : Obj := .cells #[.int .u16 en, .int .u16 fl, .bool ms, .int .u16 ke, .int .u16 wa] 45 (0, 0)

set_option maxHeartbeats 1000000 in
theorem raise_no (p : Value) (i : Int) (w : World) (h : ¬ (0 ≤ i ∧ i < 14)) (hp : p = .pointer none ∨ ∃ b, p = .pointer (some ⟨b, 0, none⟩)) : Calls Try.prog 10 #[p, .int .i64 i] w fun e w' => e = .returned (.tuple #[]) ∧ w = w' := by
  rcases hp with rfl | ⟨b, rfl⟩
  all_goals
    by_cases c : 0 ≤ i
    · have c' : ¬ i < 14 := fun x => h ⟨c, x⟩
      clear h
      go_enter Try.func10, Try.ntmps10
      go_wp2
      go_end0
      exact ⟨rfl, rfl⟩
    · clear h
      go_enter Try.func10, Try.ntmps10
      go_wp2
      go_end0
      exact ⟨rfl, rfl⟩
/-- The bit of an interrupt. -/
def bitI (i : Int) : Int := IntKind.u16.wrap (2 ^ i.toNat)
set_option maxHeartbeats 1000000 in
theorem raise_yes (b : Nat) (i en fl : Int) (ms : Bool) (ke wa : Int) (w : World) (h0 : 0 ≤ i) (h1 : i < 14) (hs : w.heap[b]? = some (ctl en fl ms ke wa)) :
    Calls Try.prog 10 #[.pointer (some ⟨b, 0, none⟩), .int .i64 i] w fun e w' => e = .returned (.tuple #[]) ∧ Only b (ctl en (Go.bits .or .u16 fl (bitI i)) ms ke wa) w w' := by
  have C := cellsAt hs
  have F := freeAt hs
  have H := Lib.hid hs
  clear hs
  go_enter Try.func10, Try.ntmps10
  go_wp2
  go_region
  go_wp2
  go_end0
  exact ⟨rfl, (((Only.refl H.out).set _).drew).to (by simp [ctl, bitI])⟩
/-- What is asked for behind Raise. -/
def raiseS (fl i : Int) : Int := if 0 ≤ i ∧ i < 14 then Go.bits .or .u16 fl (bitI i) else fl
theorem raise_any (b : Nat) (i en fl : Int) (ms : Bool) (ke wa : Int) (w : World) (hs : w.heap[b]? = some (ctl en fl ms ke wa)) :
    Calls Try.prog 10 #[.pointer (some ⟨b, 0, none⟩), .int .i64 i] w fun e w' => e = .returned (.tuple #[]) ∧ Only b (ctl en (raiseS fl i) ms ke wa) w w' := by
  unfold raiseS
  by_cases h : 0 ≤ i ∧ i < 14
  · rw [if_pos h]; exact raise_yes b i en fl ms ke wa w h.1 h.2 hs
  · rw [if_neg h]; exact (raise_no _ i w h (.inr ⟨b, rfl⟩)).mono (fun e w' ⟨h1, h2⟩ => ⟨h1, h2 ▸ Only.refl hs⟩)
/-- What is asked for behind a look at the keypad. -/
def pressS (fl ke wa : Int) : Int :=
  if (Go.bits .and .u16 (wa / 16384) 1 == 0) = true then fl
  else if (wa / 32768 == 1) = true then (if (Go.bits .and .u16 ke (Go.bits .and .u16 wa 1023) == Go.bits .and .u16 wa 1023) = true then Go.bits .or .u16 fl (bitI 12) else fl)
  else if (Go.bits .and .u16 ke (Go.bits .and .u16 wa 1023) != 0) = true then Go.bits .or .u16 fl (bitI 12) else fl
set_option maxHeartbeats 1000000 in
theorem pressed_any (b : Nat) (en fl : Int) (ms : Bool) (ke wa : Int) (w : World) (hs : w.heap[b]? = some (ctl en fl ms ke wa)) :
    Calls Try.prog 21 #[.pointer (some ⟨b, 0, none⟩)] w fun e w' => e = .returned (.tuple #[]) ∧ Only b (ctl en (pressS fl ke wa) ms ke wa) w w' := by
  have C := cellsAt hs
  have R := Lib.hid (raise_yes b 12 en fl ms ke wa w (by decide) (by decide) hs)
  have O := Lib.hid (Only.refl hs)
  clear hs
  unfold pressS
  by_cases c1 : (Go.bits .and .u16 (wa / 16384) 1 == 0) = true
  · rw [if_pos c1]
    go_enter Try.func21, Try.ntmps21
    go_wp2
    refine bodyPost_ret (results_none rfl _ _ _) rfl ?_
    exact ⟨rfl, O.out⟩
  · rw [if_neg c1]
    have d1 : (Go.bits .and .u16 (wa / 16384) 1 == 0) = false := by simpa using c1
    clear c1
    by_cases c2 : (wa / 32768 == 1) = true
    · rw [if_pos c2]
      by_cases c3 : (Go.bits .and .u16 ke (Go.bits .and .u16 wa 1023) == Go.bits .and .u16 wa 1023) = true
      · rw [if_pos c3]
        go_enter Try.func21, Try.ntmps21
        go_wp2_with (go_at_call 10; refine R.out.mono ?_; rintro e w' ⟨rfl, h⟩)
        go_end0
        exact ⟨rfl, h⟩
      · rw [if_neg c3]
        have d3 : (Go.bits .and .u16 ke (Go.bits .and .u16 wa 1023) == Go.bits .and .u16 wa 1023) = false := by simpa using c3
        clear c3
        go_enter Try.func21, Try.ntmps21
        go_wp2
        go_end0
        exact ⟨rfl, O.out⟩
    · rw [if_neg c2]
      have d2 : (wa / 32768 == 1) = false := by simpa using c2
      clear c2
      by_cases c3 : (Go.bits .and .u16 ke (Go.bits .and .u16 wa 1023) != 0) = true
      · rw [if_pos c3]
        go_enter Try.func21, Try.ntmps21
        go_wp2_with (go_at_call 10; refine R.out.mono ?_; rintro e w' ⟨rfl, h⟩)
        go_end0
        exact ⟨rfl, h⟩
      · rw [if_neg c3]
        have d3 : (Go.bits .and .u16 ke (Go.bits .and .u16 wa 1023) != 0) = false := by simpa using c3
        clear c3
        go_enter Try.func21, Try.ntmps21
        go_wp2
        go_end0
        exact ⟨rfl, O.out⟩
set_option maxHeartbeats 1000000 in
theorem keys_any (b : Nat) (en fl : Int) (ms : Bool) (ke wa k : Int) (w : World) (hs : w.heap[b]? = some (ctl en fl ms ke wa)) :
    Calls Try.prog 14 #[.pointer (some ⟨b, 0, none⟩), .int .u16 k] w fun e w' => e = .returned (.tuple #[]) ∧ Only b (ctl en (pressS fl (Go.bits .and .u16 k 1023) wa) ms (Go.bits .and .u16 k 1023) wa) w w' := by
  have C := cellsAt hs
  have F := freeAt hs
  have O := Lib.hid (((Only.refl hs).set (j := 3) (.int .u16 (Go.bits .and .u16 k 1023))).to (show _ = ctl en fl ms (Go.bits .and .u16 k 1023) wa by simp [ctl]))
  clear hs
  go_enter Try.func14, Try.ntmps14
  go_wp2_with fail
  refine (pressed_any b en fl ms (Go.bits .and .u16 k 1023) wa _ O.out.at_).mono ?_
  rintro e w' ⟨rfl, h⟩
  go_wp2
  go_end0
  exact ⟨rfl, O.out.trans h⟩
/-- A register's answer. -/
def readS (en fl : Int) (ms : Bool) (ke wa at_ : Int) : Int :=
  if at_ = 304 then Go.bits .and .u16 (Go.bits .xor .u16 IntKind.u16.max ke) 1023 else if at_ = 306 then wa else if at_ = 512 then en else if at_ = 514 then fl else if at_ = 520 then (if ms then 1 else 0) else 0
set_option maxHeartbeats 1000000 in
theorem read_any (b : Nat) (en fl : Int) (ms : Bool) (ke wa at_ : Int) (w : World) (hs : w.heap[b]? = some (ctl en fl ms ke wa)) :
    Calls Try.prog 11 #[.pointer (some ⟨b, 0, none⟩), .int .i64 at_] w fun e w' => e = .returned (.int .u16 (readS en fl ms ke wa at_)) ∧ w = w' := by
  have C := cellsAt hs
  clear hs
  unfold readS
  by_cases a1 : at_ = 304
  · subst a1
    go_enter Try.func11, Try.ntmps11
    go_wp2
    go_ret
    exact ⟨rfl, rfl⟩
  · rw [if_neg a1]
    have d1 : (at_ == 304) = false := by simpa using a1
    by_cases a2 : at_ = 306
    · subst a2
      go_enter Try.func11, Try.ntmps11
      go_wp2
      go_ret
      exact ⟨rfl, rfl⟩
    · rw [if_neg a2]
      have d2 : (at_ == 306) = false := by simpa using a2
      by_cases a3 : at_ = 512
      · subst a3
        go_enter Try.func11, Try.ntmps11
        go_wp2
        go_ret
        exact ⟨rfl, rfl⟩
      · rw [if_neg a3]
        have d3 : (at_ == 512) = false := by simpa using a3
        by_cases a4 : at_ = 514
        · subst a4
          go_enter Try.func11, Try.ntmps11
          go_wp2
          go_ret
          exact ⟨rfl, rfl⟩
        · rw [if_neg a4]
          have d4 : (at_ == 514) = false := by simpa using a4
          by_cases a5 : at_ = 520
          · subst a5
            cases ms
            all_goals
              go_enter Try.func11, Try.ntmps11
              go_wp2
              go_ret
              exact ⟨rfl, rfl⟩
          · rw [if_neg a5]
            have d5 : (at_ == 520) = false := by simpa using a5
            clear a1 a2 a3 a4 a5
            go_enter Try.func11, Try.ntmps11
            go_wp2
            go_ret
            exact ⟨rfl, rfl⟩
end Go.Proofs.Ytmpphmlibcdnhaa.Iw
