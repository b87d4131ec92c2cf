/- Package irq, walked on: Write, Wakes, Fires, New, the none, and the law's waking test. -/
import Derived.Test.YtmpphmlibcdnhaaIw
namespace Go.Proofs.Ytmpphmlibcdnhaa.Ix
set_option linter.unusedVariables false
set_option linter.unusedSimpArgs false
open Go.RowKit Go.Proofs.Ytmpphmlibcdnhaa.Bt Go.Proofs.Ytmpphmlibcdnhaa.Wk Go.Proofs.Ytmpphmlibcdnhaa.Iw

set_option maxHeartbeats 1000000 in
theorem write_512 (b : Nat) (en fl : Int) (ms : Bool) (ke wa x : Int) (w : World) (hs : w.heap[b]? = some (ctl en fl ms ke wa)) :
    Calls Try.prog 9 #[.pointer (some ⟨b, 0, none⟩), .int .i64 512, .int .u16 x] w fun e w' => e = .returned (.tuple #[]) ∧ Only b (ctl (Go.bits .and .u16 x 16383) fl ms ke wa) w w' := by
  have C := cellsAt hs
  have F := freeAt hs
  have O := Lib.hid (Only.refl hs)
  clear hs
  go_enter Try.func9, Try.ntmps9
  go_wp2
  go_end0
  exact ⟨rfl, (O.out.set _).to (by simp [ctl])⟩
set_option maxHeartbeats 1000000 in
theorem write_514 (b : Nat) (en fl : Int) (ms : Bool) (ke wa x : Int) (w : World) (hs : w.heap[b]? = some (ctl en fl ms ke wa)) :
    Calls Try.prog 9 #[.pointer (some ⟨b, 0, none⟩), .int .i64 514, .int .u16 x] w fun e w' => e = .returned (.tuple #[]) ∧ Only b (ctl en (Go.bits .andNot .u16 fl x) ms ke wa) w w' := by
  have C := cellsAt hs
  have F := freeAt hs
  have O := Lib.hid (Only.refl hs)
  clear hs
  go_enter Try.func9, Try.ntmps9
  go_wp2
  go_end0
  exact ⟨rfl, (O.out.set _).to (by simp [ctl])⟩
set_option maxHeartbeats 1000000 in
theorem write_520 (b : Nat) (en fl : Int) (ms : Bool) (ke wa x : Int) (w : World) (hs : w.heap[b]? = some (ctl en fl ms ke wa)) :
    Calls Try.prog 9 #[.pointer (some ⟨b, 0, none⟩), .int .i64 520, .int .u16 x] w fun e w' => e = .returned (.tuple #[]) ∧ Only b (ctl en fl (Go.bits .and .u16 x 1 == 1) ke wa) w w' := by
  have C := cellsAt hs
  have F := freeAt hs
  have O := Lib.hid (Only.refl hs)
  clear hs
  go_enter Try.func9, Try.ntmps9
  go_wp2
  go_end0
  exact ⟨rfl, (O.out.set _).to (by simp [ctl])⟩
set_option maxHeartbeats 1000000 in
theorem write_306 (b : Nat) (en fl : Int) (ms : Bool) (ke wa x : Int) (w : World) (hs : w.heap[b]? = some (ctl en fl ms ke wa)) :
    Calls Try.prog 9 #[.pointer (some ⟨b, 0, none⟩), .int .i64 306, .int .u16 x] w fun e w' => e = .returned (.tuple #[]) ∧ Only b (ctl en (pressS fl ke (Go.bits .and .u16 x 50175)) ms ke (Go.bits .and .u16 x 50175)) w w' := by
  have C := cellsAt hs
  have F := freeAt hs
  have O := Lib.hid (((Only.refl hs).set (j := 4) (.int .u16 (Go.bits .and .u16 x 50175))).to (show _ = ctl en fl ms ke (Go.bits .and .u16 x 50175) by simp [ctl]))
  clear hs
  go_enter Try.func9, Try.ntmps9
  go_wp2_with fail
  refine (pressed_any b en fl ms ke (Go.bits .and .u16 x 50175) _ O.out.at_).mono ?_
  rintro e w' ⟨rfl, h⟩
  go_wp2
  go_end0
  exact ⟨rfl, O.out.trans h⟩
set_option maxHeartbeats 1000000 in
theorem write_else (b : Nat) (en fl : Int) (ms : Bool) (ke wa at_ x : Int) (w : World) (h1 : at_ ≠ 306) (h2 : at_ ≠ 512) (h3 : at_ ≠ 514) (h4 : at_ ≠ 520) (hs : w.heap[b]? = some (ctl en fl ms ke wa)) :
    Calls Try.prog 9 #[.pointer (some ⟨b, 0, none⟩), .int .i64 at_, .int .u16 x] w fun e w' => e = .returned (.tuple #[]) ∧ Only b (ctl en fl ms ke wa) w w' := by
  have O := Lib.hid (Only.refl hs)
  have d1 : (at_ == 306) = false := by simpa using h1
  have d2 : (at_ == 512) = false := by simpa using h2
  have d3 : (at_ == 514) = false := by simpa using h3
  have d4 : (at_ == 520) = false := by simpa using h4
  clear h1 h2 h3 h4 hs
  go_enter Try.func9, Try.ntmps9
  go_wp2
  go_end0
  exact ⟨rfl, O.out⟩
set_option maxHeartbeats 1000000 in
theorem write_none (at_ x : Int) (w : World) :
    Calls Try.prog 9 #[.pointer none, .int .i64 at_, .int .u16 x] w fun e w' => e = .returned (.tuple #[]) ∧ w = w' := by
  go_enter Try.func9, Try.ntmps9
  go_wp2
  refine bodyPost_ret (results_none rfl _ _ _) rfl ?_
  exact ⟨rfl, rfl⟩
theorem raise_none (i : Int) (w : World) :
    Calls Try.prog 10 #[.pointer none, .int .i64 i] w fun e w' => e = .returned (.tuple #[]) ∧ w = w' := by
  go_enter Try.func10, Try.ntmps10
  go_wp2
  go_end0
  exact ⟨rfl, rfl⟩
theorem keys_none (x : Int) (w : World) :
    Calls Try.prog 14 #[.pointer none, .int .u16 x] w fun e w' => e = .returned (.tuple #[]) ∧ w = w' := by
  go_enter Try.func14, Try.ntmps14
  go_wp2
  go_end0
  exact ⟨rfl, rfl⟩
theorem read_none (at_ : Int) (w : World) :
    Calls Try.prog 11 #[.pointer none, .int .i64 at_] w fun e w' => e = .returned (.int .u16 0) ∧ w = w' := by
  go_enter Try.func11, Try.ntmps11
  go_wp2
  go_ret
  exact ⟨rfl, rfl⟩
theorem wakes_none (w : World) :
    Calls Try.prog 16 #[.pointer none] w fun e w' => e = .returned (.bool false) ∧ ∃ n, w' = w.drewN n := by
  go_enter Try.func16, Try.ntmps16
  go_wp2_with fail
  go_quiet (fail)
  go_wp2
  go_ret
  exact ⟨rfl, _, rfl⟩
theorem fires_none (w : World) :
    Calls Try.prog 18 #[.pointer none] w fun e w' => e = .returned (.bool false) ∧ ∃ n, w' = w.drewN n := by
  go_enter Try.func18, Try.ntmps18
  go_wp2_with (go_at_call 16; refine (wakes_none _).mono ?_; rintro e w' ⟨rfl, n, rfl⟩)
  go_ret
  exact ⟨rfl, _, rfl⟩
theorem wakes_any (b : Nat) (en fl : Int) (ms : Bool) (ke wa : Int) (w : World) (hs : w.heap[b]? = some (ctl en fl ms ke wa)) :
    Calls Try.prog 16 #[.pointer (some ⟨b, 0, none⟩)] w fun e w' => e = .returned (.bool (Go.bits .and .u16 en fl != 0)) ∧ ∃ n, w' = w.drewN n := by
  have C := cellsAt hs
  clear hs
  go_enter Try.func16, Try.ntmps16
  go_wp2_with fail
  go_quiet (fail)
  go_wp2
  go_ret
  exact ⟨rfl, _, rfl⟩
theorem fires_any (b : Nat) (en fl : Int) (ms : Bool) (ke wa : Int) (w : World) (hs : w.heap[b]? = some (ctl en fl ms ke wa)) :
    Calls Try.prog 18 #[.pointer (some ⟨b, 0, none⟩)] w fun e w' => e = .returned (.bool ((Go.bits .and .u16 en fl != 0) && ms)) ∧ ∃ n, w' = w.drewN n := by
  have C := cellsAt hs
  have R := Lib.hid (wakes_any b en fl ms ke wa w hs)
  clear hs
  cases h : (Go.bits .and .u16 en fl != 0)
  all_goals
    rw [h] at R
    clear h
    go_enter Try.func18, Try.ntmps18
    go_wp2_with (go_at_call 16; refine R.out.mono ?_; rintro e w' ⟨rfl, n, rfl⟩)
    go_ret
    exact ⟨rfl, _, rfl⟩
theorem new_any (w : World) :
    Calls Try.prog 8 #[] w fun e w' => e = .returned (.pointer (some ⟨w.heap.size, 0, none⟩)) ∧ Only w.heap.size (ctl 0 0 false 0 0) w w' := by
  go_enter Try.func8, Try.ntmps8
  go_wp2
  go_ret
  exact ⟨rfl, alloc_new _ _, rfl, rfl, rfl, by simp, fun k hk hn => (MapKept.heap_alloc w _).2 k hk⟩
set_option maxHeartbeats 1000000 in
theorem awake_any (w : World) :
    Calls Try.prog 7 #[] w fun e w' => e = .returned (.bool true) ∧ Below w.heap.size w w' := by
  go_enter Try.func7, Try.ntmps7
  go_wp2_with fail
  refine (new_any _).mono ?_
  rintro e w1 ⟨rfl, o1⟩
  have O1 := Lib.hid o1
  clear o1
  generalize hB : w.heap.size = B at *
  go_wp2_with fail
  refine (write_512 B _ _ _ _ _ _ _ O1.out.at_).mono ?_
  rintro e w2 ⟨rfl, o2⟩
  have O2 := Lib.hid (o2.to (show _ = ctl 1 0 false 0 0 by rfl))
  clear o2
  go_wp2_with fail
  refine (raise_any B _ _ _ _ _ _ _ O2.out.at_).mono ?_
  rintro e w3 ⟨rfl, o3⟩
  have O3 := Lib.hid (o3.to (show _ = ctl 1 1 false 0 0 by rfl))
  clear o3
  have R1 := Lib.hid (wakes_any B _ _ _ _ _ _ O3.out.at_)
  have R2 := Lib.hid (fun n => fires_any B _ _ _ _ _ _ (drewN_heap n O3.out.at_))
  go_wp2_with (first | (go_at_call 16; refine R1.out.mono ?_; rintro e w' ⟨rfl, n, rfl⟩) | (go_at_call 18; refine (R2.out _).mono ?_; rintro e w' ⟨rfl, m, rfl⟩))
  clear R1 R2
  go_wp2_with fail
  refine (write_520 B _ _ _ _ _ _ _ (drewN_heap _ O3.out.at_)).mono ?_
  rintro e w4 ⟨rfl, o4⟩
  have O4 := Lib.hid (o4.to (show _ = ctl 1 1 true 0 0 by rfl))
  clear o4
  have R3 := Lib.hid (fires_any B _ _ _ _ _ _ O4.out.at_)
  have R4 := Lib.hid (fun n => read_any B _ _ _ _ _ 514 _ (drewN_heap n O4.out.at_))
  go_wp2_with (first | (go_at_call 18; refine R3.out.mono ?_; rintro e w' ⟨rfl, k, rfl⟩) | (go_at_call 11; refine (R4.out _).mono ?_; rintro e w' ⟨rfl, rfl⟩))
  go_ret
  exact ⟨rfl, below_only (Below.refl _ _) ((((O1.out.trans O2.out).trans O3.out).drewN _).trans (O4.out.drewN _)) (by omega) (by omega)⟩
end Go.Proofs.Ytmpphmlibcdnhaa.Ix
