/- The document's controller, walked: bits as lists of yes and no. -/
import Derived.Test.YtmpphmlibcdnhaaIx
import Derived.Test.YtmpphmlibcdnhaaSg
import Derived.LoopTactic
import Derived.StillTailTactics
namespace Go.Proofs.Ytmpphmlibcdnhaa.Ir
set_option linter.unusedVariables false
set_option linter.unusedSimpArgs false
open Go.RowKit Go.Proofs.Ytmpphmlibcdnhaa.Bt Go.Proofs.Ytmpphmlibcdnhaa.Wk Go.Proofs.Ytmpphmlibcdnhaa.Sg

/-- A word's bit. -/
def tb (x : Int) (i : Nat) : Bool := x / 2 ^ i % 2 == 1
set_option maxHeartbeats 1000000 in
theorem bit_any (x : Int) (i : Nat) (h0 : 0 ≤ x) (h1 : x < 65536) (hi : i < 16) (w : World) :
    Calls Try.prog 23 #[.int .u16 x, .int .i64 i] w fun e w' => e = .returned (.bool (tb x i)) ∧ w = w' := by
  unfold tb
  have p0 : 0 ≤ x / 2 ^ i := Int.ediv_nonneg h0 (Int.le_of_lt (Int.pow_pos (by decide)))
  go_enter Try.func23, Try.ntmps23
  go_wp2
  go_ret
  exact ⟨rfl, rfl⟩
/-- The document's controller. -/
def rcl (E A K : Nat → Bool) (wa : Int) (ms : Bool) : List Value := seg 14 (fun i => .bool (E i)) ++ (seg 14 (fun i => .bool (A i)) ++ (seg 10 (fun i => .bool (K i)) ++ [.int .u16 wa, .bool ms]))
def rc (E A K : Nat → Bool) (wa : Int) (ms : Bool) : Obj := .cells (rcl E A K wa ms).toArray 37 (0, 0)
theorem atE (E A K : Nat → Bool) (wa : Int) (ms : Bool) {i : Nat} (h : i < 14) : (rcl E A K wa ms).toArray[i]? = some (.bool (E i)) := by
  rw [toArray_at]; exact seg_in _ _ h
theorem atA (E A K : Nat → Bool) (wa : Int) (ms : Bool) {i : Nat} (h : i < 14) : (rcl E A K wa ms).toArray[14 + i]? = some (.bool (A i)) := by
  rw [toArray_at]; unfold rcl; rw [seg_out]; exact seg_in _ _ h
theorem atK (E A K : Nat → Bool) (wa : Int) (ms : Bool) {i : Nat} (h : i < 10) : (rcl E A K wa ms).toArray[28 + i]? = some (.bool (K i)) := by
  rw [toArray_at, show 28 + i = 14 + (14 + i) by omega]; unfold rcl; rw [seg_out, seg_out]; exact seg_in _ _ h
theorem atW (E A K : Nat → Bool) (wa : Int) (ms : Bool) : (rcl E A K wa ms).toArray[38]? = some (.int .u16 wa) := by
  rw [toArray_at, show 38 = 14 + (14 + (10 + 0)) by omega]; unfold rcl; rw [seg_out, seg_out, seg_out]; rfl
theorem atM (E A K : Nat → Bool) (wa : Int) (ms : Bool) : (rcl E A K wa ms).toArray[39]? = some (.bool ms) := by
  rw [toArray_at, show 39 = 14 + (14 + (10 + 1)) by omega]; unfold rcl; rw [seg_out, seg_out, seg_out]; rfl
theorem updb (f : Nat → Bool) (i : Nat) (v : Bool) : upd (fun k => Value.bool (f k)) i (.bool v) = fun k => Value.bool (upd f i v k) := by
  funext k; unfold upd; split <;> rfl
theorem setE (E A K : Nat → Bool) (wa : Int) (ms : Bool) {i : Nat} (h : i < 14) (v : Bool) : (rcl E A K wa ms).toArray.setIfInBounds i (.bool v) = (rcl (upd E i v) A K wa ms).toArray := by
  rw [toArray_set]; unfold rcl; rw [seg_set_in _ _ _ h, updb]
theorem setA (E A K : Nat → Bool) (wa : Int) (ms : Bool) {i : Nat} (h : i < 14) (v : Bool) : (rcl E A K wa ms).toArray.setIfInBounds (14 + i) (.bool v) = (rcl E (upd A i v) K wa ms).toArray := by
  rw [toArray_set]; unfold rcl; rw [seg_set_out, seg_set_in _ _ _ h, updb]
theorem setK (E A K : Nat → Bool) (wa : Int) (ms : Bool) {i : Nat} (h : i < 10) (v : Bool) : (rcl E A K wa ms).toArray.setIfInBounds (28 + i) (.bool v) = (rcl E A (upd K i v) wa ms).toArray := by
  rw [toArray_set, show 28 + i = 14 + (14 + i) by omega]; unfold rcl; rw [seg_set_out, seg_set_out, seg_set_in _ _ _ h, updb]
theorem setW (E A K : Nat → Bool) (wa : Int) (ms : Bool) (v : Int) : (rcl E A K wa ms).toArray.setIfInBounds 38 (.int .u16 v) = (rcl E A K v ms).toArray := by
  rw [toArray_set, show 38 = 14 + (14 + (10 + 0)) by omega]; unfold rcl; rw [seg_set_out, seg_set_out, seg_set_out]; rfl
theorem setM (E A K : Nat → Bool) (wa : Int) (ms : Bool) (v : Bool) : (rcl E A K wa ms).toArray.setIfInBounds 39 (.bool v) = (rcl E A K wa v).toArray := by
  rw [toArray_set, show 39 = 14 + (14 + (10 + 1)) by omega]; unfold rcl; rw [seg_set_out, seg_set_out, seg_set_out]; rfl
theorem rc_congr {E A K E' A' K' : Nat → Bool} {wa wa' : Int} {ms ms' : Bool} (hE : ∀ i, i < 14 → E i = E' i) (hA : ∀ i, i < 14 → A i = A' i) (hK : ∀ i, i < 10 → K i = K' i) (hw : wa = wa') (hm : ms = ms') : rc E A K wa ms = rc E' A' K' wa' ms' := by
  subst hw hm
  unfold rc rcl
  rw [seg_congr (fun i h => congrArg Value.bool (hE i h)), seg_congr (fun i h => congrArg Value.bool (hA i h)), seg_congr (fun i h => congrArg Value.bool (hK i h))]

/-! ### the methods -/
set_option maxHeartbeats 1000000 in
theorem raise_yes (b i : Nat) (E A K : Nat → Bool) (wa : Int) (ms : Bool) (w : World) (hi : i < 14) (hs : w.heap[b]? = some (rc E A K wa ms)) :
    Calls Try.prog 12 #[.pointer (some ⟨b, 0, none⟩), .int .i64 i] w fun e w' => e = .returned (.tuple #[]) ∧ Only b (rc E (upd A i true) K wa ms) w w' := by
  have C : w.cell? ⟨b, 14 + i, none⟩ = some (.bool (A i)) := (cellsAt hs _).trans (atA E A K wa ms hi)
  have F := freeAt hs
  have O := Lib.hid (Only.refl hs)
  clear hs
  go_enter Try.func12, Try.ntmps12
  go_wp2
  go_end0
  exact ⟨rfl, ((O.out.set _)).to (by rw [setA _ _ _ _ _ hi]; rfl)⟩
set_option maxHeartbeats 1000000 in
theorem raise_no (b : Nat) (i : Int) (w : World) (h : ¬ (0 ≤ i ∧ i < 14)) :
    Calls Try.prog 12 #[.pointer (some ⟨b, 0, none⟩), .int .i64 i] w fun e w' => e = .returned (.tuple #[]) ∧ w = w' := by
  by_cases c : 0 ≤ i
  · have c' : ¬ i < 14 := fun x => h ⟨c, x⟩
    clear h
    go_enter Try.func12, Try.ntmps12
    go_wp2
    go_end0
    exact ⟨rfl, rfl⟩
  · clear h
    go_enter Try.func12, Try.ntmps12
    go_wp2
    go_end0
    exact ⟨rfl, rfl⟩
def wakesR (E A : Nat → Bool) : Bool := (List.range 14).any (fun i => E i && A i)
set_option maxHeartbeats 1000000 in
theorem wakes_any (b : Nat) (E A K : Nat → Bool) (wa : Int) (ms : Bool) (w : World) (hs : w.heap[b]? = some (rc E A K wa ms)) :
    Calls Try.prog 17 #[.pointer (some ⟨b, 0, none⟩)] w fun e w' => e = .returned (.bool (wakesR E A)) ∧ w = w' := by
  have H := Lib.hid hs
  clear hs
  go_enter Try.func17, Try.ntmps17
  go_wp2
  go_loop [3] (fun i => ∃ k : Nat, k ≤ 14 ∧ i = .int .i64 k ∧ Hid (∀ j, j < k → (E j && A j) = false)) (fun i => 14 - (intOf i).toNat)
  case atStart => exact ⟨0, by omega, rfl, Lib.hid (fun j h => absurd h (Nat.not_lt_zero _))⟩
  case round =>
    obtain ⟨k, hk, rfl, hj⟩ := hrel
    by_cases hlt : k < 14
    · have C1 : w.cell? ⟨b, k, none⟩ = some (.bool (E k)) := (cellsAt H.out _).trans (atE E A K wa ms hlt)
      have C2 : w.cell? ⟨b, 14 + k, none⟩ = some (.bool (A k)) := (cellsAt H.out _).trans (atA E A K wa ms hlt)
      have Y : E k = true → A k = true → wakesR E A = true := fun h1 h2 => List.any_eq_true.2 ⟨k, List.mem_range.2 hlt, by rw [h1, h2]; rfl⟩
      have YH := Lib.hid Y
      clear Y
      cases hE : E k
      · have N : ∀ j, j < k + 1 → (E j && A j) = false := fun j h => by
          by_cases e : j = k
          · subst e; rw [hE]; rfl
          · exact hj.out j (by omega)
        have NH := Lib.hid N
        rw [hE] at C1
        clear N hE
        go_wp2
        go_round
        case rel => exact ⟨k + 1, by omega, by go_num, NH⟩
        case measure => simp [intOf]; omega
      · cases hA : A k
        · have N : ∀ j, j < k + 1 → (E j && A j) = false := fun j h => by
            by_cases e : j = k
            · subst e; rw [hA]; simp
            · exact hj.out j (by omega)
          have NH := Lib.hid N
          rw [hE] at C1
          rw [hA] at C2
          clear N hE hA
          go_wp2
          go_round
          case rel => exact ⟨k + 1, by omega, by go_num, NH⟩
          case measure => simp [intOf]; omega
        · have T := Lib.hid (YH.out hE hA)
          rw [hE] at C1
          rw [hA] at C2
          clear hE hA
          go_wp2
          go_ret
          exact ⟨ret_b T.out.symm, rfl⟩
    · obtain rfl : k = 14 := by omega
      have T : wakesR E A = false := by
        unfold wakesR
        rw [List.any_eq_false]
        intro j h
        have := hj.out j (List.mem_range.1 h)
        simp [this]
      have TH := Lib.hid T
      clear T
      go_wp2
      go_ret
      exact ⟨ret_b TH.out.symm, rfl⟩
set_option maxHeartbeats 1000000 in
theorem fires_any (b : Nat) (E A K : Nat → Bool) (wa : Int) (ms : Bool) (w : World) (hs : w.heap[b]? = some (rc E A K wa ms)) :
    Calls Try.prog 19 #[.pointer (some ⟨b, 0, none⟩)] w fun e w' => e = .returned (.bool (ms && wakesR E A)) ∧ ∃ n, w' = w.drewN n := by
  have C : w.cell? ⟨b, 39, none⟩ = some (.bool ms) := (cellsAt hs _).trans (atM E A K wa ms)
  have R := Lib.hid (wakes_any b E A K wa ms w hs)
  clear hs
  cases ms
  all_goals
    go_enter Try.func19, Try.ntmps19
    go_wp2_with (go_at_call 17; refine R.out.mono ?_; rintro e w' ⟨rfl, rfl⟩)
    go_ret
    exact ⟨rfl, 0, rfl⟩
def someK (wa : Int) (K : Nat → Bool) (n : Nat) : Bool := (List.range n).any (fun i => tb wa i && K i)
def allK (wa : Int) (K : Nat → Bool) (n : Nat) : Bool := (List.range n).all (fun i => !tb wa i || K i)
theorem someK_succ (wa : Int) (K : Nat → Bool) (n : Nat) : someK wa K (n + 1) = (someK wa K n || (tb wa n && K n)) := by
  unfold someK; rw [List.range_succ, List.any_append]; simp
theorem allK_succ (wa : Int) (K : Nat → Bool) (n : Nat) : allK wa K (n + 1) = (allK wa K n && (!tb wa n || K n)) := by
  unfold allK; rw [List.range_succ, List.all_append]; simp
/-- What is asked for behind a look at the keypad. -/
def padA (A : Nat → Bool) (asks : Bool) : Nat → Bool := if asks then upd A 12 true else A
/-- Does the keypad ask? -/
def asksR (wa : Int) (K : Nat → Bool) : Bool := tb wa 14 && (tb wa 15 && allK wa K 10 || !tb wa 15 && someK wa K 10)
set_option maxHeartbeats 1000000 in
theorem keypad_any (b : Nat) (E A K : Nat → Bool) (wa : Int) (ms : Bool) (w : World) (h0 : 0 ≤ wa) (h1 : wa < 65536) (hs : w.heap[b]? = some (rc E A K wa ms)) :
    Calls Try.prog 22 #[.pointer (some ⟨b, 0, none⟩)] w fun e w' => e = .returned (.tuple #[]) ∧ Only b (rc E (padA A (asksR wa K)) K wa ms) w w' := by
  have C1 : w.cell? ⟨b, 38, none⟩ = some (.int .u16 wa) := (cellsAt hs _).trans (atW E A K wa ms)
  have B := Lib.hid (fun i (hi : i < 16) w => bit_any wa i h0 h1 hi w)
  have H := Lib.hid hs
  have F := freeAt hs
  clear hs
  go_enter Try.func22, Try.ntmps22
  go_wp2
  go_loop [2, 3, 4] (fun s a i => ∃ k : Nat, k ≤ 10 ∧ i = .int .i64 k ∧ s = .bool (someK wa K k) ∧ a = .bool (allK wa K k)) (fun _ _ i => 10 - (intOf i).toNat)
  case atStart => exact ⟨0, by omega, rfl, rfl, rfl⟩
  case round =>
    obtain ⟨k, hk, rfl, rfl, rfl⟩ := hrel
    by_cases hlt : k < 10
    · have C2 : w.cell? ⟨b, 28 + k, none⟩ = some (.bool (K k)) := (cellsAt H.out _).trans (atK E A K wa ms hlt)
      have Bk := Lib.hid (fun w => B.out k (by omega) w)
      have S := Lib.hid (someK_succ wa K k)
      have L := Lib.hid (allK_succ wa K k)
      generalize someK wa K k = s at *
      generalize allK wa K k = a at *
      generalize tb wa k = t at *
      generalize K k = y at *
      cases t
      · go_wp2_with (go_at_call 23; refine (Bk.out _).mono ?_; rintro e w' ⟨rfl, rfl⟩)
        go_round
        case rel => exact ⟨k + 1, by omega, by go_num, by rw [S.out]; simp, by rw [L.out]; simp⟩
        case measure => simp [intOf]; omega
      · cases s <;> cases a
        all_goals
          go_wp2_with (go_at_call 23; refine (Bk.out _).mono ?_; rintro e w' ⟨rfl, rfl⟩)
          go_round
          case rel => exact ⟨k + 1, by omega, by go_num, by rw [S.out]; simp, by rw [L.out]; simp⟩
          case measure => simp [intOf]; omega
    · obtain rfl : k = 10 := by omega
      have b14 : ∀ w, Calls Try.prog 23 #[.int .u16 wa, .int .i64 14] w fun e w' => e = .returned (.bool (tb wa 14)) ∧ w = w' := fun w => B.out 14 (by decide) w
      have B14 := Lib.hid b14
      clear b14
      have b15 : ∀ w, Calls Try.prog 23 #[.int .u16 wa, .int .i64 15] w fun e w' => e = .returned (.bool (tb wa 15)) ∧ w = w' := fun w => B.out 15 (by decide) w
      have B15 := Lib.hid b15
      clear b15
      clear B
      have O : asksR wa K = false → Only b (rc E (padA A (asksR wa K)) K wa ms) w w := fun h => by rw [h]; exact Only.refl H.out
      have P : asksR wa K = true → Only b (rc E (padA A (asksR wa K)) K wa ms) w (w.setCell ⟨b, 26, none⟩ (.bool true)) := fun h => by
        rw [h]
        exact ((Only.refl H.out).set (j := 14 + 12) _).to (by rw [setA _ _ _ _ _ (by decide)]; rfl)
      have C3 : w.cell? ⟨b, 26, none⟩ = some (.bool (A 12)) := (cellsAt H.out (14 + 12)).trans (atA E A K wa ms (by decide))
      have OH := Lib.hid O
      have PH := Lib.hid P
      clear O P
      have AS : ∀ t u s a, tb wa 14 = t → tb wa 15 = u → someK wa K 10 = s → allK wa K 10 = a → asksR wa K = (t && (u && a || !u && s)) := fun t u s a h1 h2 h3 h4 => by subst h1 h2 h3 h4; rfl
      obtain ⟨s, hs⟩ : ∃ s, someK wa K 10 = s := ⟨_, rfl⟩
      obtain ⟨a, ha⟩ : ∃ s, allK wa K 10 = s := ⟨_, rfl⟩
      obtain ⟨t, ht⟩ : ∃ s, tb wa 14 = s := ⟨_, rfl⟩
      obtain ⟨u, hu⟩ : ∃ s, tb wa 15 = s := ⟨_, rfl⟩
      have AH := Lib.hid (AS t u s a ht hu hs ha)
      clear AS
      rw [hs, ha]
      rw [ht] at B14
      rw [hu] at B15
      clear hs ha ht hu
      cases t <;> cases u <;> cases s <;> cases a
      all_goals
        go_wp2_with (first | (go_at_call 23; (with_reducible refine (B14.out _).mono ?_); rintro e w' ⟨rfl, rfl⟩) | (go_at_call 23; (with_reducible refine (B15.out _).mono ?_); rintro e w' ⟨rfl, rfl⟩))
        go_end0
        first | exact ⟨rfl, OH.out (AH.out.trans rfl)⟩ | exact ⟨rfl, PH.out (AH.out.trans rfl)⟩
end Go.Proofs.Ytmpphmlibcdnhaa.Ir
