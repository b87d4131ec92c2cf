/- The document's controller, walked on: Press, Write, Read. -/
import Derived.Test.YtmpphmlibcdnhaaIr
namespace Go.Proofs.Ytmpphmlibcdnhaa.Is
set_option linter.unusedVariables false
set_option linter.unusedSimpArgs false
open Go.RowKit Go.Proofs.Ytmpphmlibcdnhaa.Bt Go.Proofs.Ytmpphmlibcdnhaa.Wk Go.Proofs.Ytmpphmlibcdnhaa.Sg Go.Proofs.Ytmpphmlibcdnhaa.Ir

/-- The first k out of g, the others out of f. -/
def mix (f g : Nat → Bool) (k : Nat) : Nat → Bool := fun j => if j < k then g j else f j
theorem mix_zero (f g : Nat → Bool) : mix f g 0 = f := by funext j; simp [mix]
theorem mix_succ (f g : Nat → Bool) (k : Nat) : upd (mix f g k) k (g k) = mix f g (k + 1) := by
  funext j
  unfold upd mix
  by_cases e : j = k
  · subst e; rw [if_pos rfl, if_pos (by omega)]
  · rw [if_neg e]
    by_cases l : j < k
    · rw [if_pos l, if_pos (by omega)]
    · rw [if_neg l, if_neg (by omega)]
theorem mix_at (f g : Nat → Bool) {k j : Nat} (h : j < k) : mix f g k j = g j := if_pos h
set_option maxHeartbeats 1000000 in
theorem press_any (b : Nat) (E A K : Nat → Bool) (wa x : Int) (ms : Bool) (w : World) (h0 : 0 ≤ wa) (h1 : wa < 65536) (x0 : 0 ≤ x) (x1 : x < 65536) (hs : w.heap[b]? = some (rc E A K wa ms)) :
    Calls Try.prog 15 #[.pointer (some ⟨b, 0, none⟩), .int .u16 x] w fun e w' => e = .returned (.tuple #[]) ∧ Only b (rc E (padA A (asksR wa (tb x))) (tb x) wa ms) w w' := by
  have B := Lib.hid (fun i (hi : i < 16) w => bit_any x i x0 x1 hi w)
  have H := Lib.hid hs
  clear hs
  go_enter Try.func15, Try.ntmps15
  go_wp2
  go_loopw [4] (fun i wr => ∃ k : Nat, k ≤ 10 ∧ i = .int .i64 k ∧ Only b (rc E A (mix K (tb x) k) wa ms) w wr) (fun i _ => 10 - (intOf i).toNat)
  case atStart => exact ⟨0, by omega, rfl, by rw [mix_zero]; exact Only.refl H.out⟩
  case round =>
    obtain ⟨k, hk, rfl, ho⟩ := hrel
    by_cases hlt : k < 10
    · have C2 : wr.cell? ⟨b, 28 + k, none⟩ = some (.bool (mix K (tb x) k k)) := (cellsAt ho.at_ _).trans (atK E A (mix K (tb x) k) wa ms hlt)
      have F := freeAt ho.at_
      have Bk := Lib.hid (fun w => B.out k (by omega) w)
      go_wp2_with fail
      go_still_tail 8, (by kernel_rfl)
      still_call (flip (Bk.out _))
      repeat still_step
      refine wpStill_nil ?_
      change wpList _ _ _ _ _ (World.drew _)
      go_wp2
      go_roundw
      case rel => exact ⟨k + 1, by omega, by go_num, (ho.set _).drew.to (by rw [setK _ _ _ _ _ hlt, mix_succ]; rfl)⟩
      case measure => simp [intOf]; omega
    · obtain rfl : k = 10 := by omega
      have e : rc E A (mix K (tb x) 10) wa ms = rc E A (tb x) wa ms := rc_congr (fun _ _ => rfl) (fun _ _ => rfl) (fun i h => mix_at _ _ h) rfl rfl
      have O := ho.to e
      have KP := Lib.hid (keypad_any b E A (tb x) wa ms wr h0 h1 O.at_)
      have OH := Lib.hid O
      clear ho e O
      go_wp2_with (go_at_call 22; refine KP.out.mono ?_; rintro e w' ⟨rfl, h⟩)
      go_end0
      exact ⟨rfl, OH.out.trans h⟩
set_option maxHeartbeats 1000000 in
theorem write_306 (b : Nat) (E A K : Nat → Bool) (wa x : Int) (ms : Bool) (w : World) (x0 : 0 ≤ x) (x1 : x < 65536) (hs : w.heap[b]? = some (rc E A K wa ms)) :
    Calls Try.prog 13 #[.pointer (some ⟨b, 0, none⟩), .int .i64 306, .int .u16 x] w fun e w' => e = .returned (.tuple #[]) ∧ Only b (rc E (padA A (asksR (Go.bits .and .u16 x 50175) K)) K (Go.bits .and .u16 x 50175) ms) w w' := by
  have C1 : w.cell? ⟨b, 38, none⟩ = some (.int .u16 wa) := (cellsAt hs _).trans (atW E A K wa ms)
  have F := freeAt hs
  obtain ⟨y0, y1⟩ : 0 ≤ Go.bits .and .u16 x 50175 ∧ Go.bits .and .u16 x 50175 < 65536 := by
    obtain ⟨n, rfl⟩ := Int.eq_ofNat_of_zero_le x0
    have e : Go.bits .and .u16 (n : Int) 50175 = ((n &&& 50175 : Nat) : Int) := and_nat .u16 ws_u16 n 50175 (by simp [IntKind.bits]; omega) (by decide)
    have l : n &&& 50175 < 65536 := Nat.and_lt_two_pow (n := 16) _ (by decide)
    rw [e]; omega
  have O : Only b (rc E A K (Go.bits .and .u16 x 50175) ms) w (w.setCell ⟨b, 38, none⟩ (.int .u16 (Go.bits .and .u16 x 50175))) := ((Only.refl hs).set _).to (by rw [setW]; rfl)
  have KP := Lib.hid (keypad_any b E A K (Go.bits .and .u16 x 50175) ms _ y0 y1 O.at_)
  have OH := Lib.hid O
  clear hs O
  go_enter Try.func13, Try.ntmps13
  go_wp2_with (go_at_call 22; refine KP.out.mono ?_; rintro e w' ⟨rfl, h⟩)
  go_end0
  exact ⟨rfl, OH.out.trans h⟩
set_option maxHeartbeats 1000000 in
theorem write_512 (b : Nat) (E A K : Nat → Bool) (wa x : Int) (ms : Bool) (w : World) (x0 : 0 ≤ x) (x1 : x < 65536) (hs : w.heap[b]? = some (rc E A K wa ms)) :
    Calls Try.prog 13 #[.pointer (some ⟨b, 0, none⟩), .int .i64 512, .int .u16 x] w fun e w' => e = .returned (.tuple #[]) ∧ Only b (rc (tb x) A K wa ms) w w' := by
  have B := Lib.hid (fun i (hi : i < 16) w => bit_any x i x0 x1 hi w)
  have H := Lib.hid hs
  clear hs
  go_enter Try.func13, Try.ntmps13
  go_wp2
  go_loopw [6] (fun i wr => ∃ k : Nat, k ≤ 14 ∧ i = .int .i64 k ∧ Only b (rc (mix E (tb x) k) A K wa ms) w wr) (fun i _ => 14 - (intOf i).toNat)
  case atStart => exact ⟨0, by omega, rfl, by rw [mix_zero]; exact Only.refl H.out⟩
  case round =>
    obtain ⟨k, hk, rfl, ho⟩ := hrel
    by_cases hlt : k < 14
    · have C2 : wr.cell? ⟨b, k, none⟩ = some (.bool (mix E (tb x) k k)) := (cellsAt ho.at_ _).trans (atE (mix E (tb x) k) A K wa ms hlt)
      have F := freeAt ho.at_
      have Bk := Lib.hid (fun w => B.out k (by omega) w)
      go_wp2_with fail
      go_still_tail 8, (by kernel_rfl)
      still_call (flip (Bk.out _))
      repeat still_step
      refine wpStill_nil ?_
      change wpList _ _ _ _ _ (World.drew _)
      go_wp2
      go_roundw
      case rel => exact ⟨k + 1, by omega, by go_num, (ho.set _).drew.to (by rw [setE _ _ _ _ _ hlt, mix_succ]; rfl)⟩
      case measure => simp [intOf]; omega
    · obtain rfl : k = 14 := by omega
      have e : rc (mix E (tb x) 14) A K wa ms = rc (tb x) A K wa ms := rc_congr (fun i h => mix_at _ _ h) (fun _ _ => rfl) (fun _ _ => rfl) rfl rfl
      go_wp2
      go_end0
      exact ⟨rfl, ho.to e⟩
/-- What is left of f behind the bits of x. -/
def strike (f : Nat → Bool) (x : Int) : Nat → Bool := fun j => f j && !tb x j
set_option maxHeartbeats 1000000 in
theorem write_514 (b : Nat) (E A K : Nat → Bool) (wa x : Int) (ms : Bool) (w : World) (x0 : 0 ≤ x) (x1 : x < 65536) (hs : w.heap[b]? = some (rc E A K wa ms)) :
    Calls Try.prog 13 #[.pointer (some ⟨b, 0, none⟩), .int .i64 514, .int .u16 x] w fun e w' => e = .returned (.tuple #[]) ∧ Only b (rc E (strike A x) K wa ms) w w' := by
  have B := Lib.hid (fun i (hi : i < 16) w => bit_any x i x0 x1 hi w)
  have H := Lib.hid hs
  clear hs
  go_enter Try.func13, Try.ntmps13
  go_wp2
  go_loopw [7] (fun i wr => ∃ k : Nat, k ≤ 14 ∧ i = .int .i64 k ∧ Only b (rc E (mix A (strike A x) k) K wa ms) w wr) (fun i _ => 14 - (intOf i).toNat)
  case atStart => exact ⟨0, by omega, rfl, by rw [mix_zero]; exact Only.refl H.out⟩
  case round =>
    obtain ⟨k, hk, rfl, ho⟩ := hrel
    by_cases hlt : k < 14
    · have C2 : wr.cell? ⟨b, 14 + k, none⟩ = some (.bool (mix A (strike A x) k k)) := (cellsAt ho.at_ _).trans (atA E (mix A (strike A x) k) K wa ms hlt)
      have F := freeAt ho.at_
      have Bk := Lib.hid (fun w => B.out k (by omega) w)
      have y : mix A (strike A x) k k = A k := if_neg (Nat.lt_irrefl k)
      have s : strike A x k = (A k && !tb x k) := rfl
      cases ht : tb x k
      · rw [ht] at Bk s
        have e : rc E (mix A (strike A x) k) K wa ms = rc E (mix A (strike A x) (k + 1)) K wa ms := by
          rw [← mix_succ, s]
          congr 1
          funext j
          unfold upd
          by_cases c : j = k
          · rw [if_pos c, c, y]; simp
          · rw [if_neg c]
        have O := Lib.hid (ho.to e)
        clear ht y s e ho
        go_wp2_with (go_at_call 23; refine (Bk.out _).mono ?_; rintro e w' ⟨rfl, rfl⟩)
        go_roundw
        case rel => exact ⟨k + 1, by omega, by go_num, O.out⟩
        case measure => simp [intOf]; omega
      · rw [ht] at Bk s
        have O : Only b (rc E (mix A (strike A x) (k + 1)) K wa ms) w (wr.setCell ⟨b, 14 + k, none⟩ (.bool false)) := (ho.set _).to (by rw [setA _ _ _ _ _ hlt, ← mix_succ, s]; simp; rfl)
        have OH := Lib.hid O
        clear ht y s ho O
        go_wp2_with (go_at_call 23; refine (Bk.out _).mono ?_; rintro e w' ⟨rfl, rfl⟩)
        go_roundw
        case rel => exact ⟨k + 1, by omega, by go_num, OH.out⟩
        case measure => simp [intOf]; omega
    · obtain rfl : k = 14 := by omega
      have e : rc E (mix A (strike A x) 14) K wa ms = rc E (strike A x) K wa ms := rc_congr (fun _ _ => rfl) (fun i h => mix_at _ _ h) (fun _ _ => rfl) rfl rfl
      go_wp2
      go_end0
      exact ⟨rfl, ho.to e⟩
set_option maxHeartbeats 1000000 in
theorem write_520 (b : Nat) (E A K : Nat → Bool) (wa x : Int) (ms : Bool) (w : World) (x0 : 0 ≤ x) (x1 : x < 65536) (hs : w.heap[b]? = some (rc E A K wa ms)) :
    Calls Try.prog 13 #[.pointer (some ⟨b, 0, none⟩), .int .i64 520, .int .u16 x] w fun e w' => e = .returned (.tuple #[]) ∧ Only b (rc E A K wa (tb x 0)) w w' := by
  have B : ∀ w, Calls Try.prog 23 #[.int .u16 x, .int .i64 0] w fun e w' => e = .returned (.bool (tb x 0)) ∧ w = w' := fun w => bit_any x 0 x0 x1 (by decide) w
  have BH := Lib.hid B
  clear B
  have C : w.cell? ⟨b, 39, none⟩ = some (.bool ms) := (cellsAt hs _).trans (atM E A K wa ms)
  have F := freeAt hs
  have O : Only b (rc E A K wa (tb x 0)) w (w.setCell ⟨b, 39, none⟩ (.bool (tb x 0))) := ((Only.refl hs).set _).to (by rw [setM]; rfl)
  have OH := Lib.hid O
  clear hs O
  go_enter Try.func13, Try.ntmps13
  go_wp2_with (go_at_call 23; refine (BH.out _).mono ?_; rintro e w' ⟨rfl, rfl⟩)
  go_end0
  exact ⟨rfl, OH.out⟩
set_option maxHeartbeats 1000000 in
theorem write_else (b : Nat) (at_ x : Int) (w : World) (h1 : at_ ≠ 306) (h2 : at_ ≠ 512) (h3 : at_ ≠ 514) (h4 : at_ ≠ 520) :
    Calls Try.prog 13 #[.pointer (some ⟨b, 0, none⟩), .int .i64 at_, .int .u16 x] w fun e w' => e = .returned (.tuple #[]) ∧ w = w' := by
  have d1 : (at_ == 306) = false := by simpa using h1
  have d2 : (at_ == 512) = false := by simpa using h2
  have d3 : (at_ == 514) = false := by simpa using h3
  have d4 : (at_ == 520) = false := by simpa using h4
  clear h1 h2 h3 h4
  go_enter Try.func13, Try.ntmps13
  go_wp2
  go_end0
  exact ⟨rfl, rfl⟩
/-- The number of n bits. -/
def num (f : Nat → Bool) : Nat → Nat
  | 0 => 0
  | k + 1 => num f k + (if f k then 2 ^ k else 0)
theorem num_lt (f : Nat → Bool) (k : Nat) : num f k < 2 ^ k := by
  induction k with
  | zero => simp [num]
  | succ k ih => unfold num; rw [Nat.pow_succ]; split <;> omega
theorem wr16 (n k : Nat) (h : n < 2 ^ k) (hk : k < 14) : IntKind.u16.wrap ((n : Int) + IntKind.u16.wrap (2 ^ k)) = ((n + (if true = true then 2 ^ k else 0) : Nat) : Int) := by
  have l2 : 2 ^ k ≤ 2 ^ 13 := Nat.pow_le_pow_right (by decide) (by omega)
  have e : ((2 : Int) ^ k) = ((2 ^ k : Nat) : Int) := (Int.natCast_pow 2 k).symm
  rw [e, wrap_u16, wrap_u16, if_pos rfl]
  generalize 2 ^ k = p at *
  omega
set_option maxHeartbeats 1000000 in
theorem read_512 (b : Nat) (E A K : Nat → Bool) (wa : Int) (ms : Bool) (w : World) (hs : w.heap[b]? = some (rc E A K wa ms)) :
    Calls Try.prog 20 #[.pointer (some ⟨b, 0, none⟩), .int .i64 512] w fun e w' => e = .returned (.int .u16 (num E 14)) ∧ w = w' := by
  have H := Lib.hid hs
  clear hs
  go_enter Try.func20, Try.ntmps20
  go_wp2
  go_loop [5, 7] (fun x i => ∃ k : Nat, k ≤ 14 ∧ i = .int .i64 k ∧ x = .int .u16 (num E k)) (fun _ i => 14 - (intOf i).toNat)
  case atStart => exact ⟨0, by omega, rfl, rfl⟩
  case round =>
    obtain ⟨k, hk, rfl, rfl⟩ := hrel
    by_cases hlt : k < 14
    · have C : w.cell? ⟨b, k, none⟩ = some (.bool (E k)) := (cellsAt H.out _).trans (atE E A K wa ms hlt)
      have S : num E (k + 1) = num E k + (if E k then 2 ^ k else 0) := rfl
      have SH := Lib.hid S
      have l := num_lt E k
      have l2 : 2 ^ k ≤ 2 ^ 13 := Nat.pow_le_pow_right (by decide) (by omega)
      clear S
      cases hE : E k
      · rw [hE] at C SH
        clear hE
        go_wp2
        go_round
        case rel => exact ⟨k + 1, by omega, by go_num, by rw [SH.out]; rfl⟩
        case measure => simp [intOf]; omega
      · rw [hE] at C SH
        clear hE
        go_wp2
        go_round
        case rel => exact ⟨k + 1, by omega, by go_num, by rw [SH.out]; exact congrArg (Value.int .u16) (wr16 _ k l (by omega))⟩
        case measure => simp [intOf]; omega
    · obtain rfl : k = 14 := by omega
      go_wp2
      go_ret
      exact ⟨rfl, rfl⟩
set_option maxHeartbeats 1000000 in
theorem read_514 (b : Nat) (E A K : Nat → Bool) (wa : Int) (ms : Bool) (w : World) (hs : w.heap[b]? = some (rc E A K wa ms)) :
    Calls Try.prog 20 #[.pointer (some ⟨b, 0, none⟩), .int .i64 514] w fun e w' => e = .returned (.int .u16 (num A 14)) ∧ w = w' := by
  have H := Lib.hid hs
  clear hs
  go_enter Try.func20, Try.ntmps20
  go_wp2
  go_loop [5, 8] (fun x i => ∃ k : Nat, k ≤ 14 ∧ i = .int .i64 k ∧ x = .int .u16 (num A k)) (fun _ i => 14 - (intOf i).toNat)
  case atStart => exact ⟨0, by omega, rfl, rfl⟩
  case round =>
    obtain ⟨k, hk, rfl, rfl⟩ := hrel
    by_cases hlt : k < 14
    · have C : w.cell? ⟨b, 14 + k, none⟩ = some (.bool (A k)) := (cellsAt H.out _).trans (atA E A K wa ms hlt)
      have S : num A (k + 1) = num A k + (if A k then 2 ^ k else 0) := rfl
      have SH := Lib.hid S
      have l := num_lt A k
      have l2 : 2 ^ k ≤ 2 ^ 13 := Nat.pow_le_pow_right (by decide) (by omega)
      clear S
      cases hE : A k
      · rw [hE] at C SH
        clear hE
        go_wp2
        go_round
        case rel => exact ⟨k + 1, by omega, by go_num, by rw [SH.out]; rfl⟩
        case measure => simp [intOf]; omega
      · rw [hE] at C SH
        clear hE
        go_wp2
        go_round
        case rel => exact ⟨k + 1, by omega, by go_num, by rw [SH.out]; exact congrArg (Value.int .u16) (wr16 _ k l (by omega))⟩
        case measure => simp [intOf]; omega
    · obtain rfl : k = 14 := by omega
      go_wp2
      go_ret
      exact ⟨rfl, rfl⟩
set_option maxHeartbeats 1000000 in
theorem read_304 (b : Nat) (E A K : Nat → Bool) (wa : Int) (ms : Bool) (w : World) (hs : w.heap[b]? = some (rc E A K wa ms)) :
    Calls Try.prog 20 #[.pointer (some ⟨b, 0, none⟩), .int .i64 304] w fun e w' => e = .returned (.int .u16 (num (fun j => !K j) 10)) ∧ w = w' := by
  have H := Lib.hid hs
  clear hs
  go_enter Try.func20, Try.ntmps20
  go_wp2
  go_loop [5, 6] (fun x i => ∃ k : Nat, k ≤ 10 ∧ i = .int .i64 k ∧ x = .int .u16 (num (fun j => !K j) k)) (fun _ i => 10 - (intOf i).toNat)
  case atStart => exact ⟨0, by omega, rfl, rfl⟩
  case round =>
    obtain ⟨k, hk, rfl, rfl⟩ := hrel
    by_cases hlt : k < 10
    · have C : w.cell? ⟨b, 28 + k, none⟩ = some (.bool (K k)) := (cellsAt H.out _).trans (atK E A K wa ms hlt)
      have S : num (fun j => !K j) (k + 1) = num (fun j => !K j) k + (if !K k then 2 ^ k else 0) := rfl
      have SH := Lib.hid S
      have l := num_lt (fun j => !K j) k
      have l2 : 2 ^ k ≤ 2 ^ 13 := Nat.pow_le_pow_right (by decide) (by omega)
      clear S
      cases hE : K k
      · rw [hE] at C SH
        clear hE
        go_wp2
        go_round
        case rel => exact ⟨k + 1, by omega, by go_num, by rw [SH.out]; exact congrArg (Value.int .u16) (wr16 _ k l (by omega))⟩
        case measure => simp [intOf]; omega
      · rw [hE] at C SH
        clear hE
        go_wp2
        go_round
        case rel => exact ⟨k + 1, by omega, by go_num, by rw [SH.out]; rfl⟩
        case measure => simp [intOf]; omega
    · obtain rfl : k = 10 := by omega
      go_wp2
      go_ret
      exact ⟨rfl, rfl⟩
set_option maxHeartbeats 1000000 in
theorem read_306 (b : Nat) (E A K : Nat → Bool) (wa : Int) (ms : Bool) (w : World) (hs : w.heap[b]? = some (rc E A K wa ms)) :
    Calls Try.prog 20 #[.pointer (some ⟨b, 0, none⟩), .int .i64 306] w fun e w' => e = .returned (.int .u16 wa) ∧ w = w' := by
  have C : w.cell? ⟨b, 38, none⟩ = some (.int .u16 wa) := (cellsAt hs _).trans (atW E A K wa ms)
  clear hs
  go_enter Try.func20, Try.ntmps20
  go_wp2
  go_ret
  exact ⟨rfl, rfl⟩
def b2i (b : Bool) : Int := if b then 1 else 0
set_option maxHeartbeats 1000000 in
theorem read_520 (b : Nat) (E A K : Nat → Bool) (wa : Int) (ms : Bool) (w : World) (hs : w.heap[b]? = some (rc E A K wa ms)) :
    Calls Try.prog 20 #[.pointer (some ⟨b, 0, none⟩), .int .i64 520] w fun e w' => e = .returned (.int .u16 (b2i ms)) ∧ w = w' := by
  have C : w.cell? ⟨b, 39, none⟩ = some (.bool ms) := (cellsAt hs _).trans (atM E A K wa ms)
  clear hs
  cases ms
  all_goals
    go_enter Try.func20, Try.ntmps20
    go_wp2
    go_ret
    exact ⟨rfl, rfl⟩
set_option maxHeartbeats 1000000 in
theorem read_else (b : Nat) (at_ : Int) (w : World) (h0 : at_ ≠ 304) (h1 : at_ ≠ 306) (h2 : at_ ≠ 512) (h3 : at_ ≠ 514) (h4 : at_ ≠ 520) :
    Calls Try.prog 20 #[.pointer (some ⟨b, 0, none⟩), .int .i64 at_] w fun e w' => e = .returned (.int .u16 0) ∧ w = w' := by
  have d0 : (at_ == 304) = false := by simpa using h0
  have d1 : (at_ == 306) = false := by simpa using h1
  have d2 : (at_ == 512) = false := by simpa using h2
  have d3 : (at_ == 514) = false := by simpa using h3
  have d4 : (at_ == 520) = false := by simpa using h4
  clear h0 h1 h2 h3 h4
  go_enter Try.func20, Try.ntmps20
  go_wp2
  go_ret
  exact ⟨rfl, rfl⟩
end Go.Proofs.Ytmpphmlibcdnhaa.Is
