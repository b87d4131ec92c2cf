/- The conditions, walked. -/
import Derived.Test.YtgpcgamhlcihkaaAl
import Derived.Deep.RegionHeld3
namespace Go.Proofs.Ytgpcgamhlcihkaa.Aw
set_option linter.unusedVariables false
set_option linter.unusedSimpArgs false
open Go.RowKit Go.Proofs.Ytgpcgamhlcihkaa.Bt Go.Proofs.Ytgpcgamhlcihkaa.Am
open Go.Proofs.Ytgpcgamhlcihkaa.Wk (alloc_new alloc_old keep sizeAt cellsAt freeAt below_then)

theorem nat_of_i64 (a : Int) : (((BitVec.ofInt IntKind.i64.bits a).toNat : Nat) : Int) = a % 18446744073709551616 := by
  rw [BitVec.toNat_ofInt]
  have : (0 : Int) ≤ a % ((2 ^ IntKind.i64.bits : Nat) : Int) := Int.emod_nonneg _ (by simp [IntKind.bits])
  rw [Int.toNat_of_nonneg this]
  rfl
theorem and14 (a : Int) : Go.bits .and .i64 a 14 = a % 16 / 2 * 2 := by
  simp only [Go.bits, BitVec.toNat_and]
  rw [show (14 : Int) = ((14 : Nat) : Int) from rfl, ofInt_toNat IntKind.i64.bits 14 (by simp only [IntKind.bits]; decide), land_split 1]
  have h1 : ((BitVec.ofInt IntKind.i64.bits a).toNat / 2 ^ 1) &&& (14 / 2 ^ 1) = (BitVec.ofInt IntKind.i64.bits a).toNat / 2 % 8 := by
    rw [show 14 / 2 ^ 1 = 2 ^ 3 - 1 from rfl, Nat.and_two_pow_sub_one_eq_mod]
  have h2 : ((BitVec.ofInt IntKind.i64.bits a).toNat % 2 ^ 1) &&& (14 % 2 ^ 1) = 0 := by simp
  rw [h1, h2]
  have h3 := nat_of_i64 a
  rw [IntKind.wrap_i64]
  omega
theorem and1 (a : Int) : Go.bits .and .i64 a 1 = a % 2 := and_mask_i64 a 1 (by decide)
theorem wrap_16 (u : Int) : IntKind.i64.wrap u % 16 = u % 16 := by rw [IntKind.wrap_i64]; omega
theorem xor1 (a : Int) : Go.bits .xor .i64 a 1 % 16 = (if a % 2 = 0 then a % 16 + 1 else a % 16 - 1) := by
  simp only [Go.bits, BitVec.toNat_xor]
  have h3 := nat_of_i64 a
  rw [show (1 : Int) = ((1 : Nat) : Int) from rfl, ofInt_toNat IntKind.i64.bits 1 (by simp only [IntKind.bits]; decide)]
  generalize (BitVec.ofInt IntKind.i64.bits a).toNat = t at *
  rw [xor_split 1]
  have h1 : (t / 2 ^ 1) ^^^ (1 / 2 ^ 1) = t / 2 := by simp
  have h2 : (t % 2 ^ 1) ^^^ (1 % 2 ^ 1) = 1 - t % 2 := by
    rcases Nat.mod_two_eq_zero_or_one t with e | e <;> simp [e]
  rw [h1, h2, wrap_16]
  have h5 : (t : Int) % 16 = a % 16 := by omega
  have h6 : (t : Int) % 2 = a % 2 := by omega
  clear h3 h1 h2
  split
  · have : ((2 ^ 1 * (t / 2) + (1 - t % 2) : Nat) : Int) = (t : Int) + 1 := by omega
    rw [this]; omega
  · have : ((2 ^ 1 * (t / 2) + (1 - t % 2) : Nat) : Int) = (t : Int) - 1 := by omega
    rw [this]; omega
/-- Does a condition hold? -/
def base (j : Int) (n z c v : Bool) : Bool :=
  if j = 0 then z else if j = 1 then c else if j = 2 then n else if j = 3 then v else if j = 4 then c && !z else if j = 5 then n == v else if j = 6 then !z && (n == v) else true
def holdsS (k : Int) (n z c v : Bool) : Bool := base (k / 2) n z c v == decide (k % 2 = 0)
set_option maxHeartbeats 1000000 in
theorem holds_0 (cond : Int) (n z c v : Bool) (w : World) (e1 : Go.bits .and .i64 cond 14 = 0) (e2 : Go.bits .and .i64 cond 1 = 0) :
    Calls Try.prog 16 #[.int .i64 cond, .agg #[.bool n, .bool z, .bool c, .bool v]] w fun e w' => e = .returned (.bool (holdsS 0 n z c v)) ∧ Below w.heap.size w w' := by
  have H := Lib.hid (show holdsS 0 n z c v = ((z) == true) by rfl)
  all_goals
    go_enter Try.func16, Try.ntmps16
    go_wp2
    go_ret
    refine ⟨ret_b ?_, (Below.refl _ _).alloc (Nat.le_refl _) _⟩
    first | (rw [H.out]; done) | (rw [H.out]; rfl) | (rw [H.out]; simp; done)
set_option maxHeartbeats 1000000 in
theorem holds_1 (cond : Int) (n z c v : Bool) (w : World) (e1 : Go.bits .and .i64 cond 14 = 0) (e2 : Go.bits .and .i64 cond 1 = 1) :
    Calls Try.prog 16 #[.int .i64 cond, .agg #[.bool n, .bool z, .bool c, .bool v]] w fun e w' => e = .returned (.bool (holdsS 1 n z c v)) ∧ Below w.heap.size w w' := by
  have H := Lib.hid (show holdsS 1 n z c v = ((z) == false) by rfl)
  all_goals
    go_enter Try.func16, Try.ntmps16
    go_wp2
    go_ret
    refine ⟨ret_b ?_, (Below.refl _ _).alloc (Nat.le_refl _) _⟩
    first | (rw [H.out]; done) | (rw [H.out]; rfl) | (rw [H.out]; simp; done)
set_option maxHeartbeats 1000000 in
theorem holds_2 (cond : Int) (n z c v : Bool) (w : World) (e1 : Go.bits .and .i64 cond 14 = 2) (e2 : Go.bits .and .i64 cond 1 = 0) :
    Calls Try.prog 16 #[.int .i64 cond, .agg #[.bool n, .bool z, .bool c, .bool v]] w fun e w' => e = .returned (.bool (holdsS 2 n z c v)) ∧ Below w.heap.size w w' := by
  have H := Lib.hid (show holdsS 2 n z c v = ((c) == true) by rfl)
  all_goals
    go_enter Try.func16, Try.ntmps16
    go_wp2
    go_ret
    refine ⟨ret_b ?_, (Below.refl _ _).alloc (Nat.le_refl _) _⟩
    first | (rw [H.out]; done) | (rw [H.out]; rfl) | (rw [H.out]; simp; done)
set_option maxHeartbeats 1000000 in
theorem holds_3 (cond : Int) (n z c v : Bool) (w : World) (e1 : Go.bits .and .i64 cond 14 = 2) (e2 : Go.bits .and .i64 cond 1 = 1) :
    Calls Try.prog 16 #[.int .i64 cond, .agg #[.bool n, .bool z, .bool c, .bool v]] w fun e w' => e = .returned (.bool (holdsS 3 n z c v)) ∧ Below w.heap.size w w' := by
  have H := Lib.hid (show holdsS 3 n z c v = ((c) == false) by rfl)
  all_goals
    go_enter Try.func16, Try.ntmps16
    go_wp2
    go_ret
    refine ⟨ret_b ?_, (Below.refl _ _).alloc (Nat.le_refl _) _⟩
    first | (rw [H.out]; done) | (rw [H.out]; rfl) | (rw [H.out]; simp; done)
set_option maxHeartbeats 1000000 in
theorem holds_4 (cond : Int) (n z c v : Bool) (w : World) (e1 : Go.bits .and .i64 cond 14 = 4) (e2 : Go.bits .and .i64 cond 1 = 0) :
    Calls Try.prog 16 #[.int .i64 cond, .agg #[.bool n, .bool z, .bool c, .bool v]] w fun e w' => e = .returned (.bool (holdsS 4 n z c v)) ∧ Below w.heap.size w w' := by
  have H := Lib.hid (show holdsS 4 n z c v = ((n) == true) by rfl)
  all_goals
    go_enter Try.func16, Try.ntmps16
    go_wp2
    go_ret
    refine ⟨ret_b ?_, (Below.refl _ _).alloc (Nat.le_refl _) _⟩
    first | (rw [H.out]; done) | (rw [H.out]; rfl) | (rw [H.out]; simp; done)
set_option maxHeartbeats 1000000 in
theorem holds_5 (cond : Int) (n z c v : Bool) (w : World) (e1 : Go.bits .and .i64 cond 14 = 4) (e2 : Go.bits .and .i64 cond 1 = 1) :
    Calls Try.prog 16 #[.int .i64 cond, .agg #[.bool n, .bool z, .bool c, .bool v]] w fun e w' => e = .returned (.bool (holdsS 5 n z c v)) ∧ Below w.heap.size w w' := by
  have H := Lib.hid (show holdsS 5 n z c v = ((n) == false) by rfl)
  all_goals
    go_enter Try.func16, Try.ntmps16
    go_wp2
    go_ret
    refine ⟨ret_b ?_, (Below.refl _ _).alloc (Nat.le_refl _) _⟩
    first | (rw [H.out]; done) | (rw [H.out]; rfl) | (rw [H.out]; simp; done)
set_option maxHeartbeats 1000000 in
theorem holds_6 (cond : Int) (n z c v : Bool) (w : World) (e1 : Go.bits .and .i64 cond 14 = 6) (e2 : Go.bits .and .i64 cond 1 = 0) :
    Calls Try.prog 16 #[.int .i64 cond, .agg #[.bool n, .bool z, .bool c, .bool v]] w fun e w' => e = .returned (.bool (holdsS 6 n z c v)) ∧ Below w.heap.size w w' := by
  have H := Lib.hid (show holdsS 6 n z c v = ((v) == true) by rfl)
  all_goals
    go_enter Try.func16, Try.ntmps16
    go_wp2
    go_ret
    refine ⟨ret_b ?_, (Below.refl _ _).alloc (Nat.le_refl _) _⟩
    first | (rw [H.out]; done) | (rw [H.out]; rfl) | (rw [H.out]; simp; done)
set_option maxHeartbeats 1000000 in
theorem holds_7 (cond : Int) (n z c v : Bool) (w : World) (e1 : Go.bits .and .i64 cond 14 = 6) (e2 : Go.bits .and .i64 cond 1 = 1) :
    Calls Try.prog 16 #[.int .i64 cond, .agg #[.bool n, .bool z, .bool c, .bool v]] w fun e w' => e = .returned (.bool (holdsS 7 n z c v)) ∧ Below w.heap.size w w' := by
  have H := Lib.hid (show holdsS 7 n z c v = ((v) == false) by rfl)
  all_goals
    go_enter Try.func16, Try.ntmps16
    go_wp2
    go_ret
    refine ⟨ret_b ?_, (Below.refl _ _).alloc (Nat.le_refl _) _⟩
    first | (rw [H.out]; done) | (rw [H.out]; rfl) | (rw [H.out]; simp; done)
set_option maxHeartbeats 1000000 in
theorem holds_8 (cond : Int) (n z c v : Bool) (w : World) (e1 : Go.bits .and .i64 cond 14 = 8) (e2 : Go.bits .and .i64 cond 1 = 0) :
    Calls Try.prog 16 #[.int .i64 cond, .agg #[.bool n, .bool z, .bool c, .bool v]] w fun e w' => e = .returned (.bool (holdsS 8 n z c v)) ∧ Below w.heap.size w w' := by
  have H := Lib.hid (show holdsS 8 n z c v = ((c && !z) == true) by rfl)
  cases z <;> cases c
  all_goals
    go_enter Try.func16, Try.ntmps16
    go_wp2
    go_ret
    refine ⟨ret_b ?_, (Below.refl _ _).alloc (Nat.le_refl _) _⟩
    first | (rw [H.out]; done) | (rw [H.out]; rfl) | (rw [H.out]; simp; done)
set_option maxHeartbeats 1000000 in
theorem holds_9 (cond : Int) (n z c v : Bool) (w : World) (e1 : Go.bits .and .i64 cond 14 = 8) (e2 : Go.bits .and .i64 cond 1 = 1) :
    Calls Try.prog 16 #[.int .i64 cond, .agg #[.bool n, .bool z, .bool c, .bool v]] w fun e w' => e = .returned (.bool (holdsS 9 n z c v)) ∧ Below w.heap.size w w' := by
  have H := Lib.hid (show holdsS 9 n z c v = ((c && !z) == false) by rfl)
  cases z <;> cases c
  all_goals
    go_enter Try.func16, Try.ntmps16
    go_wp2
    go_ret
    refine ⟨ret_b ?_, (Below.refl _ _).alloc (Nat.le_refl _) _⟩
    first | (rw [H.out]; done) | (rw [H.out]; rfl) | (rw [H.out]; simp; done)
set_option maxHeartbeats 1000000 in
theorem holds_10 (cond : Int) (n z c v : Bool) (w : World) (e1 : Go.bits .and .i64 cond 14 = 10) (e2 : Go.bits .and .i64 cond 1 = 0) :
    Calls Try.prog 16 #[.int .i64 cond, .agg #[.bool n, .bool z, .bool c, .bool v]] w fun e w' => e = .returned (.bool (holdsS 10 n z c v)) ∧ Below w.heap.size w w' := by
  have H := Lib.hid (show holdsS 10 n z c v = ((n == v) == true) by rfl)
  cases n <;> cases v
  all_goals
    go_enter Try.func16, Try.ntmps16
    go_wp2
    go_ret
    refine ⟨ret_b ?_, (Below.refl _ _).alloc (Nat.le_refl _) _⟩
    first | (rw [H.out]; done) | (rw [H.out]; rfl) | (rw [H.out]; simp; done)
set_option maxHeartbeats 1000000 in
theorem holds_11 (cond : Int) (n z c v : Bool) (w : World) (e1 : Go.bits .and .i64 cond 14 = 10) (e2 : Go.bits .and .i64 cond 1 = 1) :
    Calls Try.prog 16 #[.int .i64 cond, .agg #[.bool n, .bool z, .bool c, .bool v]] w fun e w' => e = .returned (.bool (holdsS 11 n z c v)) ∧ Below w.heap.size w w' := by
  have H := Lib.hid (show holdsS 11 n z c v = ((n == v) == false) by rfl)
  cases n <;> cases v
  all_goals
    go_enter Try.func16, Try.ntmps16
    go_wp2
    go_ret
    refine ⟨ret_b ?_, (Below.refl _ _).alloc (Nat.le_refl _) _⟩
    first | (rw [H.out]; done) | (rw [H.out]; rfl) | (rw [H.out]; simp; done)
set_option maxHeartbeats 1000000 in
theorem holds_12 (cond : Int) (n z c v : Bool) (w : World) (e1 : Go.bits .and .i64 cond 14 = 12) (e2 : Go.bits .and .i64 cond 1 = 0) :
    Calls Try.prog 16 #[.int .i64 cond, .agg #[.bool n, .bool z, .bool c, .bool v]] w fun e w' => e = .returned (.bool (holdsS 12 n z c v)) ∧ Below w.heap.size w w' := by
  have H := Lib.hid (show holdsS 12 n z c v = ((!z && (n == v)) == true) by rfl)
  cases z <;> cases n <;> cases v
  all_goals
    go_enter Try.func16, Try.ntmps16
    go_wp2
    go_ret
    refine ⟨ret_b ?_, (Below.refl _ _).alloc (Nat.le_refl _) _⟩
    first | (rw [H.out]; done) | (rw [H.out]; rfl) | (rw [H.out]; simp; done)
set_option maxHeartbeats 1000000 in
theorem holds_13 (cond : Int) (n z c v : Bool) (w : World) (e1 : Go.bits .and .i64 cond 14 = 12) (e2 : Go.bits .and .i64 cond 1 = 1) :
    Calls Try.prog 16 #[.int .i64 cond, .agg #[.bool n, .bool z, .bool c, .bool v]] w fun e w' => e = .returned (.bool (holdsS 13 n z c v)) ∧ Below w.heap.size w w' := by
  have H := Lib.hid (show holdsS 13 n z c v = ((!z && (n == v)) == false) by rfl)
  cases z <;> cases n <;> cases v
  all_goals
    go_enter Try.func16, Try.ntmps16
    go_wp2
    go_ret
    refine ⟨ret_b ?_, (Below.refl _ _).alloc (Nat.le_refl _) _⟩
    first | (rw [H.out]; done) | (rw [H.out]; rfl) | (rw [H.out]; simp; done)
set_option maxHeartbeats 1000000 in
theorem holds_14 (cond : Int) (n z c v : Bool) (w : World) (e1 : Go.bits .and .i64 cond 14 = 14) (e2 : Go.bits .and .i64 cond 1 = 0) :
    Calls Try.prog 16 #[.int .i64 cond, .agg #[.bool n, .bool z, .bool c, .bool v]] w fun e w' => e = .returned (.bool (holdsS 14 n z c v)) ∧ Below w.heap.size w w' := by
  have H := Lib.hid (show holdsS 14 n z c v = ((true) == true) by rfl)
  all_goals
    go_enter Try.func16, Try.ntmps16
    go_wp2
    go_ret
    refine ⟨ret_b ?_, (Below.refl _ _).alloc (Nat.le_refl _) _⟩
    first | (rw [H.out]; done) | (rw [H.out]; rfl) | (rw [H.out]; simp; done)
set_option maxHeartbeats 1000000 in
theorem holds_15 (cond : Int) (n z c v : Bool) (w : World) (e1 : Go.bits .and .i64 cond 14 = 14) (e2 : Go.bits .and .i64 cond 1 = 1) :
    Calls Try.prog 16 #[.int .i64 cond, .agg #[.bool n, .bool z, .bool c, .bool v]] w fun e w' => e = .returned (.bool (holdsS 15 n z c v)) ∧ Below w.heap.size w w' := by
  have H := Lib.hid (show holdsS 15 n z c v = ((true) == false) by rfl)
  all_goals
    go_enter Try.func16, Try.ntmps16
    go_wp2
    go_ret
    refine ⟨ret_b ?_, (Below.refl _ _).alloc (Nat.le_refl _) _⟩
    first | (rw [H.out]; done) | (rw [H.out]; rfl) | (rw [H.out]; simp; done)
theorem holds_any (cond : Int) (n z c v : Bool) (w : World) :
    Calls Try.prog 16 #[.int .i64 cond, .agg #[.bool n, .bool z, .bool c, .bool v]] w fun e w' => e = .returned (.bool (holdsS (cond % 16) n z c v)) ∧ Below w.heap.size w w' := by
  have e1 := and14 cond
  have e2 := and1 cond
  have cs : cond % 16 = 0 ∨ cond % 16 = 1 ∨ cond % 16 = 2 ∨ cond % 16 = 3 ∨ cond % 16 = 4 ∨ cond % 16 = 5 ∨ cond % 16 = 6 ∨ cond % 16 = 7 ∨ cond % 16 = 8 ∨ cond % 16 = 9 ∨ cond % 16 = 10 ∨ cond % 16 = 11 ∨ cond % 16 = 12 ∨ cond % 16 = 13 ∨ cond % 16 = 14 ∨ cond % 16 = 15 := by omega
  rcases cs with h | h | h | h | h | h | h | h | h | h | h | h | h | h | h | h
  · rw [h]; exact holds_0 cond n z c v w (by rw [e1, h]; rfl) (by rw [e2]; omega)
  · rw [h]; exact holds_1 cond n z c v w (by rw [e1, h]; rfl) (by rw [e2]; omega)
  · rw [h]; exact holds_2 cond n z c v w (by rw [e1, h]; rfl) (by rw [e2]; omega)
  · rw [h]; exact holds_3 cond n z c v w (by rw [e1, h]; rfl) (by rw [e2]; omega)
  · rw [h]; exact holds_4 cond n z c v w (by rw [e1, h]; rfl) (by rw [e2]; omega)
  · rw [h]; exact holds_5 cond n z c v w (by rw [e1, h]; rfl) (by rw [e2]; omega)
  · rw [h]; exact holds_6 cond n z c v w (by rw [e1, h]; rfl) (by rw [e2]; omega)
  · rw [h]; exact holds_7 cond n z c v w (by rw [e1, h]; rfl) (by rw [e2]; omega)
  · rw [h]; exact holds_8 cond n z c v w (by rw [e1, h]; rfl) (by rw [e2]; omega)
  · rw [h]; exact holds_9 cond n z c v w (by rw [e1, h]; rfl) (by rw [e2]; omega)
  · rw [h]; exact holds_10 cond n z c v w (by rw [e1, h]; rfl) (by rw [e2]; omega)
  · rw [h]; exact holds_11 cond n z c v w (by rw [e1, h]; rfl) (by rw [e2]; omega)
  · rw [h]; exact holds_12 cond n z c v w (by rw [e1, h]; rfl) (by rw [e2]; omega)
  · rw [h]; exact holds_13 cond n z c v w (by rw [e1, h]; rfl) (by rw [e2]; omega)
  · rw [h]; exact holds_14 cond n z c v w (by rw [e1, h]; rfl) (by rw [e2]; omega)
  · rw [h]; exact holds_15 cond n z c v w (by rw [e1, h]; rfl) (by rw [e2]; omega)
set_option maxHeartbeats 1000000 in
theorem rholds_0 (cond : Int) (n z c v : Bool) (w : World) (e1 : Go.bits .and .i64 cond 15 = 0) :
    Calls Try.prog 17 #[.int .i64 cond, .agg #[.bool n, .bool z, .bool c, .bool v]] w fun e w' => e = .returned (.bool (holdsS 0 n z c v)) ∧ Below w.heap.size w w' := by
  have H := Lib.hid (show holdsS 0 n z c v = (z) by simp [holdsS, base])
  all_goals
    go_enter Try.func17, Try.ntmps17
    go_wp2
    go_ret
    refine ⟨ret_b ?_, (Below.refl _ _).alloc (Nat.le_refl _) _⟩
    first | (rw [H.out]; done) | (rw [H.out]; rfl) | (rw [H.out]; simp; done)
set_option maxHeartbeats 1000000 in
theorem rholds_2 (cond : Int) (n z c v : Bool) (w : World) (e1 : Go.bits .and .i64 cond 15 = 2) :
    Calls Try.prog 17 #[.int .i64 cond, .agg #[.bool n, .bool z, .bool c, .bool v]] w fun e w' => e = .returned (.bool (holdsS 2 n z c v)) ∧ Below w.heap.size w w' := by
  have H := Lib.hid (show holdsS 2 n z c v = (c) by simp [holdsS, base])
  all_goals
    go_enter Try.func17, Try.ntmps17
    go_wp2
    go_ret
    refine ⟨ret_b ?_, (Below.refl _ _).alloc (Nat.le_refl _) _⟩
    first | (rw [H.out]; done) | (rw [H.out]; rfl) | (rw [H.out]; simp; done)
set_option maxHeartbeats 1000000 in
theorem rholds_4 (cond : Int) (n z c v : Bool) (w : World) (e1 : Go.bits .and .i64 cond 15 = 4) :
    Calls Try.prog 17 #[.int .i64 cond, .agg #[.bool n, .bool z, .bool c, .bool v]] w fun e w' => e = .returned (.bool (holdsS 4 n z c v)) ∧ Below w.heap.size w w' := by
  have H := Lib.hid (show holdsS 4 n z c v = (n) by simp [holdsS, base])
  all_goals
    go_enter Try.func17, Try.ntmps17
    go_wp2
    go_ret
    refine ⟨ret_b ?_, (Below.refl _ _).alloc (Nat.le_refl _) _⟩
    first | (rw [H.out]; done) | (rw [H.out]; rfl) | (rw [H.out]; simp; done)
set_option maxHeartbeats 1000000 in
theorem rholds_6 (cond : Int) (n z c v : Bool) (w : World) (e1 : Go.bits .and .i64 cond 15 = 6) :
    Calls Try.prog 17 #[.int .i64 cond, .agg #[.bool n, .bool z, .bool c, .bool v]] w fun e w' => e = .returned (.bool (holdsS 6 n z c v)) ∧ Below w.heap.size w w' := by
  have H := Lib.hid (show holdsS 6 n z c v = (v) by simp [holdsS, base])
  all_goals
    go_enter Try.func17, Try.ntmps17
    go_wp2
    go_ret
    refine ⟨ret_b ?_, (Below.refl _ _).alloc (Nat.le_refl _) _⟩
    first | (rw [H.out]; done) | (rw [H.out]; rfl) | (rw [H.out]; simp; done)
set_option maxHeartbeats 1000000 in
theorem rholds_8 (cond : Int) (n z c v : Bool) (w : World) (e1 : Go.bits .and .i64 cond 15 = 8) :
    Calls Try.prog 17 #[.int .i64 cond, .agg #[.bool n, .bool z, .bool c, .bool v]] w fun e w' => e = .returned (.bool (holdsS 8 n z c v)) ∧ Below w.heap.size w w' := by
  have H := Lib.hid (show holdsS 8 n z c v = (c && !z) by simp [holdsS, base])
  cases z <;> cases c
  all_goals
    go_enter Try.func17, Try.ntmps17
    go_wp2
    go_ret
    refine ⟨ret_b ?_, (Below.refl _ _).alloc (Nat.le_refl _) _⟩
    first | (rw [H.out]; done) | (rw [H.out]; rfl) | (rw [H.out]; simp; done)
set_option maxHeartbeats 1000000 in
theorem rholds_10 (cond : Int) (n z c v : Bool) (w : World) (e1 : Go.bits .and .i64 cond 15 = 10) :
    Calls Try.prog 17 #[.int .i64 cond, .agg #[.bool n, .bool z, .bool c, .bool v]] w fun e w' => e = .returned (.bool (holdsS 10 n z c v)) ∧ Below w.heap.size w w' := by
  have H := Lib.hid (show holdsS 10 n z c v = (n == v) by simp [holdsS, base])
  cases n <;> cases v
  all_goals
    go_enter Try.func17, Try.ntmps17
    go_wp2
    go_ret
    refine ⟨ret_b ?_, (Below.refl _ _).alloc (Nat.le_refl _) _⟩
    first | (rw [H.out]; done) | (rw [H.out]; rfl) | (rw [H.out]; simp; done)
set_option maxHeartbeats 1000000 in
theorem rholds_12 (cond : Int) (n z c v : Bool) (w : World) (e1 : Go.bits .and .i64 cond 15 = 12) :
    Calls Try.prog 17 #[.int .i64 cond, .agg #[.bool n, .bool z, .bool c, .bool v]] w fun e w' => e = .returned (.bool (holdsS 12 n z c v)) ∧ Below w.heap.size w w' := by
  have H := Lib.hid (show holdsS 12 n z c v = (!z && (n == v)) by simp [holdsS, base])
  cases z <;> cases n <;> cases v
  all_goals
    go_enter Try.func17, Try.ntmps17
    go_wp2
    go_ret
    refine ⟨ret_b ?_, (Below.refl _ _).alloc (Nat.le_refl _) _⟩
    first | (rw [H.out]; done) | (rw [H.out]; rfl) | (rw [H.out]; simp; done)
set_option maxHeartbeats 1000000 in
theorem rholds_14 (cond : Int) (n z c v : Bool) (w : World) (e1 : Go.bits .and .i64 cond 15 = 14) :
    Calls Try.prog 17 #[.int .i64 cond, .agg #[.bool n, .bool z, .bool c, .bool v]] w fun e w' => e = .returned (.bool (holdsS 14 n z c v)) ∧ Below w.heap.size w w' := by
  have H := Lib.hid (show holdsS 14 n z c v = (true) by simp [holdsS, base])
  all_goals
    go_enter Try.func17, Try.ntmps17
    go_wp2
    go_ret
    refine ⟨ret_b ?_, (Below.refl _ _).alloc (Nat.le_refl _) _⟩
    first | (rw [H.out]; done) | (rw [H.out]; rfl) | (rw [H.out]; simp; done)
set_option maxHeartbeats 1000000 in
theorem rholds_1 (cond : Int) (n z c v : Bool) (w : World) (e1 : Go.bits .and .i64 cond 15 = 1) :
    Calls Try.prog 17 #[.int .i64 cond, .agg #[.bool n, .bool z, .bool c, .bool v]] w fun e w' => e = .returned (.bool (holdsS 1 n z c v)) ∧ Below w.heap.size w w' := by
  have H := Lib.hid (show holdsS 1 n z c v = !(holdsS 0 n z c v) by simp [holdsS])
  have R := Lib.hid (fun w => rholds_0 0 n z c v w (by first | (rw [and15]; done) | (rw [and15]; rfl)))
  go_enter Try.func17, Try.ntmps17
  go_wp2_with fail
  refine (R.out _).mono ?_
  rintro e w1 ⟨rfl, hb⟩
  go_wp2
  go_ret
  refine ⟨ret_b ?_, below_then ((Below.refl _ _).alloc (Nat.le_refl _) _) hb (by simp)⟩
  rw [H.out]
set_option maxHeartbeats 1000000 in
theorem rholds_3 (cond : Int) (n z c v : Bool) (w : World) (e1 : Go.bits .and .i64 cond 15 = 3) :
    Calls Try.prog 17 #[.int .i64 cond, .agg #[.bool n, .bool z, .bool c, .bool v]] w fun e w' => e = .returned (.bool (holdsS 3 n z c v)) ∧ Below w.heap.size w w' := by
  have H := Lib.hid (show holdsS 3 n z c v = !(holdsS 2 n z c v) by simp [holdsS])
  have R := Lib.hid (fun w => rholds_2 2 n z c v w (by first | (rw [and15]; done) | (rw [and15]; rfl)))
  go_enter Try.func17, Try.ntmps17
  go_wp2_with fail
  refine (R.out _).mono ?_
  rintro e w1 ⟨rfl, hb⟩
  go_wp2
  go_ret
  refine ⟨ret_b ?_, below_then ((Below.refl _ _).alloc (Nat.le_refl _) _) hb (by simp)⟩
  rw [H.out]
set_option maxHeartbeats 1000000 in
theorem rholds_5 (cond : Int) (n z c v : Bool) (w : World) (e1 : Go.bits .and .i64 cond 15 = 5) :
    Calls Try.prog 17 #[.int .i64 cond, .agg #[.bool n, .bool z, .bool c, .bool v]] w fun e w' => e = .returned (.bool (holdsS 5 n z c v)) ∧ Below w.heap.size w w' := by
  have H := Lib.hid (show holdsS 5 n z c v = !(holdsS 4 n z c v) by simp [holdsS])
  have R := Lib.hid (fun w => rholds_4 4 n z c v w (by first | (rw [and15]; done) | (rw [and15]; rfl)))
  go_enter Try.func17, Try.ntmps17
  go_wp2_with fail
  refine (R.out _).mono ?_
  rintro e w1 ⟨rfl, hb⟩
  go_wp2
  go_ret
  refine ⟨ret_b ?_, below_then ((Below.refl _ _).alloc (Nat.le_refl _) _) hb (by simp)⟩
  rw [H.out]
set_option maxHeartbeats 1000000 in
theorem rholds_7 (cond : Int) (n z c v : Bool) (w : World) (e1 : Go.bits .and .i64 cond 15 = 7) :
    Calls Try.prog 17 #[.int .i64 cond, .agg #[.bool n, .bool z, .bool c, .bool v]] w fun e w' => e = .returned (.bool (holdsS 7 n z c v)) ∧ Below w.heap.size w w' := by
  have H := Lib.hid (show holdsS 7 n z c v = !(holdsS 6 n z c v) by simp [holdsS])
  have R := Lib.hid (fun w => rholds_6 6 n z c v w (by first | (rw [and15]; done) | (rw [and15]; rfl)))
  go_enter Try.func17, Try.ntmps17
  go_wp2_with fail
  refine (R.out _).mono ?_
  rintro e w1 ⟨rfl, hb⟩
  go_wp2
  go_ret
  refine ⟨ret_b ?_, below_then ((Below.refl _ _).alloc (Nat.le_refl _) _) hb (by simp)⟩
  rw [H.out]
set_option maxHeartbeats 1000000 in
theorem rholds_9 (cond : Int) (n z c v : Bool) (w : World) (e1 : Go.bits .and .i64 cond 15 = 9) :
    Calls Try.prog 17 #[.int .i64 cond, .agg #[.bool n, .bool z, .bool c, .bool v]] w fun e w' => e = .returned (.bool (holdsS 9 n z c v)) ∧ Below w.heap.size w w' := by
  have H := Lib.hid (show holdsS 9 n z c v = !(holdsS 8 n z c v) by simp [holdsS])
  have R := Lib.hid (fun w => rholds_8 8 n z c v w (by first | (rw [and15]; done) | (rw [and15]; rfl)))
  go_enter Try.func17, Try.ntmps17
  go_wp2_with fail
  refine (R.out _).mono ?_
  rintro e w1 ⟨rfl, hb⟩
  go_wp2
  go_ret
  refine ⟨ret_b ?_, below_then ((Below.refl _ _).alloc (Nat.le_refl _) _) hb (by simp)⟩
  rw [H.out]
set_option maxHeartbeats 1000000 in
theorem rholds_11 (cond : Int) (n z c v : Bool) (w : World) (e1 : Go.bits .and .i64 cond 15 = 11) :
    Calls Try.prog 17 #[.int .i64 cond, .agg #[.bool n, .bool z, .bool c, .bool v]] w fun e w' => e = .returned (.bool (holdsS 11 n z c v)) ∧ Below w.heap.size w w' := by
  have H := Lib.hid (show holdsS 11 n z c v = !(holdsS 10 n z c v) by simp [holdsS])
  have R := Lib.hid (fun w => rholds_10 10 n z c v w (by first | (rw [and15]; done) | (rw [and15]; rfl)))
  go_enter Try.func17, Try.ntmps17
  go_wp2_with fail
  refine (R.out _).mono ?_
  rintro e w1 ⟨rfl, hb⟩
  go_wp2
  go_ret
  refine ⟨ret_b ?_, below_then ((Below.refl _ _).alloc (Nat.le_refl _) _) hb (by simp)⟩
  rw [H.out]
set_option maxHeartbeats 1000000 in
theorem rholds_13 (cond : Int) (n z c v : Bool) (w : World) (e1 : Go.bits .and .i64 cond 15 = 13) :
    Calls Try.prog 17 #[.int .i64 cond, .agg #[.bool n, .bool z, .bool c, .bool v]] w fun e w' => e = .returned (.bool (holdsS 13 n z c v)) ∧ Below w.heap.size w w' := by
  have H := Lib.hid (show holdsS 13 n z c v = !(holdsS 12 n z c v) by simp [holdsS])
  have R := Lib.hid (fun w => rholds_12 12 n z c v w (by first | (rw [and15]; done) | (rw [and15]; rfl)))
  go_enter Try.func17, Try.ntmps17
  go_wp2_with fail
  refine (R.out _).mono ?_
  rintro e w1 ⟨rfl, hb⟩
  go_wp2
  go_ret
  refine ⟨ret_b ?_, below_then ((Below.refl _ _).alloc (Nat.le_refl _) _) hb (by simp)⟩
  rw [H.out]
set_option maxHeartbeats 1000000 in
theorem rholds_15 (cond : Int) (n z c v : Bool) (w : World) (e1 : Go.bits .and .i64 cond 15 = 15) :
    Calls Try.prog 17 #[.int .i64 cond, .agg #[.bool n, .bool z, .bool c, .bool v]] w fun e w' => e = .returned (.bool (holdsS 15 n z c v)) ∧ Below w.heap.size w w' := by
  have H := Lib.hid (show holdsS 15 n z c v = !(holdsS 14 n z c v) by simp [holdsS])
  have R := Lib.hid (fun w => rholds_14 14 n z c v w (by first | (rw [and15]; done) | (rw [and15]; rfl)))
  go_enter Try.func17, Try.ntmps17
  go_wp2_with fail
  refine (R.out _).mono ?_
  rintro e w1 ⟨rfl, hb⟩
  go_wp2
  go_ret
  refine ⟨ret_b ?_, below_then ((Below.refl _ _).alloc (Nat.le_refl _) _) hb (by simp)⟩
  rw [H.out]
theorem rholds_any (cond : Int) (n z c v : Bool) (w : World) :
    Calls Try.prog 17 #[.int .i64 cond, .agg #[.bool n, .bool z, .bool c, .bool v]] w fun e w' => e = .returned (.bool (holdsS (cond % 16) n z c v)) ∧ Below w.heap.size w w' := by
  have e1 := and15 cond
  have cs : cond % 16 = 0 ∨ cond % 16 = 1 ∨ cond % 16 = 2 ∨ cond % 16 = 3 ∨ cond % 16 = 4 ∨ cond % 16 = 5 ∨ cond % 16 = 6 ∨ cond % 16 = 7 ∨ cond % 16 = 8 ∨ cond % 16 = 9 ∨ cond % 16 = 10 ∨ cond % 16 = 11 ∨ cond % 16 = 12 ∨ cond % 16 = 13 ∨ cond % 16 = 14 ∨ cond % 16 = 15 := by omega
  rcases cs with h | h | h | h | h | h | h | h | h | h | h | h | h | h | h | h
  · rw [h]; exact rholds_0 cond n z c v w (by rw [e1, h])
  · rw [h]; exact rholds_1 cond n z c v w (by rw [e1, h])
  · rw [h]; exact rholds_2 cond n z c v w (by rw [e1, h])
  · rw [h]; exact rholds_3 cond n z c v w (by rw [e1, h])
  · rw [h]; exact rholds_4 cond n z c v w (by rw [e1, h])
  · rw [h]; exact rholds_5 cond n z c v w (by rw [e1, h])
  · rw [h]; exact rholds_6 cond n z c v w (by rw [e1, h])
  · rw [h]; exact rholds_7 cond n z c v w (by rw [e1, h])
  · rw [h]; exact rholds_8 cond n z c v w (by rw [e1, h])
  · rw [h]; exact rholds_9 cond n z c v w (by rw [e1, h])
  · rw [h]; exact rholds_10 cond n z c v w (by rw [e1, h])
  · rw [h]; exact rholds_11 cond n z c v w (by rw [e1, h])
  · rw [h]; exact rholds_12 cond n z c v w (by rw [e1, h])
  · rw [h]; exact rholds_13 cond n z c v w (by rw [e1, h])
  · rw [h]; exact rholds_14 cond n z c v w (by rw [e1, h])
  · rw [h]; exact rholds_15 cond n z c v w (by rw [e1, h])
set_option maxHeartbeats 1000000 in
theorem holds_law (cond : Int) (n z c v : Bool) (_ : (Lit.int .i64 cond).wf = true) (w : World) :
    Calls Try.prog 6 #[.int .i64 cond, .agg #[.bool n, .bool z, .bool c, .bool v]] w fun e w' => e = .returned (.bool true) ∧ Below w.heap.size w w' := by
  have X := xor1 cond
  have hx : holdsS (Go.bits .xor .i64 cond 1 % 16) n z c v = !(holdsS (cond % 16) n z c v) := by
    rw [X]
    have e1 : (if cond % 2 = 0 then cond % 16 + 1 else cond % 16 - 1) / 2 = cond % 16 / 2 := by split <;> omega
    unfold holdsS
    rw [e1]
    have e2 : decide ((if cond % 2 = 0 then cond % 16 + 1 else cond % 16 - 1) % 2 = 0) = !(decide (cond % 16 % 2 = 0)) := by
      split
      · rw [decide_eq_false (by omega), decide_eq_true (by omega)]; rfl
      · rw [decide_eq_true (by omega), decide_eq_false (by omega)]; rfl
    rw [e2]
    cases base (cond % 16 / 2) n z c v <;> cases decide (cond % 16 % 2 = 0) <;> rfl
  have R1 := Lib.hid (fun w => holds_any cond n z c v w)
  have R2 := Lib.hid (fun w => rholds_any cond n z c v w)
  have R3 := Lib.hid (fun w => by have := holds_any (Go.bits .xor .i64 cond 1) n z c v w; rw [hx] at this; exact this)
  clear hx X
  generalize holdsS (cond % 16) n z c v = h at *
  go_enter Try.func6, Try.ntmps6
  go_wp2_with fail
  refine (awake_any _).mono ?_
  rintro e w1 ⟨rfl, hb1⟩
  have A1 := keep hb1 (alloc_new _ _)
  have B1 := below_then ((Below.refl _ _).alloc (Nat.le_refl _) _) hb1 (by simp)
  go_wp2_with fail
  have c0 := cellsAt A1 0
  have c1 := cellsAt A1 1
  have c2 := cellsAt A1 2
  have c3 := cellsAt A1 3
  have s1 := sizeAt A1
  simp at c0 c1 c2 c3
  clear A1 hb1
  go_region_held3 (fun w' => w'.cell? ⟨w.heap.size, 0, none⟩ = some (.bool n) ∧ w'.cell? ⟨w.heap.size, 1, none⟩ = some (.bool z) ∧ w'.cell? ⟨w.heap.size, 2, none⟩ = some (.bool c) ∧ w'.cell? ⟨w.heap.size, 3, none⟩ = some (.bool v) ∧ w.heap.size < w'.heap.size ∧ Below w.heap.size w w')
    (first
      | (go_split_ands
         refine ⟨by go_keep, by go_keep, by go_keep, by go_keep, ?_, ?_⟩
         · first | assumption | (simp; assumption)
         · first | assumption | exact below_d1 (by assumption))
      | (go_split_ands
         exact ⟨(hb2.cell (by assumption)).trans (by assumption), (hb2.cell (by assumption)).trans (by assumption), (hb2.cell (by assumption)).trans (by assumption), (hb2.cell (by assumption)).trans (by assumption), Nat.lt_of_lt_of_le (by assumption) hb2.size, below_then (by assumption) hb2 (Nat.le_of_lt (by assumption))⟩))
    (first
      | (go_at_call 16; ((with_reducible refine (R1.out _).mono ?_); rintro e w2 ⟨rfl, hb2⟩))
      | (go_at_call 16; ((with_reducible refine (R3.out _).mono ?_); rintro e w2 ⟨rfl, hb2⟩))
      | (go_at_call 17; ((with_reducible refine (R2.out _).mono ?_); rintro e w2 ⟨rfl, hb2⟩)))
  go_wp2
  go_ret
  refine ⟨rfl, ?_⟩
  go_split_ands
  assumption
end Go.Proofs.Ytgpcgamhlcihkaa.Aw
