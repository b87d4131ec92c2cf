/- BusCosts, walked. -/
import Derived.Test.YtneiolibkclkoaaBf
import Derived.Deep.RegionHeld3
namespace Go.Proofs.Ytneiolibkclkoaa.Bh
set_option linter.unusedVariables false
set_option linter.unusedSimpArgs false
open Go.RowKit Go.Proofs.Ytneiolibkclkoaa.Bt Go.Proofs.Ytneiolibkclkoaa.Wk Go.Proofs.Ytneiolibkclkoaa.Ba Go.Proofs.Ytneiolibkclkoaa.Bc Go.Proofs.Ytneiolibkclkoaa.Bd Go.Proofs.Ytneiolibkclkoaa.Be Go.Proofs.Ytneiolibkclkoaa.Bf

theorem rot (a b : Nat) (ha : a < 16777216) (hb : b < 256) : a ||| b * 16777216 = b * 16777216 + a := by
  have := Nat.two_pow_add_eq_or_of_lt (i := 24) (show a < 2 ^ 24 by omega) b
  rw [Nat.or_comm, Nat.mul_comm b]
  exact this.symm
theorem rot2 (a b : Nat) (ha : a < 16777216) (hb : b < 256) : b ||| a * 256 = a * 256 + b := by
  have := Nat.two_pow_add_eq_or_of_lt (i := 8) (show b < 2 ^ 8 by omega) a
  rw [Nat.or_comm, Nat.mul_comm a]
  exact this.symm
theorem or32 (a b : Nat) (ha : a < 4294967296) (hb : b < 4294967296) : Go.bits .or .u32 a b = ((a ||| b : Nat) : Int) := or_nat .u32 ws_u32 a b ha hb
theorem turn1 (x : Int) (h0 : 0 ≤ x) (h1 : x < 4294967296) : Go.bits .or .u32 (x / 256) (x * 16777216 % 4294967296) = x % 256 * 16777216 + x / 256 := by
  obtain ⟨n, rfl⟩ := Int.eq_ofNat_of_zero_le h0
  have e : (n : Int) * 16777216 % 4294967296 = ((n % 256 * 16777216 : Nat) : Int) := by omega
  have e2 : (n : Int) / 256 = ((n / 256 : Nat) : Int) := by omega
  rw [e, e2, or32 _ _ (by omega) (by omega), rot _ _ (by omega) (by omega)]
  omega
theorem turn3 (x : Int) (h0 : 0 ≤ x) (h1 : x < 4294967296) : Go.bits .or .u32 ((x % 256 * 16777216 + x / 256) / 16777216) ((x % 256 * 16777216 + x / 256) * 256 % 4294967296) = x := by
  obtain ⟨n, rfl⟩ := Int.eq_ofNat_of_zero_le h0
  have e : ((n : Int) % 256 * 16777216 + (n : Int) / 256) * 256 % 4294967296 = ((n / 256 * 256 : Nat) : Int) := by omega
  have e2 : ((n : Int) % 256 * 16777216 + (n : Int) / 256) / 16777216 = ((n % 256 : Nat) : Int) := by omega
  rw [e, e2, or32 _ _ (by omega) (by omega), rot2 _ _ (by omega) (by omega)]
  omega
theorem turn0 (x : Int) (h0 : 0 ≤ x) (h1 : x < 4294967296) : Go.bits .or .u32 x 0 = x := by
  obtain ⟨n, rfl⟩ := Int.eq_ofNat_of_zero_le h0
  have := or32 n 0 (by omega) (by decide)
  simpa using this
theorem low2 (x : Int) (h0 : 0 ≤ x) (h1 : x < 4294967296) : Go.bits .and .u32 (Go.bits .andNot .u32 x 3) 3 = 0 := by
  obtain ⟨n, rfl⟩ := Int.eq_ofNat_of_zero_le h0
  have e : Go.bits .andNot .u32 (n : Int) 3 = ((n ^^^ (n &&& 3) : Nat) : Int) := andNot_nat .u32 ws_u32 n 3 (by simp [IntKind.bits]; omega) (by decide)
  have l : n ^^^ (n &&& 3) < 4294967296 := Nat.xor_lt_two_pow (n := 32) (by omega) (Nat.and_lt_two_pow (n := 32) _ (by decide))
  rw [e]
  have a := and_nat .u32 ws_u32 (n ^^^ (n &&& 3)) 3 l (by decide)
  have z : (n ^^^ (n &&& 3)) &&& 3 = 0 := by
    apply Nat.eq_of_testBit_eq
    intro i
    simp only [Nat.testBit_and, Nat.testBit_xor, Nat.zero_testBit]
    cases n.testBit i <;> cases Nat.testBit 3 i <;> rfl
  rw [z] at a
  exact a
set_option maxHeartbeats 4000000 in
theorem turn_1 (x : Int) (h0 : 0 ≤ x) (h1 : x < 4294967296) (w : World) :
    Calls Try.prog 14 #[.int .u32 x, .int .u32 1] w fun e w' => e = .returned (.int .u32 (x % 256 * 16777216 + x / 256)) ∧ w = w' := by
  have b1 : Go.bits .and .u32 1 3 = 1 := by decide
  go_enter Try.func14, Try.ntmps14
  go_wp2
  go_ret
  exact ⟨ret_i (turn1 x h0 h1), rfl⟩
theorem turn_3 (x : Int) (h0 : 0 ≤ x) (h1 : x < 4294967296) (w : World) :
    Calls Try.prog 14 #[.int .u32 (x % 256 * 16777216 + x / 256), .int .u32 3] w fun e w' => e = .returned (.int .u32 x) ∧ w = w' := by
  have b1 : Go.bits .and .u32 3 3 = 3 := by decide
  have l0 : 0 ≤ x % 256 * 16777216 + x / 256 := by omega
  have l1 : x % 256 * 16777216 + x / 256 < 4294967296 := by omega
  have t := Lib.hid (turn3 x h0 h1)
  generalize x % 256 * 16777216 + x / 256 = y at *
  go_enter Try.func14, Try.ntmps14
  go_wp2
  go_ret
  exact ⟨ret_i t.out, rfl⟩
theorem turn_0 (x y : Int) (h0 : 0 ≤ x) (h1 : x < 4294967296) (hy : Go.bits .and .u32 y 3 = 0) (w : World) :
    Calls Try.prog 14 #[.int .u32 x, .int .u32 y] w fun e w' => e = .returned (.int .u32 x) ∧ w = w' := by
  have t := Lib.hid (turn0 x h0 h1)
  go_enter Try.func14, Try.ntmps14
  go_wp2
  go_ret
  exact ⟨ret_i t.out, rfl⟩
set_option maxHeartbeats 4000000 in
theorem costs_walk (addr x width cl n1 n2 n4 s1 s2 s4 z2 z4 r q : Int) (w : World)
    (A0 : Hid (∀ w, Calls Try.prog 7 #[] w fun e w' => e = .returned (.bool true) ∧ Below w.heap.size w w'))
    (M1 : Hid (∀ w, Calls Try.prog 8 #[.int .u32 addr] w fun e w' => e = .returned (.tuple #[.int .i64 r, .int .i64 q]) ∧ w = w'))
    (K1 : Hid (∀ w, Calls Try.prog 10 #[.int .u16 x] w fun e w' => e = .returned (.agg (waits x)) ∧ Below w.heap.size w w'))
    (Cn1 : Hid (∀ w, Calls Try.prog 12 #[.agg (waits x), .int .u32 addr, .int .i64 1, .int .i64 0] w fun e w' => e = .returned (.int .i64 n1) ∧ Below w.heap.size w w'))
    (Cn2 : Hid (∀ w, Calls Try.prog 12 #[.agg (waits x), .int .u32 addr, .int .i64 2, .int .i64 0] w fun e w' => e = .returned (.int .i64 n2) ∧ Below w.heap.size w w'))
    (Cn4 : Hid (∀ w, Calls Try.prog 12 #[.agg (waits x), .int .u32 addr, .int .i64 4, .int .i64 0] w fun e w' => e = .returned (.int .i64 n4) ∧ Below w.heap.size w w'))
    (Cs1 : Hid (∀ w, Calls Try.prog 12 #[.agg (waits x), .int .u32 addr, .int .i64 1, .int .i64 1] w fun e w' => e = .returned (.int .i64 s1) ∧ Below w.heap.size w w'))
    (Cs2 : Hid (∀ w, Calls Try.prog 12 #[.agg (waits x), .int .u32 addr, .int .i64 2, .int .i64 1] w fun e w' => e = .returned (.int .i64 s2) ∧ Below w.heap.size w w'))
    (Cs4 : Hid (∀ w, Calls Try.prog 12 #[.agg (waits x), .int .u32 addr, .int .i64 4, .int .i64 1] w fun e w' => e = .returned (.int .i64 s4) ∧ Below w.heap.size w w'))
    (Cz1 : Hid (∀ w, Calls Try.prog 12 #[.agg (waits x), .int .u32 addr, .int .i64 1, .int .i64 cl] w fun e w' => e = .returned (.int .i64 z2) ∧ Below w.heap.size w w'))
    (Cz2 : Hid (∀ w, Calls Try.prog 12 #[.agg (waits x), .int .u32 addr, .int .i64 2, .int .i64 cl] w fun e w' => e = .returned (.int .i64 z2) ∧ Below w.heap.size w w'))
    (Cz4 : Hid (∀ w, Calls Try.prog 12 #[.agg (waits x), .int .u32 addr, .int .i64 4, .int .i64 cl] w fun e w' => e = .returned (.int .i64 z4) ∧ Below w.heap.size w w'))
    (ln1 : decide (n1 < 1) = false) (ln2 : decide (n2 < 1) = false) (ln4 : decide (n4 < 1) = false) (ls1 : decide (s1 < 1) = false) (ls2 : decide (s2 < 1) = false) (ls4 : decide (s4 < 1) = false)
    (lz : decide (z4 < z2) = false) (hr : (r != 7) = true ∧ s1 = n1 ∧ s2 = n2 ∧ s4 = n4 ∨ (r != 7) = false)
    (h0 : 0 ≤ addr) (h1 : addr < 4294967296) :
    Calls Try.prog 6 #[.agg #[.int .u32 addr, .int .u16 x, .int .i64 width, .int .i64 cl]] w fun e w' => e = .returned (.bool true) ∧ Below w.heap.size w w' := by
  have T1 := Lib.hid (fun w => flip (turn_1 addr h0 h1 w))
  have T3 := Lib.hid (fun w => flip (turn_3 addr h0 h1 w))
  have T0 := Lib.hid (fun w => flip (turn_0 addr _ h0 h1 (low2 addr h0 h1) w))
  clear h0 h1
  generalize addr % 256 * 16777216 + addr / 256 = ty at *
  unfold waits at *
  generalize pick4 (x / 4 % 4) = v0 at *
  generalize pick4 (x / 32 % 4) = v1 at *
  generalize pick4 (x / 256 % 4) = v2 at *
  generalize sec (x / 16) 2 = v3 at *
  generalize sec (x / 128) 4 = v4 at *
  generalize sec (x / 1024) 8 = v5 at *
  generalize pick4 (x % 4) = v6 at *
  generalize (x / 16384 % 2 == 1) = v7 at *
  go_enter Try.func6, Try.ntmps6
  go_wp2_with fail
  refine (A0.out _).mono ?_
  rintro e w1 ⟨rfl, hb1⟩
  have Z1 := keep hb1 (alloc_new _ _)
  have c1 := cellsAt Z1
  go_wp2_with fail
  refine (K1.out _).mono ?_
  rintro e w2 ⟨rfl, hb2⟩
  have Z2 := keep hb2 Z1
  have c2 := cellsAt Z2
  clear Z1 c1
  go_wp2_with fail
  have hb2' : Below w.heap.size w w2 := below_then (below_then (Below.alloc (Below.refl _ _) (Nat.le_refl _) _) hb1 (by simp)) hb2 (by have := hb1.size; simp at this; omega)
  have zz := sizeAt Z2
  have q1 := hb2'.size
  have E1 := alloc_old (Obj.cells #[Value.int .i64 1, Value.int .i64 2, Value.int .i64 4] 3) (alloc_new w2 (Obj.cells #[Value.int .i64 v0, Value.int .i64 v1, Value.int .i64 v2, Value.int .i64 v3, Value.int .i64 v4, Value.int .i64 v5, Value.int .i64 v6, Value.bool v7] 31))
  have E2 := alloc_new (w2.alloc (Obj.cells #[Value.int .i64 v0, Value.int .i64 v1, Value.int .i64 v2, Value.int .i64 v3, Value.int .i64 v4, Value.int .i64 v5, Value.int .i64 v6, Value.bool v7] 31)) (Obj.cells #[Value.int .i64 1, Value.int .i64 2, Value.int .i64 4] 3)
  have E0 := alloc_old (Obj.cells #[Value.int .i64 1, Value.int .i64 2, Value.int .i64 4] 3) (alloc_old (Obj.cells #[Value.int .i64 v0, Value.int .i64 v1, Value.int .i64 v2, Value.int .i64 v3, Value.int .i64 v4, Value.int .i64 v5, Value.int .i64 v6, Value.bool v7] 31) Z2)
  have hb : Below w.heap.size w ((w2.alloc (Obj.cells #[Value.int .i64 v0, Value.int .i64 v1, Value.int .i64 v2, Value.int .i64 v3, Value.int .i64 v4, Value.int .i64 v5, Value.int .i64 v6, Value.bool v7] 31)).alloc (Obj.cells #[Value.int .i64 1, Value.int .i64 2, Value.int .i64 4] 3)) := Below.alloc (Below.alloc hb2' (by omega) _) (by simp; omega) _
  have F0 := cellsAt E0
  have F1 := cellsAt E1
  have F2 := cellsAt E2
  have z0 := sizeAt E0
  have z1 := sizeAt E1
  have z2' : w2.heap.size + 1 < ((w2.alloc (Obj.cells #[Value.int .i64 v0, Value.int .i64 v1, Value.int .i64 v2, Value.int .i64 v3, Value.int .i64 v4, Value.int .i64 v5, Value.int .i64 v6, Value.bool v7] 31)).alloc (Obj.cells #[Value.int .i64 1, Value.int .i64 2, Value.int .i64 4] 3)).heap.size := by simp
  simp only [World.size_alloc] at F2
  clear E0 E1 E2 hb1 hb2 hb2' Z2 c2 zz q1
  generalize (w2.alloc (Obj.cells #[Value.int .i64 v0, Value.int .i64 v1, Value.int .i64 v2, Value.int .i64 v3, Value.int .i64 v4, Value.int .i64 v5, Value.int .i64 v6, Value.bool v7] 31)).alloc (Obj.cells #[Value.int .i64 1, Value.int .i64 2, Value.int .i64 4] 3) = W at *
  generalize w2.heap.size = B at *
  refine wp_loop_rounds 4 ?_
  rw [rounds_succ]
  go_wp2_with fail
  rcases hr with ⟨hr, rfl, rfl, rfl⟩ | hr
  all_goals
    go_region_held3 (fun w' => (∀ j, w'.cell? ⟨w.heap.size, j, none⟩ = (#[Value.int .u32 addr, Value.int .u16 x, Value.int .i64 width, Value.int .i64 cl] : Array Value)[j]?) ∧ (∀ j, w'.cell? ⟨B, j, none⟩ = (#[Value.int .i64 v0, Value.int .i64 v1, Value.int .i64 v2, Value.int .i64 v3, Value.int .i64 v4, Value.int .i64 v5, Value.int .i64 v6, Value.bool v7] : Array Value)[j]?) ∧ (∀ j, w'.cell? ⟨B + 1, j, none⟩ = (#[Value.int .i64 1, Value.int .i64 2, Value.int .i64 4] : Array Value)[j]?) ∧ w.heap.size < w'.heap.size ∧ B < w'.heap.size ∧ B + 1 < w'.heap.size ∧ Below w.heap.size w w')
    (first
      | (go_split_ands
         refine ⟨by assumption, by assumption, by assumption, by assumption, by assumption, by assumption, ?_⟩
         first | assumption | exact below_d1 (by assumption))
      | (go_split_ands
         refine ⟨fun j => (hb4.cell (by assumption)).trans (by simp [*]), fun j => (hb4.cell (by assumption)).trans (by simp [*]), fun j => (hb4.cell (by assumption)).trans (by simp [*]), Nat.lt_of_lt_of_le (by assumption) hb4.size, Nat.lt_of_lt_of_le (by assumption) hb4.size, Nat.lt_of_lt_of_le (by assumption) hb4.size, below_then (by assumption) hb4 ?_⟩
         exact (by assumption : Below w.heap.size w _).size))
    (first
      | (go_at_call 12; (with_reducible refine (Cn1.out _).mono ?_); rintro e w4 ⟨rfl, hb4⟩)
      | (go_at_call 12; (with_reducible refine (Cs1.out _).mono ?_); rintro e w4 ⟨rfl, hb4⟩))
    go_wp2
    go_region_held3 (fun w' => (∀ j, w'.cell? ⟨w.heap.size, j, none⟩ = (#[Value.int .u32 addr, Value.int .u16 x, Value.int .i64 width, Value.int .i64 cl] : Array Value)[j]?) ∧ (∀ j, w'.cell? ⟨B, j, none⟩ = (#[Value.int .i64 v0, Value.int .i64 v1, Value.int .i64 v2, Value.int .i64 v3, Value.int .i64 v4, Value.int .i64 v5, Value.int .i64 v6, Value.bool v7] : Array Value)[j]?) ∧ (∀ j, w'.cell? ⟨B + 1, j, none⟩ = (#[Value.int .i64 1, Value.int .i64 2, Value.int .i64 4] : Array Value)[j]?) ∧ w.heap.size < w'.heap.size ∧ B < w'.heap.size ∧ B + 1 < w'.heap.size ∧ Below w.heap.size w w')
    (first
      | (go_split_ands
         refine ⟨by assumption, by assumption, by assumption, by assumption, by assumption, by assumption, ?_⟩
         first | assumption | exact below_d1 (by assumption))
      | (go_split_ands
         refine ⟨fun j => (hb4.cell (by assumption)).trans (by simp [*]), fun j => (hb4.cell (by assumption)).trans (by simp [*]), fun j => (hb4.cell (by assumption)).trans (by simp [*]), Nat.lt_of_lt_of_le (by assumption) hb4.size, Nat.lt_of_lt_of_le (by assumption) hb4.size, Nat.lt_of_lt_of_le (by assumption) hb4.size, below_then (by assumption) hb4 ?_⟩
         exact (by assumption : Below w.heap.size w _).size))
    (first
      | (go_at_call 12; (with_reducible refine (Cz1.out _).mono ?_); rintro e w4 ⟨rfl, hb4⟩)
      | (go_at_call 12; (with_reducible refine (Cz2.out _).mono ?_); rintro e w4 ⟨rfl, hb4⟩)
      | (go_at_call 12; (with_reducible refine (Cz4.out _).mono ?_); rintro e w4 ⟨rfl, hb4⟩))
    go_wp2_with (go_at_call 8; refine (M1.out _).mono ?_; rintro e w4 ⟨rfl, rfl⟩)
    rw [rounds_succ]
    go_wp2_with fail
    go_region_held3 (fun w' => (∀ j, w'.cell? ⟨w.heap.size, j, none⟩ = (#[Value.int .u32 addr, Value.int .u16 x, Value.int .i64 width, Value.int .i64 cl] : Array Value)[j]?) ∧ (∀ j, w'.cell? ⟨B, j, none⟩ = (#[Value.int .i64 v0, Value.int .i64 v1, Value.int .i64 v2, Value.int .i64 v3, Value.int .i64 v4, Value.int .i64 v5, Value.int .i64 v6, Value.bool v7] : Array Value)[j]?) ∧ (∀ j, w'.cell? ⟨B + 1, j, none⟩ = (#[Value.int .i64 1, Value.int .i64 2, Value.int .i64 4] : Array Value)[j]?) ∧ w.heap.size < w'.heap.size ∧ B < w'.heap.size ∧ B + 1 < w'.heap.size ∧ Below w.heap.size w w')
    (first
      | (go_split_ands
         refine ⟨by assumption, by assumption, by assumption, by assumption, by assumption, by assumption, ?_⟩
         first | assumption | exact below_d1 (by assumption))
      | (go_split_ands
         refine ⟨fun j => (hb4.cell (by assumption)).trans (by simp [*]), fun j => (hb4.cell (by assumption)).trans (by simp [*]), fun j => (hb4.cell (by assumption)).trans (by simp [*]), Nat.lt_of_lt_of_le (by assumption) hb4.size, Nat.lt_of_lt_of_le (by assumption) hb4.size, Nat.lt_of_lt_of_le (by assumption) hb4.size, below_then (by assumption) hb4 ?_⟩
         exact (by assumption : Below w.heap.size w _).size))
    (first
      | (go_at_call 12; (with_reducible refine (Cn2.out _).mono ?_); rintro e w4 ⟨rfl, hb4⟩)
      | (go_at_call 12; (with_reducible refine (Cs2.out _).mono ?_); rintro e w4 ⟨rfl, hb4⟩))
    go_wp2
    go_region_held3 (fun w' => (∀ j, w'.cell? ⟨w.heap.size, j, none⟩ = (#[Value.int .u32 addr, Value.int .u16 x, Value.int .i64 width, Value.int .i64 cl] : Array Value)[j]?) ∧ (∀ j, w'.cell? ⟨B, j, none⟩ = (#[Value.int .i64 v0, Value.int .i64 v1, Value.int .i64 v2, Value.int .i64 v3, Value.int .i64 v4, Value.int .i64 v5, Value.int .i64 v6, Value.bool v7] : Array Value)[j]?) ∧ (∀ j, w'.cell? ⟨B + 1, j, none⟩ = (#[Value.int .i64 1, Value.int .i64 2, Value.int .i64 4] : Array Value)[j]?) ∧ w.heap.size < w'.heap.size ∧ B < w'.heap.size ∧ B + 1 < w'.heap.size ∧ Below w.heap.size w w')
    (first
      | (go_split_ands
         refine ⟨by assumption, by assumption, by assumption, by assumption, by assumption, by assumption, ?_⟩
         first | assumption | exact below_d1 (by assumption))
      | (go_split_ands
         refine ⟨fun j => (hb4.cell (by assumption)).trans (by simp [*]), fun j => (hb4.cell (by assumption)).trans (by simp [*]), fun j => (hb4.cell (by assumption)).trans (by simp [*]), Nat.lt_of_lt_of_le (by assumption) hb4.size, Nat.lt_of_lt_of_le (by assumption) hb4.size, Nat.lt_of_lt_of_le (by assumption) hb4.size, below_then (by assumption) hb4 ?_⟩
         exact (by assumption : Below w.heap.size w _).size))
    (first
      | (go_at_call 12; (with_reducible refine (Cz1.out _).mono ?_); rintro e w4 ⟨rfl, hb4⟩)
      | (go_at_call 12; (with_reducible refine (Cz2.out _).mono ?_); rintro e w4 ⟨rfl, hb4⟩)
      | (go_at_call 12; (with_reducible refine (Cz4.out _).mono ?_); rintro e w4 ⟨rfl, hb4⟩))
    go_wp2_with (go_at_call 8; refine (M1.out _).mono ?_; rintro e w4 ⟨rfl, rfl⟩)
    rw [rounds_succ]
    go_wp2_with fail
    go_region_held3 (fun w' => (∀ j, w'.cell? ⟨w.heap.size, j, none⟩ = (#[Value.int .u32 addr, Value.int .u16 x, Value.int .i64 width, Value.int .i64 cl] : Array Value)[j]?) ∧ (∀ j, w'.cell? ⟨B, j, none⟩ = (#[Value.int .i64 v0, Value.int .i64 v1, Value.int .i64 v2, Value.int .i64 v3, Value.int .i64 v4, Value.int .i64 v5, Value.int .i64 v6, Value.bool v7] : Array Value)[j]?) ∧ (∀ j, w'.cell? ⟨B + 1, j, none⟩ = (#[Value.int .i64 1, Value.int .i64 2, Value.int .i64 4] : Array Value)[j]?) ∧ w.heap.size < w'.heap.size ∧ B < w'.heap.size ∧ B + 1 < w'.heap.size ∧ Below w.heap.size w w')
    (first
      | (go_split_ands
         refine ⟨by assumption, by assumption, by assumption, by assumption, by assumption, by assumption, ?_⟩
         first | assumption | exact below_d1 (by assumption))
      | (go_split_ands
         refine ⟨fun j => (hb4.cell (by assumption)).trans (by simp [*]), fun j => (hb4.cell (by assumption)).trans (by simp [*]), fun j => (hb4.cell (by assumption)).trans (by simp [*]), Nat.lt_of_lt_of_le (by assumption) hb4.size, Nat.lt_of_lt_of_le (by assumption) hb4.size, Nat.lt_of_lt_of_le (by assumption) hb4.size, below_then (by assumption) hb4 ?_⟩
         exact (by assumption : Below w.heap.size w _).size))
    (first
      | (go_at_call 12; (with_reducible refine (Cn4.out _).mono ?_); rintro e w4 ⟨rfl, hb4⟩)
      | (go_at_call 12; (with_reducible refine (Cs4.out _).mono ?_); rintro e w4 ⟨rfl, hb4⟩))
    go_wp2
    go_region_held3 (fun w' => (∀ j, w'.cell? ⟨w.heap.size, j, none⟩ = (#[Value.int .u32 addr, Value.int .u16 x, Value.int .i64 width, Value.int .i64 cl] : Array Value)[j]?) ∧ (∀ j, w'.cell? ⟨B, j, none⟩ = (#[Value.int .i64 v0, Value.int .i64 v1, Value.int .i64 v2, Value.int .i64 v3, Value.int .i64 v4, Value.int .i64 v5, Value.int .i64 v6, Value.bool v7] : Array Value)[j]?) ∧ (∀ j, w'.cell? ⟨B + 1, j, none⟩ = (#[Value.int .i64 1, Value.int .i64 2, Value.int .i64 4] : Array Value)[j]?) ∧ w.heap.size < w'.heap.size ∧ B < w'.heap.size ∧ B + 1 < w'.heap.size ∧ Below w.heap.size w w')
    (first
      | (go_split_ands
         refine ⟨by assumption, by assumption, by assumption, by assumption, by assumption, by assumption, ?_⟩
         first | assumption | exact below_d1 (by assumption))
      | (go_split_ands
         refine ⟨fun j => (hb4.cell (by assumption)).trans (by simp [*]), fun j => (hb4.cell (by assumption)).trans (by simp [*]), fun j => (hb4.cell (by assumption)).trans (by simp [*]), Nat.lt_of_lt_of_le (by assumption) hb4.size, Nat.lt_of_lt_of_le (by assumption) hb4.size, Nat.lt_of_lt_of_le (by assumption) hb4.size, below_then (by assumption) hb4 ?_⟩
         exact (by assumption : Below w.heap.size w _).size))
    (first
      | (go_at_call 12; (with_reducible refine (Cz1.out _).mono ?_); rintro e w4 ⟨rfl, hb4⟩)
      | (go_at_call 12; (with_reducible refine (Cz2.out _).mono ?_); rintro e w4 ⟨rfl, hb4⟩)
      | (go_at_call 12; (with_reducible refine (Cz4.out _).mono ?_); rintro e w4 ⟨rfl, hb4⟩))
    go_wp2_with (go_at_call 8; refine (M1.out _).mono ?_; rintro e w4 ⟨rfl, rfl⟩)
    rw [rounds_succ]
    go_wp2_with fail
    go_split_ands
    go_quiet ((first | (go_at_call 14; (with_reducible exact Calls.quiet_of_same (T1.out _))) | (go_at_call 14; (with_reducible exact Calls.quiet_of_same (T3.out _))) | (go_at_call 14; (with_reducible exact Calls.quiet_of_same (T0.out _)))))
    go_wp2
    go_ret
    exact ⟨rfl, below_dn (by assumption) _⟩
theorem cost_ge (x addr width cl : Int) : 1 ≤ costW x addr width cl := by
  have b0 := pk3_bounds ((addr / 16777216 - 8) / 2) _ _ _ 2 (pick4_bounds (x / 4 % 4)) (pick4_bounds (x / 32 % 4)) (pick4_bounds (x / 256 % 4))
  have b1 := pk3_bounds ((addr / 16777216 - 8) / 2) _ _ _ 1 (sec_bounds (x / 16) 2 (by decide)) (sec_bounds (x / 128) 4 (by decide)) (sec_bounds (x / 1024) 8 (by decide))
  have b2 := pick4_bounds (x % 4)
  unfold costW cost
  repeat' split
  all_goals omega
theorem cost_24 (x addr cl : Int) : costW x addr 2 cl ≤ costW x addr 4 cl := by
  have b1 := pk3_bounds ((addr / 16777216 - 8) / 2) _ _ _ 1 (sec_bounds (x / 16) 2 (by decide)) (sec_bounds (x / 128) 4 (by decide)) (sec_bounds (x / 1024) 8 (by decide))
  unfold costW cost
  simp only [Int.reduceEq, reduceIte]
  repeat' split
  all_goals omega
theorem cost_12 (x addr cl : Int) : costW x addr 1 cl = costW x addr 2 cl := by
  unfold costW cost
  simp only [Int.reduceEq, reduceIte]
theorem cost_ns (x addr width : Int) (h : (mapped addr).1 ≠ 7) : costW x addr width 1 = costW x addr width 0 := by
  unfold costW cost
  rw [if_neg h, if_neg h]
theorem costs_law (addr x width cl : Int) (h1 : (Lit.int .u32 addr).wf = true) (h2 : (Lit.int .u16 x).wf = true) (h3 : (Lit.int .i64 width).wf = true) (h4 : (Lit.int .i64 cl).wf = true) (w : World) :
    Calls Try.prog 6 #[.agg #[.int .u32 addr, .int .u16 x, .int .i64 width, .int .i64 cl]] w fun e w' => e = .returned (.bool true) ∧ Below w.heap.size w w' := by
  obtain ⟨a0, a1⟩ := bounds_u32 h1
  obtain ⟨x0, x1⟩ := bounds_u16 h2
  have lt : ∀ n : Int, 1 ≤ n → decide (n < 1) = false := fun n h => by simpa using h
  have C := fun width cl w => cost_any x addr width cl a0 (by omega) w
  refine costs_walk addr x width cl (costW x addr 1 0) (costW x addr 2 0) (costW x addr 4 0) (costW x addr 1 1) (costW x addr 2 1) (costW x addr 4 1) (costW x addr 2 cl) (costW x addr 4 cl) (mapped addr).1 (mapped addr).2 w
    (Lib.hid fun w => awake_any w) (Lib.hid fun w => map_any addr a0 (by omega) w) (Lib.hid fun w => control_any x x0 (by omega) w)
    (Lib.hid (C 1 0)) (Lib.hid (C 2 0)) (Lib.hid (C 4 0)) (Lib.hid (C 1 1)) (Lib.hid (C 2 1)) (Lib.hid (C 4 1)) (Lib.hid (cost_12 x addr cl ▸ C 1 cl)) (Lib.hid (C 2 cl)) (Lib.hid (C 4 cl))
    (lt _ (cost_ge _ _ _ _)) (lt _ (cost_ge _ _ _ _)) (lt _ (cost_ge _ _ _ _)) (lt _ (cost_ge _ _ _ _)) (lt _ (cost_ge _ _ _ _)) (lt _ (cost_ge _ _ _ _))
    (by have := cost_24 x addr cl; simpa using this) ?_ a0 (by omega)
  by_cases h : (mapped addr).1 = 7
  · right; simp [h]
  · left; exact ⟨by simpa using h, cost_ns _ _ _ h, cost_ns _ _ _ h, cost_ns _ _ _ h⟩
end Go.Proofs.Ytneiolibkclkoaa.Bh
