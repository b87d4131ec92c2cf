/- BusWaits, walked. -/
import Derived.Test.YtneiolibkclkoaaBf
import Derived.Deep.RegionHeld3
namespace Go.Proofs.Ytneiolibkclkoaa.Bi
set_option linter.unusedVariables false
set_option linter.unusedSimpArgs false
open Go.RowKit Go.Proofs.Ytneiolibkclkoaa.Bt Go.Proofs.Ytneiolibkclkoaa.Wk Go.Proofs.Ytneiolibkclkoaa.Ba Go.Proofs.Ytneiolibkclkoaa.Bc Go.Proofs.Ytneiolibkclkoaa.Bd Go.Proofs.Ytneiolibkclkoaa.Be Go.Proofs.Ytneiolibkclkoaa.Bf

theorem low28 (x o : Int) (h0 : 0 ≤ x) (h1 : x < 65536) (o0 : 0 ≤ o) (o1 : o < 65536) :
    ∃ y, Go.bits .or .u16 (Go.bits .andNot .u16 x 28) (Go.bits .and .u16 o 28) = y ∧ 0 ≤ y ∧ y < 65536 ∧ y / 32 = x / 32 ∧ y % 4 = x % 4 := by
  obtain ⟨n, rfl⟩ := Int.eq_ofNat_of_zero_le h0
  obtain ⟨m, rfl⟩ := Int.eq_ofNat_of_zero_le o0
  have e : Go.bits .andNot .u16 (n : Int) 28 = ((n ^^^ (n &&& 28) : Nat) : Int) := andNot_nat .u16 ws_u16 n 28 (by simp [IntKind.bits]; omega) (by decide)
  have l : n ^^^ (n &&& 28) < 65536 := Nat.xor_lt_two_pow (n := 16) (by omega) (Nat.and_lt_two_pow (n := 16) _ (by decide))
  have e2 : Go.bits .and .u16 (m : Int) 28 = ((m &&& 28 : Nat) : Int) := and_nat .u16 ws_u16 m 28 (by simp [IntKind.bits]; omega) (by decide)
  have l2 : m &&& 28 < 65536 := Nat.and_lt_two_pow (n := 16) _ (by decide)
  have e3 := or_nat .u16 ws_u16 _ _ l l2
  have l3 : (n ^^^ (n &&& 28)) ||| (m &&& 28) < 65536 := Nat.or_lt_two_pow (n := 16) l l2
  rw [e, e2, e3]
  refine ⟨_, rfl, by omega, by omega, ?_, ?_⟩
  · have : ((n ^^^ (n &&& 28)) ||| (m &&& 28)) / 32 = n / 32 := by
      apply Nat.eq_of_testBit_eq
      intro i
      rw [show (32 : Nat) = 2 ^ 5 from rfl]
      simp only [Nat.testBit_div_two_pow, Nat.testBit_or, Nat.testBit_xor, Nat.testBit_and]
      have z : Nat.testBit 28 (i + 5) = false := Nat.testBit_lt_two_pow (Nat.lt_of_lt_of_le (show 28 < 2 ^ 5 by decide) (Nat.pow_le_pow_right (by decide) (by omega)))
      rw [z]; simp
    omega
  · have : ((n ^^^ (n &&& 28)) ||| (m &&& 28)) % 4 = n % 4 := by
      apply Nat.eq_of_testBit_eq
      intro i
      rw [show (4 : Nat) = 2 ^ 2 from rfl]
      simp only [Nat.testBit_mod_two_pow, Nat.testBit_or, Nat.testBit_xor, Nat.testBit_and]
      by_cases c : i < 2
      · have z : Nat.testBit 28 i = false := by
          have : i = 0 ∨ i = 1 := by omega
          rcases this with rfl | rfl <;> rfl
        rw [z]; simp
      · simp [c]
    omega
theorem ahead (x : Int) (h0 : 0 ≤ x) (h1 : x < 65536) : (Go.bits .and .u16 x 16384 != 0) = (x / 16384 % 2 == 1) := by
  obtain ⟨n, rfl⟩ := Int.eq_ofNat_of_zero_le h0
  have e : Go.bits .and .u16 (n : Int) 16384 = ((n &&& 16384 : Nat) : Int) := and_nat .u16 ws_u16 n 16384 (by simp [IntKind.bits]; omega) (by decide)
  have k := land_split 14 n 16384
  simp only [Nat.reducePow, Nat.reduceDiv, Nat.reduceMod, Nat.and_zero, Nat.add_zero, Nat.and_one_is_mod] at k
  rw [e, k]
  by_cases c : n / 16384 % 2 = 1
  · have : (n : Int) / 16384 % 2 = 1 := by omega
    rw [c, this]; rfl
  · have : (n : Int) / 16384 % 2 = 0 := by omega
    have : n / 16384 % 2 = 0 := by omega
    simp [*]
theorem pick_of (k : Int) : pick4 k = 2 ∨ pick4 k = 3 ∨ pick4 k = 4 ∨ pick4 k = 8 := by 
  unfold pick4
  repeat' split
  all_goals decide
theorem sec_of (b v : Int) : sec b v = 1 ∨ sec b v = v := by 
  unfold sec
  split
  · exact .inl rfl
  · exact .inr rfl
set_option maxHeartbeats 4000000 in
theorem waits_walk (x o y f0 f1 f2 s0 s1 s2 sv g0 t0 : Int) (ah bh : Bool) (w : World)
    (A0 : Hid (∀ w, Calls Try.prog 7 #[] w fun e w' => e = .returned (.bool true) ∧ Below w.heap.size w w'))
    (K1 : Hid (∀ w, Calls Try.prog 10 #[.int .u16 x] w fun e w' => e = .returned (.agg #[.int .i64 f0, .int .i64 f1, .int .i64 f2, .int .i64 s0, .int .i64 s1, .int .i64 s2, .int .i64 sv, .bool ah]) ∧ Below w.heap.size w w'))
    (K2 : Hid (∀ w, Calls Try.prog 10 #[.int .u16 y] w fun e w' => e = .returned (.agg #[.int .i64 g0, .int .i64 f1, .int .i64 f2, .int .i64 t0, .int .i64 s1, .int .i64 s2, .int .i64 sv, .bool bh]) ∧ Below w.heap.size w w'))
    (C1 : Hid (∀ w, Calls Try.prog 12 #[.agg #[.int .i64 f0, .int .i64 f1, .int .i64 f2, .int .i64 s0, .int .i64 s1, .int .i64 s2, .int .i64 sv, .bool ah], .int .u32 234881024, .int .i64 1, .int .i64 0] w fun e w' => e = .returned (.int .i64 (1 + sv)) ∧ Below w.heap.size w w'))
    (C2 : Hid (∀ w, Calls Try.prog 12 #[.agg #[.int .i64 f0, .int .i64 f1, .int .i64 f2, .int .i64 s0, .int .i64 s1, .int .i64 s2, .int .i64 sv, .bool ah], .int .u32 134217730, .int .i64 4, .int .i64 1] w fun e w' => e = .returned (.int .i64 (2 + 2 * s0)) ∧ Below w.heap.size w w'))
    (hy : Go.bits .or .u16 (Go.bits .andNot .u16 x 28) (Go.bits .and .u16 o 28) = y) (ha : (Go.bits .and .u16 x 16384 != 0) = ah)
    (F0 : f0 = 2 ∨ f0 = 3 ∨ f0 = 4 ∨ f0 = 8) (F1 : f1 = 2 ∨ f1 = 3 ∨ f1 = 4 ∨ f1 = 8) (F2 : f2 = 2 ∨ f2 = 3 ∨ f2 = 4 ∨ f2 = 8)
    (S0 : s0 = 1 ∨ s0 = 2) (S1 : s1 = 1 ∨ s1 = 4) (S2 : s2 = 1 ∨ s2 = 8) (b0 : 0 ≤ sv) (b1 : sv ≤ 8) :
    Calls Try.prog 5 #[.int .u16 x, .int .u16 o] w fun e w' => e = .returned (.bool true) ∧ Below w.heap.size w w' := by
  go_enter Try.func5, Try.ntmps5
  go_wp2_with fail
  refine (A0.out _).mono ?_
  rintro e w1 ⟨rfl, hb1⟩
  go_wp2_with fail
  refine (K1.out _).mono ?_
  rintro e w2 ⟨rfl, hb2⟩
  go_wp2_with fail
  refine (K2.out _).mono ?_
  rintro e w3 ⟨rfl, hb3⟩
  have HY := Lib.hid hy
  clear hy
  go_wp2_with fail
  have E1 := alloc_old (Obj.cells #[Value.int .i64 g0, Value.int .i64 f1, Value.int .i64 f2, Value.int .i64 t0, Value.int .i64 s1, Value.int .i64 s2, Value.int .i64 sv, Value.bool bh] 31) (alloc_new w3 (Obj.cells #[Value.int .i64 f0, Value.int .i64 f1, Value.int .i64 f2, Value.int .i64 s0, Value.int .i64 s1, Value.int .i64 s2, Value.int .i64 sv, Value.bool ah] 31))
  have E2 := alloc_new (w3.alloc (Obj.cells #[Value.int .i64 f0, Value.int .i64 f1, Value.int .i64 f2, Value.int .i64 s0, Value.int .i64 s1, Value.int .i64 s2, Value.int .i64 sv, Value.bool ah] 31)) (Obj.cells #[Value.int .i64 g0, Value.int .i64 f1, Value.int .i64 f2, Value.int .i64 t0, Value.int .i64 s1, Value.int .i64 s2, Value.int .i64 sv, Value.bool bh] 31)
  have hb : Below w.heap.size w ((w3.alloc (Obj.cells #[Value.int .i64 f0, Value.int .i64 f1, Value.int .i64 f2, Value.int .i64 s0, Value.int .i64 s1, Value.int .i64 s2, Value.int .i64 sv, Value.bool ah] 31)).alloc (Obj.cells #[Value.int .i64 g0, Value.int .i64 f1, Value.int .i64 f2, Value.int .i64 t0, Value.int .i64 s1, Value.int .i64 s2, Value.int .i64 sv, Value.bool bh] 31)) := by
    have q1 := hb1.size
    have q2 := hb2.size
    have q3 := hb3.size
    exact Below.alloc (Below.alloc (below_then (below_then hb1 hb2 q1) hb3 (by omega)) (by omega) _) (by simp; omega) _
  have F1' := cellsAt E1
  have F2' := cellsAt E2
  simp only [World.size_alloc] at F2'
  have z2 : w3.heap.size + 1 < ((w3.alloc (Obj.cells #[Value.int .i64 f0, Value.int .i64 f1, Value.int .i64 f2, Value.int .i64 s0, Value.int .i64 s1, Value.int .i64 s2, Value.int .i64 sv, Value.bool ah] 31)).alloc (Obj.cells #[Value.int .i64 g0, Value.int .i64 f1, Value.int .i64 f2, Value.int .i64 t0, Value.int .i64 s1, Value.int .i64 s2, Value.int .i64 sv, Value.bool bh] 31)).heap.size := by simp
  clear E1 E2 hb1 hb2 hb3 A0 K1 K2
  generalize (w3.alloc (Obj.cells #[Value.int .i64 f0, Value.int .i64 f1, Value.int .i64 f2, Value.int .i64 s0, Value.int .i64 s1, Value.int .i64 s2, Value.int .i64 sv, Value.bool ah] 31)).alloc (Obj.cells #[Value.int .i64 g0, Value.int .i64 f1, Value.int .i64 f2, Value.int .i64 t0, Value.int .i64 s1, Value.int .i64 s2, Value.int .i64 sv, Value.bool bh] 31) = W at *
  generalize w3.heap.size = B at *
  go_loopw [20] (fun i wr => ∃ k n : Nat, k ≤ 3 ∧ i = .int .i64 k ∧ wr = W.drewN n) (fun i _ => 3 - (intOf i).toNat)
  case atStart => exact ⟨0, 0, by omega, rfl, rfl⟩
  case round =>
    obtain ⟨k, n, hk, rfl, rfl⟩ := hrel
    have hk4 : k = 0 ∨ k = 1 ∨ k = 2 ∨ k = 3 := by omega
    rcases hk4 with rfl | rfl | rfl | rfl
    · rcases F0 with rfl | rfl | rfl | rfl <;> rcases S0 with rfl | rfl
      all_goals
        go_wp2_with fail
        go_quiet (fail)
        go_wp2
        go_roundw
        case rel => exact ⟨1, _, by omega, rfl, rfl⟩
        case measure => simp [intOf]
    · rcases F1 with rfl | rfl | rfl | rfl <;> rcases S1 with rfl | rfl
      all_goals
        go_wp2_with fail
        go_quiet (fail)
        go_wp2
        go_roundw
        case rel => exact ⟨2, _, by omega, rfl, rfl⟩
        case measure => simp [intOf]
    · rcases F2 with rfl | rfl | rfl | rfl <;> rcases S2 with rfl | rfl
      all_goals
        go_wp2_with fail
        go_quiet (fail)
        go_wp2
        go_roundw
        case rel => exact ⟨3, _, by omega, rfl, rfl⟩
        case measure => simp [intOf]
    · have c1 : IntKind.i64.wrap (1 + sv) = 1 + sv := by rw [IntKind.wrap_i64]; omega
      have c2 : IntKind.i64.wrap (2 + 2 * s0) = 2 + 2 * s0 := by rw [IntKind.wrap_i64]; omega
      have c3 : IntKind.i64.wrap (2 * s0) = 2 * s0 := by rw [IntKind.wrap_i64]; omega
      have F1 : ∀ j, (W.drewN n).cell? ⟨B, j, none⟩ = (#[Value.int .i64 f0, Value.int .i64 f1, Value.int .i64 f2, Value.int .i64 s0, Value.int .i64 s1, Value.int .i64 s2, Value.int .i64 sv, Value.bool ah] : Array Value)[j]? := F1'
      have F2 : ∀ j, (W.drewN n).cell? ⟨B + 1, j, none⟩ = (#[Value.int .i64 g0, Value.int .i64 f1, Value.int .i64 f2, Value.int .i64 t0, Value.int .i64 s1, Value.int .i64 s2, Value.int .i64 sv, Value.bool bh] : Array Value)[j]? := F2'
      have hb' := below_dn hb n
      have z2' : B + 1 < (W.drewN n).heap.size := z2
      clear F1' F2' hb z2
      generalize W.drewN n = V at *
      go_wp2_with fail
      go_region_held3 (fun w' => (∀ j, w'.cell? ⟨B, j, none⟩ = (#[Value.int .i64 f0, Value.int .i64 f1, Value.int .i64 f2, Value.int .i64 s0, Value.int .i64 s1, Value.int .i64 s2, Value.int .i64 sv, Value.bool ah] : Array Value)[j]?) ∧ (∀ j, w'.cell? ⟨B + 1, j, none⟩ = (#[Value.int .i64 g0, Value.int .i64 f1, Value.int .i64 f2, Value.int .i64 t0, Value.int .i64 s1, Value.int .i64 s2, Value.int .i64 sv, Value.bool bh] : Array Value)[j]?) ∧ B + 1 < w'.heap.size ∧ Below w.heap.size w w')
        (first
          | (go_split_ands
             refine ⟨by assumption, by assumption, by assumption, ?_⟩
             first | assumption | exact below_d1 (by assumption) | exact below_dn (by assumption) _)
          | (go_split_ands
             refine ⟨fun j => (hb4.cell (Nat.lt_of_succ_lt (by assumption))).trans (by simp [*]), fun j => (hb4.cell (by assumption)).trans (by simp [*]), Nat.lt_of_lt_of_le (by assumption) hb4.size, below_then (by assumption) hb4 ?_⟩
             exact (by assumption : Below w.heap.size w _).size))
        (first
          | (go_at_call 12; (with_reducible refine (C1.out _).mono ?_); rintro e w4 ⟨rfl, hb4⟩)
          | (go_at_call 12; (with_reducible refine (C2.out _).mono ?_); rintro e w4 ⟨rfl, hb4⟩))
      go_wp2
      go_ret
      go_split_ands
      exact ⟨rfl, by assumption⟩
theorem cost_word (x : Int) : costW x 134217730 4 1 = 2 + 2 * sec (x / 16) 2 := by
  have h : ∀ s : Int, (1 + s) + (1 + s) = 2 + 2 * s := by intro s; omega
  rw [← h]
  rfl
theorem waits_law (x o : Int) (h1 : (Lit.int .u16 x).wf = true) (h2 : (Lit.int .u16 o).wf = true) (w : World) :
    Calls Try.prog 5 #[.int .u16 x, .int .u16 o] w fun e w' => e = .returned (.bool true) ∧ Below w.heap.size w w' := by
  obtain ⟨x0, x1⟩ := bounds_u16 h1
  obtain ⟨o0, o1⟩ := bounds_u16 h2
  obtain ⟨y, hy, y0, y1, y2, y3⟩ := low28 x o x0 (by omega) o0 (by omega)
  have p := pick4_bounds (x % 4)
  have q8 : y / 256 = x / 256 := by have a : y / 256 = y / 32 / 8 := by omega
                                    have b : x / 256 = x / 32 / 8 := by omega
                                    rw [a, b, y2]
  have q4 : y / 128 = x / 128 := by have a : y / 128 = y / 32 / 4 := by omega
                                    have b : x / 128 = x / 32 / 4 := by omega
                                    rw [a, b, y2]
  have q32 : y / 1024 = x / 1024 := by have a : y / 1024 = y / 32 / 32 := by omega
                                       have b : x / 1024 = x / 32 / 32 := by omega
                                       rw [a, b, y2]
  have e1 : pick4 (y / 32 % 4) = pick4 (x / 32 % 4) := by rw [y2]
  have e2 : pick4 (y / 256 % 4) = pick4 (x / 256 % 4) := by rw [q8]
  have e3 : sec (y / 128) 4 = sec (x / 128) 4 := by rw [q4]
  have e4 : sec (y / 1024) 8 = sec (x / 1024) 8 := by rw [q32]
  have e5 : pick4 (y % 4) = pick4 (x % 4) := by rw [y3]
  have e6 : waits y = #[.int .i64 (pick4 (y / 4 % 4)), .int .i64 (pick4 (x / 32 % 4)), .int .i64 (pick4 (x / 256 % 4)), .int .i64 (sec (y / 16) 2), .int .i64 (sec (x / 128) 4), .int .i64 (sec (x / 1024) 8), .int .i64 (pick4 (x % 4)), .bool (y / 16384 % 2 == 1)] := by
    unfold waits; rw [e1, e2, e3, e4, e5]
  have k1 : costW x 234881024 1 0 = 1 + pick4 (x % 4) := rfl
  have k2 : costW x 134217730 4 1 = 2 + 2 * sec (x / 16) 2 := cost_word x
  have K1 := fun w => control_any x x0 (by omega) w
  have K2 := fun w => control_any y y0 y1 w
  have C1 := fun w => cost_any x 234881024 1 0 (by decide) (by decide) w
  have C2 := fun w => cost_any x 134217730 4 1 (by decide) (by decide) w
  rw [e6] at K2
  rw [k1] at C1
  rw [k2] at C2
  have ha := ahead x x0 (by omega)
  have S0 : sec (x / 16) 2 = 1 ∨ sec (x / 16) 2 = 2 := sec_of _ _
  have S1 : sec (x / 128) 4 = 1 ∨ sec (x / 128) 4 = 4 := sec_of _ _
  have S2 : sec (x / 1024) 8 = 1 ∨ sec (x / 1024) 8 = 8 := sec_of _ _
  have P0 := pick_of (x / 4 % 4)
  have P1 := pick_of (x / 32 % 4)
  have P2 := pick_of (x / 256 % 4)
  have p0 : 0 ≤ pick4 (x % 4) := by omega
  have p1 := p.2
  unfold waits at K1 C1 C2
  clear e1 e2 e3 e4 e5 e6 k1 k2 p h1 h2 q8 q4 q32
  generalize pick4 (x / 4 % 4) = f0 at *
  generalize pick4 (x / 32 % 4) = f1 at *
  generalize pick4 (x / 256 % 4) = f2 at *
  generalize sec (x / 16) 2 = s0 at *
  generalize sec (x / 128) 4 = s1 at *
  generalize sec (x / 1024) 8 = s2 at *
  generalize pick4 (x % 4) = sv at *
  generalize (x / 16384 % 2 == 1) = ah at *
  generalize pick4 (y / 4 % 4) = g0 at *
  generalize sec (y / 16) 2 = t0 at *
  generalize (y / 16384 % 2 == 1) = bh at *
  exact waits_walk x o y f0 f1 f2 s0 s1 s2 sv g0 t0 ah bh w (Lib.hid fun w => awake_any w) (Lib.hid K1) (Lib.hid K2) (Lib.hid C1) (Lib.hid C2) hy ha P0 P1 P2 S0 S1 S2 p0 p1
end Go.Proofs.Ytneiolibkclkoaa.Bi
