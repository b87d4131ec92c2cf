/- Package alu and its reference, walked. -/
import Derived.Test.YtgpcgamhlcihkaaProg
import Derived.Test.YtgpcgamhlcihkaaAm
import Derived.WalkKit
import Derived.WalkLawsBesides
import Derived.Outline
import Derived.Lib.Hide
import Derived.Below
import Derived.Deep.QuietTactic
import Derived.BigQuiet
import Derived.RegionTactic
import Derived.ChangeAlike
namespace Go.Proofs.Ytgpcgamhlcihkaa.Aw
set_option linter.unusedVariables false
set_option linter.unusedSimpArgs false
open Go.RowKit Go.Proofs.Ytgpcgamhlcihkaa.Bt Go.Proofs.Ytgpcgamhlcihkaa.Am

theorem ret_b {a b : Bool} (h : a = b) : Ending.returned (.bool a) = Ending.returned (.bool b) := by rw [h]
theorem ret_i {k : IntKind} {a b : Int} (h : a = b) : Ending.returned (.int k a) = Ending.returned (.int k b) := by rw [h]
theorem ret_ii {k l : IntKind} {a b c d : Int} (h : a = b) (h' : c = d) : Ending.returned (.tuple #[.int k a, .int l c]) = Ending.returned (.tuple #[.int k b, .int l d]) := by rw [h, h']
theorem ret_fl {k : IntKind} {a b : Int} {n z c v n' z' c' v' : Bool} (h : a = b) (h1 : n = n') (h2 : z = z') (h3 : c = c') (h4 : v = v') :
    Ending.returned (.tuple #[.int k a, .agg #[.bool n, .bool z, .bool c, .bool v]]) = Ending.returned (.tuple #[.int k b, .agg #[.bool n', .bool z', .bool c', .bool v']]) := by rw [h, h1, h2, h3, h4]
theorem below_dn {b : Nat} {w W : World} (h : Below b w W) (n : Nat) : Below b w (W.drewN n) := ⟨h.os, h.tape, h.output, h.size, h.block⟩
theorem below_d1 {b : Nat} {w W : World} (h : Below b w W) : Below b w W.drew := ⟨h.os, h.tape, h.output, h.size, h.block⟩
/-- Flags as Go has them. -/
abbrev flv (f : Fl) : Value := .agg #[.bool f.n, .bool f.z, .bool f.c, .bool f.v]

set_option maxHeartbeats 1000000 in
theorem add32 (x y c : Int) (w : World) (x0 : 0 ≤ x) (x1 : x < 4294967296) (y0 : 0 ≤ y) (y1 : y < 4294967296) (c0 : 0 ≤ c) (c1 : c ≤ 1) :
    Calls Try.prog 26 #[.int .u32 x, .int .u32 y, .int .u32 c] w fun e w' => e = .returned (.tuple #[.int .u32 ((x + y + c) % 4294967296), .int .u32 ((x + y + c) / 4294967296)]) ∧ w = w' := by
  go_enter Try.func26, Try.ntmps26
  go_wp2
  go_ret2
  exact ⟨rfl, rfl⟩
set_option maxHeartbeats 1000000 in
theorem sum_at (a b c Y O : Int) (ci : Bool) (w : World) (a0 : 0 ≤ a) (a1 : a < 4294967296) (b0 : 0 ≤ b) (b1 : b < 4294967296) (hc : (if ci then 1 else 0) = c) (hY : (a + b + c) % 4294967296 = Y) (hO : (a + b + c) / 4294967296 = O) :
    Calls Try.prog 23 #[.int .u32 a, .int .u32 b, .bool ci] w fun e w' => e = .returned (.tuple #[.int .u32 Y, .agg #[.bool (Y / 2147483648 == 1), .bool (Y == 0), .bool (O == 1), .bool (Go.bits .and .u32 (Go.bits .xor .u32 a Y) (Go.bits .xor .u32 b Y) / 2147483648 == 1)]]) ∧ Below w.heap.size w w' := by
  have c01 : 0 ≤ c ∧ c ≤ 1 := by rw [← hc]; split <;> omega
  have R := Lib.hid (fun w => by have := add32 a b c w a0 a1 b0 b1 c01.1 c01.2; rw [hY, hO] at this; exact this)
  have y0 : 0 ≤ Y ∧ Y < 4294967296 := by omega
  obtain ⟨y0, y1⟩ := y0
  clear hY hO c01
  cases ci
  all_goals
    first | obtain rfl : c = 0 := hc.symm | obtain rfl : c = 1 := hc.symm
    clear hc
    go_enter Try.func23, Try.ntmps23
    go_wp2_with (go_at_call 26; ((with_reducible refine (R.out _).mono ?_); rintro e w' ⟨rfl, rfl⟩))
    refine bodyPost_ret (v := .tuple #[.int .u32 Y, .agg #[.bool (Y / 2147483648 == 1), .bool (Y == 0), .bool (O == 1), .bool (Go.bits .and .u32 (Go.bits .xor .u32 a Y) (Go.bits .xor .u32 b Y) / 2147483648 == 1)]]) (by simp [results, Try.results23, go_sem]) rfl ⟨rfl, ?_⟩
    exact ((Below.refl _ _).alloc (Nat.le_refl _) _)
theorem sum_any (a b c : Int) (ci : Bool) (w : World) (a0 : 0 ≤ a) (a1 : a < 4294967296) (b0 : 0 ≤ b) (b1 : b < 4294967296) (hc : (if ci then 1 else 0) = c) :
    Calls Try.prog 23 #[.int .u32 a, .int .u32 b, .bool ci] w fun e w' => e = .returned (.tuple #[.int .u32 (sumN (a + b + c) (sg a + sg b + c) true).1, flv (sumN (a + b + c) (sg a + sg b + c) true).2]) ∧ Below w.heap.size w w' := by
  have c01 : c = 0 ∨ c = 1 := by rw [← hc]; split <;> omega
  refine (sum_at a b c _ _ ci w a0 a1 b0 b1 hc rfl rfl).mono ?_
  rintro e w' ⟨rfl, hb⟩
  refine ⟨ret_fl rfl ?_ ?_ ?_ ?_, hb⟩
  · simp only [sumN, fl4]; rw [beq_eq_decide]; simp only [decide_eq_decide]; omega
  · simp only [sumN, fl4]; rw [beq_eq_decide]
  · simp only [sumN, fl4, if_true]; rw [beq_eq_decide]; simp only [decide_eq_decide]; omega
  · simp only [sumN, fl4]; exact over_eq a0 a1 b0 b1 c01 _ rfl
set_option maxHeartbeats 1000000 in
theorem logic_any (y : Int) (p q : Nat) (sh v : Bool) (w : World) (y0 : 0 ≤ y) (y1 : y < 4294967296) (h1 : w.cell? ⟨p, 0, none⟩ = some (.bool sh)) (h2 : w.cell? ⟨q, 3, none⟩ = some (.bool v)) (hp : p < w.heap.size) (hq : q < w.heap.size) :
    Calls Try.prog 22 #[.int .u32 y, .pointer (some ⟨p, 0, none⟩), .pointer (some ⟨q, 0, none⟩)] w fun e w' => e = .returned (.tuple #[.int .u32 y, flv (fl4 y sh v)]) ∧ Below w.heap.size w w' := by
  have H : flv (fl4 y sh v) = .agg #[.bool (y / 2147483648 == 1), .bool (y == 0), .bool sh, .bool v] := by
    simp only [fl4]
    rw [beq_eq_decide, beq_eq_decide, show decide (y / 2147483648 = 1) = decide (2147483648 ≤ y) by simp only [decide_eq_decide]; omega]
  rw [H]
  clear H
  go_enter Try.func22, Try.ntmps22
  go_wp2
  go_region
  go_wp2
  refine bodyPost_ret (v := .tuple #[.int .u32 y, .agg #[.bool (y / 2147483648 == 1), .bool (y == 0), .bool sh, .bool v]]) (by simp [results, Try.results22, go_sem]) rfl ⟨rfl, ?_⟩
  exact below_d1 ((Below.refl _ _).alloc (Nat.le_refl _) _)

-- DO
set_option maxHeartbeats 1000000 in
theorem do_and (code cc a b Y : Int) (F : Fl) (n z c v sh : Bool) (w : World) (a0 : 0 ≤ a) (a1 : a < 4294967296) (b0 : 0 ≤ b) (b1 : b < 4294967296) (e1 : Go.bits .and .i64 code 15 = cc) (hc : (cc = 0 ∨ cc = 8)) (hY : Go.bits .and .u32 a b = Y) (y0 : 0 ≤ Y) (y1 : Y < 4294967296) (hF : fl4 Y sh v = F) :
    Calls Try.prog 10 #[.int .i64 code, .int .u32 a, .int .u32 b, .agg #[.bool n, .bool z, .bool c, .bool v], .bool sh] w fun e w' => e = .returned (.tuple #[.int .u32 Y, flv F]) ∧ Below w.heap.size w w' := by
  have R := Lib.hid (fun w p q h1 h2 hp hq => by have := logic_any Y p q sh v w y0 y1 h1 h2 hp hq; rw [hF] at this; exact this)
  clear hF
  rcases hc with rfl | rfl
  all_goals
  go_enter Try.func10, Try.ntmps10
  go_wp2_with fail
  refine (R.out _ _ _ ?h1 ?h2 ?h3 ?h4).mono ?_
  case h1 => go_simp
  case h2 => go_simp
  case h3 => go_simp
  case h4 => go_simp
  rintro e w1 ⟨rfl, hb⟩
  have k0 : w1.cell? ⟨w.heap.size + 1 + 1, 0, none⟩ = some (.bool false) := (hb.cell (by simp)).trans (by go_simp)
  have l0 : w1.frozen? ⟨w.heap.size + 1 + 1, 0, none⟩ = false := (hb.frozen (by simp)).trans (by go_simp)
  have k1 : w1.cell? ⟨w.heap.size + 1 + 1, 1, none⟩ = some (.bool false) := (hb.cell (by simp)).trans (by go_simp)
  have l1 : w1.frozen? ⟨w.heap.size + 1 + 1, 1, none⟩ = false := (hb.frozen (by simp)).trans (by go_simp)
  have k2 : w1.cell? ⟨w.heap.size + 1 + 1, 2, none⟩ = some (.bool false) := (hb.cell (by simp)).trans (by go_simp)
  have l2 : w1.frozen? ⟨w.heap.size + 1 + 1, 2, none⟩ = false := (hb.frozen (by simp)).trans (by go_simp)
  have k3 : w1.cell? ⟨w.heap.size + 1 + 1, 3, none⟩ = some (.bool false) := (hb.cell (by simp)).trans (by go_simp)
  have l3 : w1.frozen? ⟨w.heap.size + 1 + 1, 3, none⟩ = false := (hb.frozen (by simp)).trans (by go_simp)
  go_wp2
  refine bodyPost_ret (v := .tuple #[.int .u32 Y, .agg #[.bool F.n, .bool F.z, .bool F.c, .bool F.v]]) (by simp [results, Try.results10, go_sem, k0, k1, k2, k3, l0, l1, l2, l3]) rfl ⟨rfl, ?_⟩
  refine Below.setCell (Below.setCell (Below.setCell (Below.setCell (Below.trans ?_ (hb.mono (by simp; omega))) (by simp; omega) _) (by simp; omega) _) (by simp; omega) _) (by simp; omega) _
  exact ((((Below.refl _ _).alloc (Nat.le_refl _) _).alloc (by simp) _).alloc (by simp; omega) _)
set_option maxHeartbeats 1000000 in
theorem do_xor (code cc a b Y : Int) (F : Fl) (n z c v sh : Bool) (w : World) (a0 : 0 ≤ a) (a1 : a < 4294967296) (b0 : 0 ≤ b) (b1 : b < 4294967296) (e1 : Go.bits .and .i64 code 15 = cc) (hc : (cc = 1 ∨ cc = 9)) (hY : Go.bits .xor .u32 a b = Y) (y0 : 0 ≤ Y) (y1 : Y < 4294967296) (hF : fl4 Y sh v = F) :
    Calls Try.prog 10 #[.int .i64 code, .int .u32 a, .int .u32 b, .agg #[.bool n, .bool z, .bool c, .bool v], .bool sh] w fun e w' => e = .returned (.tuple #[.int .u32 Y, flv F]) ∧ Below w.heap.size w w' := by
  have R := Lib.hid (fun w p q h1 h2 hp hq => by have := logic_any Y p q sh v w y0 y1 h1 h2 hp hq; rw [hF] at this; exact this)
  clear hF
  rcases hc with rfl | rfl
  all_goals
  go_enter Try.func10, Try.ntmps10
  go_wp2_with fail
  refine (R.out _ _ _ ?h1 ?h2 ?h3 ?h4).mono ?_
  case h1 => go_simp
  case h2 => go_simp
  case h3 => go_simp
  case h4 => go_simp
  rintro e w1 ⟨rfl, hb⟩
  have k0 : w1.cell? ⟨w.heap.size + 1 + 1, 0, none⟩ = some (.bool false) := (hb.cell (by simp)).trans (by go_simp)
  have l0 : w1.frozen? ⟨w.heap.size + 1 + 1, 0, none⟩ = false := (hb.frozen (by simp)).trans (by go_simp)
  have k1 : w1.cell? ⟨w.heap.size + 1 + 1, 1, none⟩ = some (.bool false) := (hb.cell (by simp)).trans (by go_simp)
  have l1 : w1.frozen? ⟨w.heap.size + 1 + 1, 1, none⟩ = false := (hb.frozen (by simp)).trans (by go_simp)
  have k2 : w1.cell? ⟨w.heap.size + 1 + 1, 2, none⟩ = some (.bool false) := (hb.cell (by simp)).trans (by go_simp)
  have l2 : w1.frozen? ⟨w.heap.size + 1 + 1, 2, none⟩ = false := (hb.frozen (by simp)).trans (by go_simp)
  have k3 : w1.cell? ⟨w.heap.size + 1 + 1, 3, none⟩ = some (.bool false) := (hb.cell (by simp)).trans (by go_simp)
  have l3 : w1.frozen? ⟨w.heap.size + 1 + 1, 3, none⟩ = false := (hb.frozen (by simp)).trans (by go_simp)
  go_wp2
  refine bodyPost_ret (v := .tuple #[.int .u32 Y, .agg #[.bool F.n, .bool F.z, .bool F.c, .bool F.v]]) (by simp [results, Try.results10, go_sem, k0, k1, k2, k3, l0, l1, l2, l3]) rfl ⟨rfl, ?_⟩
  refine Below.setCell (Below.setCell (Below.setCell (Below.setCell (Below.trans ?_ (hb.mono (by simp; omega))) (by simp; omega) _) (by simp; omega) _) (by simp; omega) _) (by simp; omega) _
  exact ((((Below.refl _ _).alloc (Nat.le_refl _) _).alloc (by simp) _).alloc (by simp; omega) _)
set_option maxHeartbeats 1000000 in
theorem do_or (code cc a b Y : Int) (F : Fl) (n z c v sh : Bool) (w : World) (a0 : 0 ≤ a) (a1 : a < 4294967296) (b0 : 0 ≤ b) (b1 : b < 4294967296) (e1 : Go.bits .and .i64 code 15 = cc) (hc : (cc = 12)) (hY : Go.bits .or .u32 a b = Y) (y0 : 0 ≤ Y) (y1 : Y < 4294967296) (hF : fl4 Y sh v = F) :
    Calls Try.prog 10 #[.int .i64 code, .int .u32 a, .int .u32 b, .agg #[.bool n, .bool z, .bool c, .bool v], .bool sh] w fun e w' => e = .returned (.tuple #[.int .u32 Y, flv F]) ∧ Below w.heap.size w w' := by
  have R := Lib.hid (fun w p q h1 h2 hp hq => by have := logic_any Y p q sh v w y0 y1 h1 h2 hp hq; rw [hF] at this; exact this)
  clear hF
  rcases hc with rfl
  all_goals
  go_enter Try.func10, Try.ntmps10
  go_wp2_with fail
  refine (R.out _ _ _ ?h1 ?h2 ?h3 ?h4).mono ?_
  case h1 => go_simp
  case h2 => go_simp
  case h3 => go_simp
  case h4 => go_simp
  rintro e w1 ⟨rfl, hb⟩
  have k0 : w1.cell? ⟨w.heap.size + 1 + 1, 0, none⟩ = some (.bool false) := (hb.cell (by simp)).trans (by go_simp)
  have l0 : w1.frozen? ⟨w.heap.size + 1 + 1, 0, none⟩ = false := (hb.frozen (by simp)).trans (by go_simp)
  have k1 : w1.cell? ⟨w.heap.size + 1 + 1, 1, none⟩ = some (.bool false) := (hb.cell (by simp)).trans (by go_simp)
  have l1 : w1.frozen? ⟨w.heap.size + 1 + 1, 1, none⟩ = false := (hb.frozen (by simp)).trans (by go_simp)
  have k2 : w1.cell? ⟨w.heap.size + 1 + 1, 2, none⟩ = some (.bool false) := (hb.cell (by simp)).trans (by go_simp)
  have l2 : w1.frozen? ⟨w.heap.size + 1 + 1, 2, none⟩ = false := (hb.frozen (by simp)).trans (by go_simp)
  have k3 : w1.cell? ⟨w.heap.size + 1 + 1, 3, none⟩ = some (.bool false) := (hb.cell (by simp)).trans (by go_simp)
  have l3 : w1.frozen? ⟨w.heap.size + 1 + 1, 3, none⟩ = false := (hb.frozen (by simp)).trans (by go_simp)
  go_wp2
  refine bodyPost_ret (v := .tuple #[.int .u32 Y, .agg #[.bool F.n, .bool F.z, .bool F.c, .bool F.v]]) (by simp [results, Try.results10, go_sem, k0, k1, k2, k3, l0, l1, l2, l3]) rfl ⟨rfl, ?_⟩
  refine Below.setCell (Below.setCell (Below.setCell (Below.setCell (Below.trans ?_ (hb.mono (by simp; omega))) (by simp; omega) _) (by simp; omega) _) (by simp; omega) _) (by simp; omega) _
  exact ((((Below.refl _ _).alloc (Nat.le_refl _) _).alloc (by simp) _).alloc (by simp; omega) _)
set_option maxHeartbeats 1000000 in
theorem do_mov (code cc a b Y : Int) (F : Fl) (n z c v sh : Bool) (w : World) (a0 : 0 ≤ a) (a1 : a < 4294967296) (b0 : 0 ≤ b) (b1 : b < 4294967296) (e1 : Go.bits .and .i64 code 15 = cc) (hc : (cc = 13)) (hY : b = Y) (y0 : 0 ≤ Y) (y1 : Y < 4294967296) (hF : fl4 Y sh v = F) :
    Calls Try.prog 10 #[.int .i64 code, .int .u32 a, .int .u32 b, .agg #[.bool n, .bool z, .bool c, .bool v], .bool sh] w fun e w' => e = .returned (.tuple #[.int .u32 Y, flv F]) ∧ Below w.heap.size w w' := by
  have R := Lib.hid (fun w p q h1 h2 hp hq => by have := logic_any Y p q sh v w y0 y1 h1 h2 hp hq; rw [hF] at this; exact this)
  clear hF
  rcases hc with rfl
  all_goals
  subst hY
  go_enter Try.func10, Try.ntmps10
  go_wp2_with fail
  refine (R.out _ _ _ ?h1 ?h2 ?h3 ?h4).mono ?_
  case h1 => go_simp
  case h2 => go_simp
  case h3 => go_simp
  case h4 => go_simp
  rintro e w1 ⟨rfl, hb⟩
  have k0 : w1.cell? ⟨w.heap.size + 1 + 1, 0, none⟩ = some (.bool false) := (hb.cell (by simp)).trans (by go_simp)
  have l0 : w1.frozen? ⟨w.heap.size + 1 + 1, 0, none⟩ = false := (hb.frozen (by simp)).trans (by go_simp)
  have k1 : w1.cell? ⟨w.heap.size + 1 + 1, 1, none⟩ = some (.bool false) := (hb.cell (by simp)).trans (by go_simp)
  have l1 : w1.frozen? ⟨w.heap.size + 1 + 1, 1, none⟩ = false := (hb.frozen (by simp)).trans (by go_simp)
  have k2 : w1.cell? ⟨w.heap.size + 1 + 1, 2, none⟩ = some (.bool false) := (hb.cell (by simp)).trans (by go_simp)
  have l2 : w1.frozen? ⟨w.heap.size + 1 + 1, 2, none⟩ = false := (hb.frozen (by simp)).trans (by go_simp)
  have k3 : w1.cell? ⟨w.heap.size + 1 + 1, 3, none⟩ = some (.bool false) := (hb.cell (by simp)).trans (by go_simp)
  have l3 : w1.frozen? ⟨w.heap.size + 1 + 1, 3, none⟩ = false := (hb.frozen (by simp)).trans (by go_simp)
  go_wp2
  refine bodyPost_ret (v := .tuple #[.int .u32 b, .agg #[.bool F.n, .bool F.z, .bool F.c, .bool F.v]]) (by simp [results, Try.results10, go_sem, k0, k1, k2, k3, l0, l1, l2, l3]) rfl ⟨rfl, ?_⟩
  refine Below.setCell (Below.setCell (Below.setCell (Below.setCell (Below.trans ?_ (hb.mono (by simp; omega))) (by simp; omega) _) (by simp; omega) _) (by simp; omega) _) (by simp; omega) _
  exact ((((Below.refl _ _).alloc (Nat.le_refl _) _).alloc (by simp) _).alloc (by simp; omega) _)
set_option maxHeartbeats 1000000 in
theorem do_bic (code cc a b Y : Int) (F : Fl) (n z c v sh : Bool) (w : World) (a0 : 0 ≤ a) (a1 : a < 4294967296) (b0 : 0 ≤ b) (b1 : b < 4294967296) (e1 : Go.bits .and .i64 code 15 = cc) (hc : (cc = 14)) (hY : Go.bits .andNot .u32 a b = Y) (y0 : 0 ≤ Y) (y1 : Y < 4294967296) (hF : fl4 Y sh v = F) :
    Calls Try.prog 10 #[.int .i64 code, .int .u32 a, .int .u32 b, .agg #[.bool n, .bool z, .bool c, .bool v], .bool sh] w fun e w' => e = .returned (.tuple #[.int .u32 Y, flv F]) ∧ Below w.heap.size w w' := by
  have R := Lib.hid (fun w p q h1 h2 hp hq => by have := logic_any Y p q sh v w y0 y1 h1 h2 hp hq; rw [hF] at this; exact this)
  clear hF
  rcases hc with rfl
  all_goals
  go_enter Try.func10, Try.ntmps10
  go_wp2_with fail
  refine (R.out _ _ _ ?h1 ?h2 ?h3 ?h4).mono ?_
  case h1 => go_simp
  case h2 => go_simp
  case h3 => go_simp
  case h4 => go_simp
  rintro e w1 ⟨rfl, hb⟩
  have k0 : w1.cell? ⟨w.heap.size + 1 + 1, 0, none⟩ = some (.bool false) := (hb.cell (by simp)).trans (by go_simp)
  have l0 : w1.frozen? ⟨w.heap.size + 1 + 1, 0, none⟩ = false := (hb.frozen (by simp)).trans (by go_simp)
  have k1 : w1.cell? ⟨w.heap.size + 1 + 1, 1, none⟩ = some (.bool false) := (hb.cell (by simp)).trans (by go_simp)
  have l1 : w1.frozen? ⟨w.heap.size + 1 + 1, 1, none⟩ = false := (hb.frozen (by simp)).trans (by go_simp)
  have k2 : w1.cell? ⟨w.heap.size + 1 + 1, 2, none⟩ = some (.bool false) := (hb.cell (by simp)).trans (by go_simp)
  have l2 : w1.frozen? ⟨w.heap.size + 1 + 1, 2, none⟩ = false := (hb.frozen (by simp)).trans (by go_simp)
  have k3 : w1.cell? ⟨w.heap.size + 1 + 1, 3, none⟩ = some (.bool false) := (hb.cell (by simp)).trans (by go_simp)
  have l3 : w1.frozen? ⟨w.heap.size + 1 + 1, 3, none⟩ = false := (hb.frozen (by simp)).trans (by go_simp)
  go_wp2
  refine bodyPost_ret (v := .tuple #[.int .u32 Y, .agg #[.bool F.n, .bool F.z, .bool F.c, .bool F.v]]) (by simp [results, Try.results10, go_sem, k0, k1, k2, k3, l0, l1, l2, l3]) rfl ⟨rfl, ?_⟩
  refine Below.setCell (Below.setCell (Below.setCell (Below.setCell (Below.trans ?_ (hb.mono (by simp; omega))) (by simp; omega) _) (by simp; omega) _) (by simp; omega) _) (by simp; omega) _
  exact ((((Below.refl _ _).alloc (Nat.le_refl _) _).alloc (by simp) _).alloc (by simp; omega) _)
set_option maxHeartbeats 1000000 in
theorem do_mvn (code cc a b Y : Int) (F : Fl) (n z c v sh : Bool) (w : World) (a0 : 0 ≤ a) (a1 : a < 4294967296) (b0 : 0 ≤ b) (b1 : b < 4294967296) (e1 : Go.bits .and .i64 code 15 = cc) (hc : (cc = 15)) (hY : Go.bits .xor .u32 IntKind.u32.max b = Y) (y0 : 0 ≤ Y) (y1 : Y < 4294967296) (hF : fl4 Y sh v = F) :
    Calls Try.prog 10 #[.int .i64 code, .int .u32 a, .int .u32 b, .agg #[.bool n, .bool z, .bool c, .bool v], .bool sh] w fun e w' => e = .returned (.tuple #[.int .u32 Y, flv F]) ∧ Below w.heap.size w w' := by
  have R := Lib.hid (fun w p q h1 h2 hp hq => by have := logic_any Y p q sh v w y0 y1 h1 h2 hp hq; rw [hF] at this; exact this)
  clear hF
  rcases hc with rfl
  all_goals
  go_enter Try.func10, Try.ntmps10
  go_wp2_with fail
  refine (R.out _ _ _ ?h1 ?h2 ?h3 ?h4).mono ?_
  case h1 => go_simp
  case h2 => go_simp
  case h3 => go_simp
  case h4 => go_simp
  rintro e w1 ⟨rfl, hb⟩
  have k0 : w1.cell? ⟨w.heap.size + 1 + 1, 0, none⟩ = some (.bool false) := (hb.cell (by simp)).trans (by go_simp)
  have l0 : w1.frozen? ⟨w.heap.size + 1 + 1, 0, none⟩ = false := (hb.frozen (by simp)).trans (by go_simp)
  have k1 : w1.cell? ⟨w.heap.size + 1 + 1, 1, none⟩ = some (.bool false) := (hb.cell (by simp)).trans (by go_simp)
  have l1 : w1.frozen? ⟨w.heap.size + 1 + 1, 1, none⟩ = false := (hb.frozen (by simp)).trans (by go_simp)
  have k2 : w1.cell? ⟨w.heap.size + 1 + 1, 2, none⟩ = some (.bool false) := (hb.cell (by simp)).trans (by go_simp)
  have l2 : w1.frozen? ⟨w.heap.size + 1 + 1, 2, none⟩ = false := (hb.frozen (by simp)).trans (by go_simp)
  have k3 : w1.cell? ⟨w.heap.size + 1 + 1, 3, none⟩ = some (.bool false) := (hb.cell (by simp)).trans (by go_simp)
  have l3 : w1.frozen? ⟨w.heap.size + 1 + 1, 3, none⟩ = false := (hb.frozen (by simp)).trans (by go_simp)
  go_wp2
  refine bodyPost_ret (v := .tuple #[.int .u32 Y, .agg #[.bool F.n, .bool F.z, .bool F.c, .bool F.v]]) (by simp [results, Try.results10, go_sem, k0, k1, k2, k3, l0, l1, l2, l3]) rfl ⟨rfl, ?_⟩
  refine Below.setCell (Below.setCell (Below.setCell (Below.setCell (Below.trans ?_ (hb.mono (by simp; omega))) (by simp; omega) _) (by simp; omega) _) (by simp; omega) _) (by simp; omega) _
  exact ((((Below.refl _ _).alloc (Nat.le_refl _) _).alloc (by simp) _).alloc (by simp; omega) _)
set_option maxHeartbeats 1000000 in
theorem do_sub (code cc a b Y : Int) (F : Fl) (n z c v sh : Bool) (w : World) (a0 : 0 ≤ a) (a1 : a < 4294967296) (b0 : 0 ≤ b) (b1 : b < 4294967296) (nb : Int) (hn : Go.bits .xor .u32 IntKind.u32.max b = nb) (m0 : 0 ≤ nb) (m1 : nb < 4294967296) (e1 : Go.bits .and .i64 code 15 = cc) (hc : (cc = 2 ∨ cc = 10)) (hF : sumN (a + nb + 1) (sg a + sg nb + 1) true = (Y, F)) :
    Calls Try.prog 10 #[.int .i64 code, .int .u32 a, .int .u32 b, .agg #[.bool n, .bool z, .bool c, .bool v], .bool sh] w fun e w' => e = .returned (.tuple #[.int .u32 Y, flv F]) ∧ Below w.heap.size w w' := by
  have R := Lib.hid (fun w => by have := sum_any a nb 1 true w a0 a1 m0 m1 rfl; rw [hF] at this; exact this)
  clear hF
  rcases hc with rfl | rfl
  all_goals
  go_enter Try.func10, Try.ntmps10
  go_wp2_with fail
  refine (R.out _).mono ?_
  rintro e w1 ⟨rfl, hb⟩
  have k0 : w1.cell? ⟨w.heap.size + 1 + 1, 0, none⟩ = some (.bool false) := (hb.cell (by simp)).trans (by go_simp)
  have l0 : w1.frozen? ⟨w.heap.size + 1 + 1, 0, none⟩ = false := (hb.frozen (by simp)).trans (by go_simp)
  have k1 : w1.cell? ⟨w.heap.size + 1 + 1, 1, none⟩ = some (.bool false) := (hb.cell (by simp)).trans (by go_simp)
  have l1 : w1.frozen? ⟨w.heap.size + 1 + 1, 1, none⟩ = false := (hb.frozen (by simp)).trans (by go_simp)
  have k2 : w1.cell? ⟨w.heap.size + 1 + 1, 2, none⟩ = some (.bool false) := (hb.cell (by simp)).trans (by go_simp)
  have l2 : w1.frozen? ⟨w.heap.size + 1 + 1, 2, none⟩ = false := (hb.frozen (by simp)).trans (by go_simp)
  have k3 : w1.cell? ⟨w.heap.size + 1 + 1, 3, none⟩ = some (.bool false) := (hb.cell (by simp)).trans (by go_simp)
  have l3 : w1.frozen? ⟨w.heap.size + 1 + 1, 3, none⟩ = false := (hb.frozen (by simp)).trans (by go_simp)
  go_wp2
  refine bodyPost_ret (v := .tuple #[.int .u32 Y, .agg #[.bool F.n, .bool F.z, .bool F.c, .bool F.v]]) (by simp [results, Try.results10, go_sem, k0, k1, k2, k3, l0, l1, l2, l3]) rfl ⟨rfl, ?_⟩
  refine Below.setCell (Below.setCell (Below.setCell (Below.setCell (Below.trans ?_ (hb.mono (by simp; omega))) (by simp; omega) _) (by simp; omega) _) (by simp; omega) _) (by simp; omega) _
  exact ((((Below.refl _ _).alloc (Nat.le_refl _) _).alloc (by simp) _).alloc (by simp; omega) _)
set_option maxHeartbeats 1000000 in
theorem do_rsb (code cc a b Y : Int) (F : Fl) (n z c v sh : Bool) (w : World) (a0 : 0 ≤ a) (a1 : a < 4294967296) (b0 : 0 ≤ b) (b1 : b < 4294967296) (na : Int) (hn : Go.bits .xor .u32 IntKind.u32.max a = na) (m0 : 0 ≤ na) (m1 : na < 4294967296) (e1 : Go.bits .and .i64 code 15 = cc) (hc : (cc = 3)) (hF : sumN (b + na + 1) (sg b + sg na + 1) true = (Y, F)) :
    Calls Try.prog 10 #[.int .i64 code, .int .u32 a, .int .u32 b, .agg #[.bool n, .bool z, .bool c, .bool v], .bool sh] w fun e w' => e = .returned (.tuple #[.int .u32 Y, flv F]) ∧ Below w.heap.size w w' := by
  have R := Lib.hid (fun w => by have := sum_any b na 1 true w b0 b1 m0 m1 rfl; rw [hF] at this; exact this)
  clear hF
  rcases hc with rfl
  all_goals
  go_enter Try.func10, Try.ntmps10
  go_wp2_with fail
  refine (R.out _).mono ?_
  rintro e w1 ⟨rfl, hb⟩
  have k0 : w1.cell? ⟨w.heap.size + 1 + 1, 0, none⟩ = some (.bool false) := (hb.cell (by simp)).trans (by go_simp)
  have l0 : w1.frozen? ⟨w.heap.size + 1 + 1, 0, none⟩ = false := (hb.frozen (by simp)).trans (by go_simp)
  have k1 : w1.cell? ⟨w.heap.size + 1 + 1, 1, none⟩ = some (.bool false) := (hb.cell (by simp)).trans (by go_simp)
  have l1 : w1.frozen? ⟨w.heap.size + 1 + 1, 1, none⟩ = false := (hb.frozen (by simp)).trans (by go_simp)
  have k2 : w1.cell? ⟨w.heap.size + 1 + 1, 2, none⟩ = some (.bool false) := (hb.cell (by simp)).trans (by go_simp)
  have l2 : w1.frozen? ⟨w.heap.size + 1 + 1, 2, none⟩ = false := (hb.frozen (by simp)).trans (by go_simp)
  have k3 : w1.cell? ⟨w.heap.size + 1 + 1, 3, none⟩ = some (.bool false) := (hb.cell (by simp)).trans (by go_simp)
  have l3 : w1.frozen? ⟨w.heap.size + 1 + 1, 3, none⟩ = false := (hb.frozen (by simp)).trans (by go_simp)
  go_wp2
  refine bodyPost_ret (v := .tuple #[.int .u32 Y, .agg #[.bool F.n, .bool F.z, .bool F.c, .bool F.v]]) (by simp [results, Try.results10, go_sem, k0, k1, k2, k3, l0, l1, l2, l3]) rfl ⟨rfl, ?_⟩
  refine Below.setCell (Below.setCell (Below.setCell (Below.setCell (Below.trans ?_ (hb.mono (by simp; omega))) (by simp; omega) _) (by simp; omega) _) (by simp; omega) _) (by simp; omega) _
  exact ((((Below.refl _ _).alloc (Nat.le_refl _) _).alloc (by simp) _).alloc (by simp; omega) _)
set_option maxHeartbeats 1000000 in
theorem do_add (code cc a b Y : Int) (F : Fl) (n z c v sh : Bool) (w : World) (a0 : 0 ≤ a) (a1 : a < 4294967296) (b0 : 0 ≤ b) (b1 : b < 4294967296) (e1 : Go.bits .and .i64 code 15 = cc) (hc : (cc = 4 ∨ cc = 11)) (hF : sumN (a + b + 0) (sg a + sg b + 0) true = (Y, F)) :
    Calls Try.prog 10 #[.int .i64 code, .int .u32 a, .int .u32 b, .agg #[.bool n, .bool z, .bool c, .bool v], .bool sh] w fun e w' => e = .returned (.tuple #[.int .u32 Y, flv F]) ∧ Below w.heap.size w w' := by
  have R := Lib.hid (fun w => by have := sum_any a b 0 false w a0 a1 b0 b1 rfl; rw [hF] at this; exact this)
  clear hF
  rcases hc with rfl | rfl
  all_goals
  go_enter Try.func10, Try.ntmps10
  go_wp2_with fail
  refine (R.out _).mono ?_
  rintro e w1 ⟨rfl, hb⟩
  have k0 : w1.cell? ⟨w.heap.size + 1 + 1, 0, none⟩ = some (.bool false) := (hb.cell (by simp)).trans (by go_simp)
  have l0 : w1.frozen? ⟨w.heap.size + 1 + 1, 0, none⟩ = false := (hb.frozen (by simp)).trans (by go_simp)
  have k1 : w1.cell? ⟨w.heap.size + 1 + 1, 1, none⟩ = some (.bool false) := (hb.cell (by simp)).trans (by go_simp)
  have l1 : w1.frozen? ⟨w.heap.size + 1 + 1, 1, none⟩ = false := (hb.frozen (by simp)).trans (by go_simp)
  have k2 : w1.cell? ⟨w.heap.size + 1 + 1, 2, none⟩ = some (.bool false) := (hb.cell (by simp)).trans (by go_simp)
  have l2 : w1.frozen? ⟨w.heap.size + 1 + 1, 2, none⟩ = false := (hb.frozen (by simp)).trans (by go_simp)
  have k3 : w1.cell? ⟨w.heap.size + 1 + 1, 3, none⟩ = some (.bool false) := (hb.cell (by simp)).trans (by go_simp)
  have l3 : w1.frozen? ⟨w.heap.size + 1 + 1, 3, none⟩ = false := (hb.frozen (by simp)).trans (by go_simp)
  go_wp2
  refine bodyPost_ret (v := .tuple #[.int .u32 Y, .agg #[.bool F.n, .bool F.z, .bool F.c, .bool F.v]]) (by simp [results, Try.results10, go_sem, k0, k1, k2, k3, l0, l1, l2, l3]) rfl ⟨rfl, ?_⟩
  refine Below.setCell (Below.setCell (Below.setCell (Below.setCell (Below.trans ?_ (hb.mono (by simp; omega))) (by simp; omega) _) (by simp; omega) _) (by simp; omega) _) (by simp; omega) _
  exact ((((Below.refl _ _).alloc (Nat.le_refl _) _).alloc (by simp) _).alloc (by simp; omega) _)
set_option maxHeartbeats 1000000 in
theorem do_adc (code cc a b Y : Int) (F : Fl) (n z c v sh : Bool) (w : World) (a0 : 0 ≤ a) (a1 : a < 4294967296) (b0 : 0 ≤ b) (b1 : b < 4294967296) (ci : Int) (hci : (if c then 1 else 0) = ci) (e1 : Go.bits .and .i64 code 15 = cc) (hc : (cc = 5)) (hF : sumN (a + b + ci) (sg a + sg b + ci) true = (Y, F)) :
    Calls Try.prog 10 #[.int .i64 code, .int .u32 a, .int .u32 b, .agg #[.bool n, .bool z, .bool c, .bool v], .bool sh] w fun e w' => e = .returned (.tuple #[.int .u32 Y, flv F]) ∧ Below w.heap.size w w' := by
  have R := Lib.hid (fun w => by have := sum_any a b ci c w a0 a1 b0 b1 hci; rw [hF] at this; exact this)
  clear hF hci
  rcases hc with rfl
  all_goals
  go_enter Try.func10, Try.ntmps10
  go_wp2_with fail
  refine (R.out _).mono ?_
  rintro e w1 ⟨rfl, hb⟩
  have k0 : w1.cell? ⟨w.heap.size + 1 + 1, 0, none⟩ = some (.bool false) := (hb.cell (by simp)).trans (by go_simp)
  have l0 : w1.frozen? ⟨w.heap.size + 1 + 1, 0, none⟩ = false := (hb.frozen (by simp)).trans (by go_simp)
  have k1 : w1.cell? ⟨w.heap.size + 1 + 1, 1, none⟩ = some (.bool false) := (hb.cell (by simp)).trans (by go_simp)
  have l1 : w1.frozen? ⟨w.heap.size + 1 + 1, 1, none⟩ = false := (hb.frozen (by simp)).trans (by go_simp)
  have k2 : w1.cell? ⟨w.heap.size + 1 + 1, 2, none⟩ = some (.bool false) := (hb.cell (by simp)).trans (by go_simp)
  have l2 : w1.frozen? ⟨w.heap.size + 1 + 1, 2, none⟩ = false := (hb.frozen (by simp)).trans (by go_simp)
  have k3 : w1.cell? ⟨w.heap.size + 1 + 1, 3, none⟩ = some (.bool false) := (hb.cell (by simp)).trans (by go_simp)
  have l3 : w1.frozen? ⟨w.heap.size + 1 + 1, 3, none⟩ = false := (hb.frozen (by simp)).trans (by go_simp)
  go_wp2
  refine bodyPost_ret (v := .tuple #[.int .u32 Y, .agg #[.bool F.n, .bool F.z, .bool F.c, .bool F.v]]) (by simp [results, Try.results10, go_sem, k0, k1, k2, k3, l0, l1, l2, l3]) rfl ⟨rfl, ?_⟩
  refine Below.setCell (Below.setCell (Below.setCell (Below.setCell (Below.trans ?_ (hb.mono (by simp; omega))) (by simp; omega) _) (by simp; omega) _) (by simp; omega) _) (by simp; omega) _
  exact ((((Below.refl _ _).alloc (Nat.le_refl _) _).alloc (by simp) _).alloc (by simp; omega) _)
set_option maxHeartbeats 1000000 in
theorem do_sbc (code cc a b Y : Int) (F : Fl) (n z c v sh : Bool) (w : World) (a0 : 0 ≤ a) (a1 : a < 4294967296) (b0 : 0 ≤ b) (b1 : b < 4294967296) (nb : Int) (hn : Go.bits .xor .u32 IntKind.u32.max b = nb) (m0 : 0 ≤ nb) (m1 : nb < 4294967296) (ci : Int) (hci : (if c then 1 else 0) = ci) (e1 : Go.bits .and .i64 code 15 = cc) (hc : (cc = 6)) (hF : sumN (a + nb + ci) (sg a + sg nb + ci) true = (Y, F)) :
    Calls Try.prog 10 #[.int .i64 code, .int .u32 a, .int .u32 b, .agg #[.bool n, .bool z, .bool c, .bool v], .bool sh] w fun e w' => e = .returned (.tuple #[.int .u32 Y, flv F]) ∧ Below w.heap.size w w' := by
  have R := Lib.hid (fun w => by have := sum_any a nb ci c w a0 a1 m0 m1 hci; rw [hF] at this; exact this)
  clear hF hci
  rcases hc with rfl
  all_goals
  go_enter Try.func10, Try.ntmps10
  go_wp2_with fail
  refine (R.out _).mono ?_
  rintro e w1 ⟨rfl, hb⟩
  have k0 : w1.cell? ⟨w.heap.size + 1 + 1, 0, none⟩ = some (.bool false) := (hb.cell (by simp)).trans (by go_simp)
  have l0 : w1.frozen? ⟨w.heap.size + 1 + 1, 0, none⟩ = false := (hb.frozen (by simp)).trans (by go_simp)
  have k1 : w1.cell? ⟨w.heap.size + 1 + 1, 1, none⟩ = some (.bool false) := (hb.cell (by simp)).trans (by go_simp)
  have l1 : w1.frozen? ⟨w.heap.size + 1 + 1, 1, none⟩ = false := (hb.frozen (by simp)).trans (by go_simp)
  have k2 : w1.cell? ⟨w.heap.size + 1 + 1, 2, none⟩ = some (.bool false) := (hb.cell (by simp)).trans (by go_simp)
  have l2 : w1.frozen? ⟨w.heap.size + 1 + 1, 2, none⟩ = false := (hb.frozen (by simp)).trans (by go_simp)
  have k3 : w1.cell? ⟨w.heap.size + 1 + 1, 3, none⟩ = some (.bool false) := (hb.cell (by simp)).trans (by go_simp)
  have l3 : w1.frozen? ⟨w.heap.size + 1 + 1, 3, none⟩ = false := (hb.frozen (by simp)).trans (by go_simp)
  go_wp2
  refine bodyPost_ret (v := .tuple #[.int .u32 Y, .agg #[.bool F.n, .bool F.z, .bool F.c, .bool F.v]]) (by simp [results, Try.results10, go_sem, k0, k1, k2, k3, l0, l1, l2, l3]) rfl ⟨rfl, ?_⟩
  refine Below.setCell (Below.setCell (Below.setCell (Below.setCell (Below.trans ?_ (hb.mono (by simp; omega))) (by simp; omega) _) (by simp; omega) _) (by simp; omega) _) (by simp; omega) _
  exact ((((Below.refl _ _).alloc (Nat.le_refl _) _).alloc (by simp) _).alloc (by simp; omega) _)
set_option maxHeartbeats 1000000 in
theorem do_rsc (code cc a b Y : Int) (F : Fl) (n z c v sh : Bool) (w : World) (a0 : 0 ≤ a) (a1 : a < 4294967296) (b0 : 0 ≤ b) (b1 : b < 4294967296) (na : Int) (hn : Go.bits .xor .u32 IntKind.u32.max a = na) (m0 : 0 ≤ na) (m1 : na < 4294967296) (ci : Int) (hci : (if c then 1 else 0) = ci) (e1 : Go.bits .and .i64 code 15 = cc) (hc : (cc = 7)) (hF : sumN (b + na + ci) (sg b + sg na + ci) true = (Y, F)) :
    Calls Try.prog 10 #[.int .i64 code, .int .u32 a, .int .u32 b, .agg #[.bool n, .bool z, .bool c, .bool v], .bool sh] w fun e w' => e = .returned (.tuple #[.int .u32 Y, flv F]) ∧ Below w.heap.size w w' := by
  have R := Lib.hid (fun w => by have := sum_any b na ci c w b0 b1 m0 m1 hci; rw [hF] at this; exact this)
  clear hF hci
  rcases hc with rfl
  all_goals
  go_enter Try.func10, Try.ntmps10
  go_wp2_with fail
  refine (R.out _).mono ?_
  rintro e w1 ⟨rfl, hb⟩
  have k0 : w1.cell? ⟨w.heap.size + 1 + 1, 0, none⟩ = some (.bool false) := (hb.cell (by simp)).trans (by go_simp)
  have l0 : w1.frozen? ⟨w.heap.size + 1 + 1, 0, none⟩ = false := (hb.frozen (by simp)).trans (by go_simp)
  have k1 : w1.cell? ⟨w.heap.size + 1 + 1, 1, none⟩ = some (.bool false) := (hb.cell (by simp)).trans (by go_simp)
  have l1 : w1.frozen? ⟨w.heap.size + 1 + 1, 1, none⟩ = false := (hb.frozen (by simp)).trans (by go_simp)
  have k2 : w1.cell? ⟨w.heap.size + 1 + 1, 2, none⟩ = some (.bool false) := (hb.cell (by simp)).trans (by go_simp)
  have l2 : w1.frozen? ⟨w.heap.size + 1 + 1, 2, none⟩ = false := (hb.frozen (by simp)).trans (by go_simp)
  have k3 : w1.cell? ⟨w.heap.size + 1 + 1, 3, none⟩ = some (.bool false) := (hb.cell (by simp)).trans (by go_simp)
  have l3 : w1.frozen? ⟨w.heap.size + 1 + 1, 3, none⟩ = false := (hb.frozen (by simp)).trans (by go_simp)
  go_wp2
  refine bodyPost_ret (v := .tuple #[.int .u32 Y, .agg #[.bool F.n, .bool F.z, .bool F.c, .bool F.v]]) (by simp [results, Try.results10, go_sem, k0, k1, k2, k3, l0, l1, l2, l3]) rfl ⟨rfl, ?_⟩
  refine Below.setCell (Below.setCell (Below.setCell (Below.setCell (Below.trans ?_ (hb.mono (by simp; omega))) (by simp; omega) _) (by simp; omega) _) (by simp; omega) _) (by simp; omega) _
  exact ((((Below.refl _ _).alloc (Nat.le_refl _) _).alloc (by simp) _).alloc (by simp; omega) _)

/-- The sixteen operations. -/
theorem do_any (code a b : Int) (n z c v sh : Bool) (w : World) (a0 : 0 ≤ a) (a1 : a < 4294967296) (b0 : 0 ≤ b) (b1 : b < 4294967296) :
    Calls Try.prog 10 #[.int .i64 code, .int .u32 a, .int .u32 b, .agg #[.bool n, .bool z, .bool c, .bool v], .bool sh] w fun e w' => e = .returned (.tuple #[.int .u32 (doS (code % 16) a b c v sh).1, flv (doS (code % 16) a b c v sh).2]) ∧ Below w.heap.size w w' := by
  have e1 := and15 code
  have hc : 0 ≤ code % 16 ∧ code % 16 < 16 := by omega
  have ba := bounds_u32 (wf_bits .and .u32 a b)
  have bx := bounds_u32 (wf_bits .xor .u32 a b)
  have bo := bounds_u32 (wf_bits .or .u32 a b)
  have bn := bounds_u32 (wf_bits .andNot .u32 a b)
  have na := not_u32 a0 a1
  have nb := not_u32 b0 b1
  have nt := andNot_u32 a0 a1 b0 b1
  generalize code % 16 = cc at *
  have cs : cc = 0 ∨ cc = 1 ∨ cc = 2 ∨ cc = 3 ∨ cc = 4 ∨ cc = 5 ∨ cc = 6 ∨ cc = 7 ∨ cc = 8 ∨ cc = 9 ∨ cc = 10 ∨ cc = 11 ∨ cc = 12 ∨ cc = 13 ∨ cc = 14 ∨ cc = 15 := by omega
  rcases cs with rfl | rfl | rfl | rfl | rfl | rfl | rfl | rfl | rfl | rfl | rfl | rfl | rfl | rfl | rfl | rfl
  · rw [show doS 0 a b c v sh = logN (Go.bits .and .u32 a b) sh v by simp [doS]]
    exact do_and code 0 a b (Go.bits .and .u32 a b) _ n z c v sh w a0 a1 b0 b1 e1 (by decide) rfl (by omega) (by omega) rfl
  · rw [show doS 1 a b c v sh = logN (Go.bits .xor .u32 a b) sh v by simp [doS]]
    exact do_xor code 1 a b (Go.bits .xor .u32 a b) _ n z c v sh w a0 a1 b0 b1 e1 (by decide) rfl (by omega) (by omega) rfl
  · exact do_sub code 2 a b _ _ n z c v sh w a0 a1 b0 b1 _ nb (by omega) (by omega) e1 (by decide) ((sub_eq a0 a1 b0 b1 1).trans (by simp [doS]))
  · exact do_rsb code 3 a b _ _ n z c v sh w a0 a1 b0 b1 _ na (by omega) (by omega) e1 (by decide) ((sub_eq b0 b1 a0 a1 1).trans (by simp [doS]))
  · exact do_add code 4 a b _ _ n z c v sh w a0 a1 b0 b1 e1 (by decide) (by simp [doS])
  · exact do_adc code 5 a b _ _ n z c v sh w a0 a1 b0 b1 _ rfl e1 (by decide) (by simp [doS])
  · exact do_sbc code 6 a b _ _ n z c v sh w a0 a1 b0 b1 _ nb (by omega) (by omega) _ rfl e1 (by decide) ((sub_eq a0 a1 b0 b1 _).trans (by simp [doS]))
  · exact do_rsc code 7 a b _ _ n z c v sh w a0 a1 b0 b1 _ na (by omega) (by omega) _ rfl e1 (by decide) ((sub_eq b0 b1 a0 a1 _).trans (by simp [doS]))
  · rw [show doS 8 a b c v sh = logN (Go.bits .and .u32 a b) sh v by simp [doS]]
    exact do_and code 8 a b (Go.bits .and .u32 a b) _ n z c v sh w a0 a1 b0 b1 e1 (by decide) rfl (by omega) (by omega) rfl
  · rw [show doS 9 a b c v sh = logN (Go.bits .xor .u32 a b) sh v by simp [doS]]
    exact do_xor code 9 a b (Go.bits .xor .u32 a b) _ n z c v sh w a0 a1 b0 b1 e1 (by decide) rfl (by omega) (by omega) rfl
  · exact do_sub code 10 a b _ _ n z c v sh w a0 a1 b0 b1 _ nb (by omega) (by omega) e1 (by decide) ((sub_eq a0 a1 b0 b1 1).trans (by simp [doS]))
  · exact do_add code 11 a b _ _ n z c v sh w a0 a1 b0 b1 e1 (by decide) (by simp [doS])
  · rw [show doS 12 a b c v sh = logN (Go.bits .or .u32 a b) sh v by simp [doS]]
    exact do_or code 12 a b (Go.bits .or .u32 a b) _ n z c v sh w a0 a1 b0 b1 e1 (by decide) rfl (by omega) (by omega) rfl
  · rw [show doS 13 a b c v sh = logN (b) sh v by simp [doS]]
    exact do_mov code 13 a b (b) _ n z c v sh w a0 a1 b0 b1 e1 (by decide) rfl b0 b1 rfl
  · rw [show doS 14 a b c v sh = logN (Go.bits .and .u32 a (4294967295 - b)) sh v by simp [doS]]
    exact do_bic code 14 a b (Go.bits .and .u32 a (4294967295 - b)) _ n z c v sh w a0 a1 b0 b1 e1 (by decide) nt (by rw [← nt]; omega) (by rw [← nt]; omega) rfl
  · rw [show doS 15 a b c v sh = logN (4294967295 - b) sh v by simp [doS]]
    exact do_mvn code 15 a b (4294967295 - b) _ n z c v sh w a0 a1 b0 b1 e1 (by decide) nb (by omega) (by omega) rfl
end Go.Proofs.Ytgpcgamhlcihkaa.Aw
