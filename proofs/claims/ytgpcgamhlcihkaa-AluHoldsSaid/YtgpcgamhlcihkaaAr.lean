/- The reference's operations, walked. -/
import Derived.Test.YtgpcgamhlcihkaaAw
namespace Go.Proofs.Ytgpcgamhlcihkaa.Aw
set_option linter.unusedVariables false
set_option linter.unusedSimpArgs false
open Go.RowKit Go.Proofs.Ytgpcgamhlcihkaa.Bt Go.Proofs.Ytgpcgamhlcihkaa.Am

set_option maxHeartbeats 1000000 in
theorem signed_any (x : Int) (w : World) (x0 : 0 ≤ x) (x1 : x < 4294967296) : Calls Try.prog 24 #[.int .u32 x] w fun e w' => e = .returned (.int .i64 (sg x)) ∧ w = w' := by
  by_cases c : 2147483648 ≤ x
  · have H := Lib.hid (show x - 4294967296 = sg x by unfold sg; rw [if_neg (by omega)])
    go_enter Try.func24, Try.ntmps24
    go_wp2
    go_ret
    exact ⟨ret_i H.out, rfl⟩
  · have H := Lib.hid (show x = sg x by unfold sg; rw [if_pos (by omega)])
    go_enter Try.func24, Try.ntmps24
    go_wp2
    go_ret
    exact ⟨ret_i H.out, rfl⟩
set_option maxHeartbeats 1000000 in
theorem rsum_pa (n s : Int) (plus : Bool) (w : World) (n0 : 0 ≤ n) (n1 : n < 8589934592) (s0 : s < -2147483648) (s1 : -8589934592 ≤ s) :
    Calls Try.prog 25 #[.int .i64 n, .int .i64 s, .bool plus] w fun e w' => e = .returned (.tuple #[.int .u32 (sumN n s plus).1, flv (sumN n s plus).2]) ∧ Below w.heap.size w w' := by
  have hy : n % 4294967296 = n % 4294967296 := by omega
  have h0 : 0 ≤ n % 4294967296 ∧ n % 4294967296 < 4294967296 := by omega
  have hv : decide (s < -2147483648 ∨ 2147483648 ≤ s) = true := by simp; omega
  have hs : s < 2147483648 ∨ 2147483648 ≤ s := by omega
  clear hy hv hs
  obtain ⟨h0, h1⟩ := h0
  cases plus
  · go_enter Try.func25, Try.ntmps25
    go_wp2
    refine bodyPost_ret (v := .tuple #[.int .u32 (n % 4294967296), .agg #[.bool (decide (2147483648 ≤ n % 4294967296)), .bool (n % 4294967296 == 0), .bool (true), .bool true]]) (by first | (simp [results, Try.results25, go_sem]; done) | (simp [results, Try.results25, go_sem]; omega)) rfl ⟨?_, ((Below.refl _ _).alloc (Nat.le_refl _) _)⟩
    apply ret_fl <;> first | rfl | (simp [sumN, fl4]; done) | (simp [sumN, fl4]; omega) | (simp only [sumN, fl4, beq_eq_decide, decide_eq_decide]; omega)
  · go_enter Try.func25, Try.ntmps25
    go_wp2
    refine bodyPost_ret (v := .tuple #[.int .u32 (n % 4294967296), .agg #[.bool (decide (2147483648 ≤ n % 4294967296)), .bool (n % 4294967296 == 0), .bool (decide (4294967296 ≤ n)), .bool true]]) (by first | (simp [results, Try.results25, go_sem]; done) | (simp [results, Try.results25, go_sem]; omega)) rfl ⟨?_, ((Below.refl _ _).alloc (Nat.le_refl _) _)⟩
    apply ret_fl <;> first | rfl | (simp [sumN, fl4]; done) | (simp [sumN, fl4]; omega) | (simp only [sumN, fl4, beq_eq_decide, decide_eq_decide]; omega)
set_option maxHeartbeats 1000000 in
theorem rsum_pb (n s : Int) (plus : Bool) (w : World) (n0 : 0 ≤ n) (n1 : n < 8589934592) (s0 : 2147483648 ≤ s) (s1 : s < 8589934592) :
    Calls Try.prog 25 #[.int .i64 n, .int .i64 s, .bool plus] w fun e w' => e = .returned (.tuple #[.int .u32 (sumN n s plus).1, flv (sumN n s plus).2]) ∧ Below w.heap.size w w' := by
  have hy : n % 4294967296 = n % 4294967296 := by omega
  have h0 : 0 ≤ n % 4294967296 ∧ n % 4294967296 < 4294967296 := by omega
  have hv : decide (s < -2147483648 ∨ 2147483648 ≤ s) = true := by simp; omega
  have hs : s < 2147483648 ∨ 2147483648 ≤ s := by omega
  clear hy hv hs
  obtain ⟨h0, h1⟩ := h0
  cases plus
  · go_enter Try.func25, Try.ntmps25
    go_wp2
    refine bodyPost_ret (v := .tuple #[.int .u32 (n % 4294967296), .agg #[.bool (decide (2147483648 ≤ n % 4294967296)), .bool (n % 4294967296 == 0), .bool (true), .bool true]]) (by first | (simp [results, Try.results25, go_sem]; done) | (simp [results, Try.results25, go_sem]; omega)) rfl ⟨?_, ((Below.refl _ _).alloc (Nat.le_refl _) _)⟩
    apply ret_fl <;> first | rfl | (simp [sumN, fl4]; done) | (simp [sumN, fl4]; omega) | (simp only [sumN, fl4, beq_eq_decide, decide_eq_decide]; omega)
  · go_enter Try.func25, Try.ntmps25
    go_wp2
    refine bodyPost_ret (v := .tuple #[.int .u32 (n % 4294967296), .agg #[.bool (decide (2147483648 ≤ n % 4294967296)), .bool (n % 4294967296 == 0), .bool (decide (4294967296 ≤ n)), .bool true]]) (by first | (simp [results, Try.results25, go_sem]; done) | (simp [results, Try.results25, go_sem]; omega)) rfl ⟨?_, ((Below.refl _ _).alloc (Nat.le_refl _) _)⟩
    apply ret_fl <;> first | rfl | (simp [sumN, fl4]; done) | (simp [sumN, fl4]; omega) | (simp only [sumN, fl4, beq_eq_decide, decide_eq_decide]; omega)
set_option maxHeartbeats 1000000 in
theorem rsum_pc (n s : Int) (plus : Bool) (w : World) (n0 : 0 ≤ n) (n1 : n < 8589934592) (s0 : -2147483648 ≤ s) (s1 : s < 2147483648) :
    Calls Try.prog 25 #[.int .i64 n, .int .i64 s, .bool plus] w fun e w' => e = .returned (.tuple #[.int .u32 (sumN n s plus).1, flv (sumN n s plus).2]) ∧ Below w.heap.size w w' := by
  have hy : n % 4294967296 = n % 4294967296 := by omega
  have h0 : 0 ≤ n % 4294967296 ∧ n % 4294967296 < 4294967296 := by omega
  have hv : decide (s < -2147483648 ∨ 2147483648 ≤ s) = false := by simp; omega
  have hs : s < 2147483648 ∨ 2147483648 ≤ s := by omega
  clear hy hv hs
  obtain ⟨h0, h1⟩ := h0
  cases plus
  · go_enter Try.func25, Try.ntmps25
    go_wp2
    refine bodyPost_ret (v := .tuple #[.int .u32 (n % 4294967296), .agg #[.bool (decide (2147483648 ≤ n % 4294967296)), .bool (n % 4294967296 == 0), .bool (true), .bool false]]) (by first | (simp [results, Try.results25, go_sem]; done) | (simp [results, Try.results25, go_sem]; omega)) rfl ⟨?_, ((Below.refl _ _).alloc (Nat.le_refl _) _)⟩
    apply ret_fl <;> first | rfl | (simp [sumN, fl4]; done) | (simp [sumN, fl4]; omega) | (simp only [sumN, fl4, beq_eq_decide, decide_eq_decide]; omega)
  · go_enter Try.func25, Try.ntmps25
    go_wp2
    refine bodyPost_ret (v := .tuple #[.int .u32 (n % 4294967296), .agg #[.bool (decide (2147483648 ≤ n % 4294967296)), .bool (n % 4294967296 == 0), .bool (decide (4294967296 ≤ n)), .bool false]]) (by first | (simp [results, Try.results25, go_sem]; done) | (simp [results, Try.results25, go_sem]; omega)) rfl ⟨?_, ((Below.refl _ _).alloc (Nat.le_refl _) _)⟩
    apply ret_fl <;> first | rfl | (simp [sumN, fl4]; done) | (simp [sumN, fl4]; omega) | (simp only [sumN, fl4, beq_eq_decide, decide_eq_decide]; omega)
set_option maxHeartbeats 1000000 in
theorem rsum_ma (n s : Int) (plus : Bool) (w : World) (n0 : n < 0) (n1 : -4294967296 ≤ n) (s0 : s < -2147483648) (s1 : -8589934592 ≤ s) :
    Calls Try.prog 25 #[.int .i64 n, .int .i64 s, .bool plus] w fun e w' => e = .returned (.tuple #[.int .u32 (sumN n s plus).1, flv (sumN n s plus).2]) ∧ Below w.heap.size w w' := by
  have hy : n + 4294967296 = n % 4294967296 := by omega
  have h0 : 0 ≤ n + 4294967296 ∧ n + 4294967296 < 4294967296 := by omega
  have hv : decide (s < -2147483648 ∨ 2147483648 ≤ s) = true := by simp; omega
  have hs : s < 2147483648 ∨ 2147483648 ≤ s := by omega
  clear hy hv hs
  obtain ⟨h0, h1⟩ := h0
  cases plus
  · go_enter Try.func25, Try.ntmps25
    go_wp2
    refine bodyPost_ret (v := .tuple #[.int .u32 (n + 4294967296), .agg #[.bool (decide (2147483648 ≤ n + 4294967296)), .bool (n + 4294967296 == 0), .bool (false), .bool true]]) (by first | (simp [results, Try.results25, go_sem]; done) | (simp [results, Try.results25, go_sem]; omega)) rfl ⟨?_, ((Below.refl _ _).alloc (Nat.le_refl _) _)⟩
    apply ret_fl <;> first | rfl | (simp [sumN, fl4]; done) | (simp [sumN, fl4]; omega) | (simp only [sumN, fl4, beq_eq_decide, decide_eq_decide]; omega)
  · go_enter Try.func25, Try.ntmps25
    go_wp2
    refine bodyPost_ret (v := .tuple #[.int .u32 (n + 4294967296), .agg #[.bool (decide (2147483648 ≤ n + 4294967296)), .bool (n + 4294967296 == 0), .bool (false), .bool true]]) (by first | (simp [results, Try.results25, go_sem]; done) | (simp [results, Try.results25, go_sem]; omega)) rfl ⟨?_, ((Below.refl _ _).alloc (Nat.le_refl _) _)⟩
    apply ret_fl <;> first | rfl | (simp [sumN, fl4]; done) | (simp [sumN, fl4]; omega) | (simp only [sumN, fl4, beq_eq_decide, decide_eq_decide]; omega)
set_option maxHeartbeats 1000000 in
theorem rsum_mb (n s : Int) (plus : Bool) (w : World) (n0 : n < 0) (n1 : -4294967296 ≤ n) (s0 : 2147483648 ≤ s) (s1 : s < 8589934592) :
    Calls Try.prog 25 #[.int .i64 n, .int .i64 s, .bool plus] w fun e w' => e = .returned (.tuple #[.int .u32 (sumN n s plus).1, flv (sumN n s plus).2]) ∧ Below w.heap.size w w' := by
  have hy : n + 4294967296 = n % 4294967296 := by omega
  have h0 : 0 ≤ n + 4294967296 ∧ n + 4294967296 < 4294967296 := by omega
  have hv : decide (s < -2147483648 ∨ 2147483648 ≤ s) = true := by simp; omega
  have hs : s < 2147483648 ∨ 2147483648 ≤ s := by omega
  clear hy hv hs
  obtain ⟨h0, h1⟩ := h0
  cases plus
  · go_enter Try.func25, Try.ntmps25
    go_wp2
    refine bodyPost_ret (v := .tuple #[.int .u32 (n + 4294967296), .agg #[.bool (decide (2147483648 ≤ n + 4294967296)), .bool (n + 4294967296 == 0), .bool (false), .bool true]]) (by first | (simp [results, Try.results25, go_sem]; done) | (simp [results, Try.results25, go_sem]; omega)) rfl ⟨?_, ((Below.refl _ _).alloc (Nat.le_refl _) _)⟩
    apply ret_fl <;> first | rfl | (simp [sumN, fl4]; done) | (simp [sumN, fl4]; omega) | (simp only [sumN, fl4, beq_eq_decide, decide_eq_decide]; omega)
  · go_enter Try.func25, Try.ntmps25
    go_wp2
    refine bodyPost_ret (v := .tuple #[.int .u32 (n + 4294967296), .agg #[.bool (decide (2147483648 ≤ n + 4294967296)), .bool (n + 4294967296 == 0), .bool (false), .bool true]]) (by first | (simp [results, Try.results25, go_sem]; done) | (simp [results, Try.results25, go_sem]; omega)) rfl ⟨?_, ((Below.refl _ _).alloc (Nat.le_refl _) _)⟩
    apply ret_fl <;> first | rfl | (simp [sumN, fl4]; done) | (simp [sumN, fl4]; omega) | (simp only [sumN, fl4, beq_eq_decide, decide_eq_decide]; omega)
set_option maxHeartbeats 1000000 in
theorem rsum_mc (n s : Int) (plus : Bool) (w : World) (n0 : n < 0) (n1 : -4294967296 ≤ n) (s0 : -2147483648 ≤ s) (s1 : s < 2147483648) :
    Calls Try.prog 25 #[.int .i64 n, .int .i64 s, .bool plus] w fun e w' => e = .returned (.tuple #[.int .u32 (sumN n s plus).1, flv (sumN n s plus).2]) ∧ Below w.heap.size w w' := by
  have hy : n + 4294967296 = n % 4294967296 := by omega
  have h0 : 0 ≤ n + 4294967296 ∧ n + 4294967296 < 4294967296 := by omega
  have hv : decide (s < -2147483648 ∨ 2147483648 ≤ s) = false := by simp; omega
  have hs : s < 2147483648 ∨ 2147483648 ≤ s := by omega
  clear hy hv hs
  obtain ⟨h0, h1⟩ := h0
  cases plus
  · go_enter Try.func25, Try.ntmps25
    go_wp2
    refine bodyPost_ret (v := .tuple #[.int .u32 (n + 4294967296), .agg #[.bool (decide (2147483648 ≤ n + 4294967296)), .bool (n + 4294967296 == 0), .bool (false), .bool false]]) (by first | (simp [results, Try.results25, go_sem]; done) | (simp [results, Try.results25, go_sem]; omega)) rfl ⟨?_, ((Below.refl _ _).alloc (Nat.le_refl _) _)⟩
    apply ret_fl <;> first | rfl | (simp [sumN, fl4]; done) | (simp [sumN, fl4]; omega) | (simp only [sumN, fl4, beq_eq_decide, decide_eq_decide]; omega)
  · go_enter Try.func25, Try.ntmps25
    go_wp2
    refine bodyPost_ret (v := .tuple #[.int .u32 (n + 4294967296), .agg #[.bool (decide (2147483648 ≤ n + 4294967296)), .bool (n + 4294967296 == 0), .bool (false), .bool false]]) (by first | (simp [results, Try.results25, go_sem]; done) | (simp [results, Try.results25, go_sem]; omega)) rfl ⟨?_, ((Below.refl _ _).alloc (Nat.le_refl _) _)⟩
    apply ret_fl <;> first | rfl | (simp [sumN, fl4]; done) | (simp [sumN, fl4]; omega) | (simp only [sumN, fl4, beq_eq_decide, decide_eq_decide]; omega)
theorem rsum_any (n s : Int) (plus : Bool) (w : World) (n0 : -4294967296 ≤ n) (n1 : n < 8589934592) (s0 : -8589934592 ≤ s) (s1 : s < 8589934592) :
    Calls Try.prog 25 #[.int .i64 n, .int .i64 s, .bool plus] w fun e w' => e = .returned (.tuple #[.int .u32 (sumN n s plus).1, flv (sumN n s plus).2]) ∧ Below w.heap.size w w' := by
  by_cases c : 0 ≤ n
  · by_cases d : s < -2147483648
    · exact rsum_pa n s plus w c n1 d s0
    · by_cases e : 2147483648 ≤ s
      · exact rsum_pb n s plus w c n1 e s1
      · exact rsum_pc n s plus w c n1 (by omega) (by omega)
  · by_cases d : s < -2147483648
    · exact rsum_ma n s plus w (by omega) n0 d s0
    · by_cases e : 2147483648 ≤ s
      · exact rsum_mb n s plus w (by omega) n0 e s1
      · exact rsum_mc n s plus w (by omega) n0 (by omega) (by omega)
set_option maxHeartbeats 1000000 in
theorem rdo_2 (code cc a b : Int) (n z c v sh : Bool) (w : World) (a0 : 0 ≤ a) (a1 : a < 4294967296) (b0 : 0 ≤ b) (b1 : b < 4294967296) (e1 : Go.bits .and .i64 code 15 = 2) (hc : cc = 2) :
    Calls Try.prog 11 #[.int .i64 code, .int .u32 a, .int .u32 b, .agg #[.bool n, .bool z, .bool c, .bool v], .bool sh] w fun e w' => e = .returned (.tuple #[.int .u32 (doS cc a b c v sh).1, flv (doS cc a b c v sh).2]) ∧ Below w.heap.size w w' := by
  obtain ⟨p, hp⟩ : ∃ p, sg a = p := ⟨_, rfl⟩
  obtain ⟨q, hq⟩ : ∃ q, sg b = q := ⟨_, rfl⟩
  have p0 : -2147483648 ≤ p ∧ p < 2147483648 := by rw [← hp]; unfold sg; split <;> omega
  have q0 : -2147483648 ≤ q ∧ q < 2147483648 := by rw [← hq]; unfold sg; split <;> omega
  obtain ⟨p0, p1⟩ := p0
  obtain ⟨q0, q1⟩ := q0
  have RA := Lib.hid (fun w => by have := signed_any a w a0 a1; rw [hp] at this; exact this)
  have RB := Lib.hid (fun w => by have := signed_any b w b0 b1; rw [hq] at this; exact this)
  have HP := Lib.hid hp
  have HQ := Lib.hid hq
  have HC := Lib.hid hc
  clear hp hq hc
  cases c
  all_goals
    go_enter Try.func11, Try.ntmps11
    go_wp2_with (first
      | (go_at_call 24; ((with_reducible refine (RA.out _).mono ?_); rintro e w' ⟨rfl, rfl⟩))
      | (go_at_call 24; ((with_reducible refine (RB.out _).mono ?_); rintro e w' ⟨rfl, rfl⟩)))
    refine (rsum_any _ _ _ _ (by omega) (by omega) (by omega) (by omega)).mono ?_
    rintro e w1 ⟨rfl, hb⟩
    generalize hF : sumN _ _ _ = F
    have HF := Lib.hid hF
    clear hF
    have k0 : w1.cell? ⟨w.heap.size + 1, 0, none⟩ = some (.bool false) := (hb.cell (by simp)).trans (by go_simp)
    have l0 : w1.frozen? ⟨w.heap.size + 1, 0, none⟩ = false := (hb.frozen (by simp)).trans (by go_simp)
    have k1 : w1.cell? ⟨w.heap.size + 1, 1, none⟩ = some (.bool false) := (hb.cell (by simp)).trans (by go_simp)
    have l1 : w1.frozen? ⟨w.heap.size + 1, 1, none⟩ = false := (hb.frozen (by simp)).trans (by go_simp)
    have k2 : w1.cell? ⟨w.heap.size + 1, 2, none⟩ = some (.bool false) := (hb.cell (by simp)).trans (by go_simp)
    have l2 : w1.frozen? ⟨w.heap.size + 1, 2, none⟩ = false := (hb.frozen (by simp)).trans (by go_simp)
    have k3 : w1.cell? ⟨w.heap.size + 1, 3, none⟩ = some (.bool false) := (hb.cell (by simp)).trans (by go_simp)
    have l3 : w1.frozen? ⟨w.heap.size + 1, 3, none⟩ = false := (hb.frozen (by simp)).trans (by go_simp)
    go_wp2
    refine bodyPost_ret (v := .tuple #[.int .u32 F.1, flv F.2]) (by simp [results, Try.results11, go_sem, k0, k1, k2, k3, l0, l1, l2, l3]) rfl ⟨?_, ?_⟩
    · rw [← HF.out, HC.out, ← HP.out, ← HQ.out]; simp [doS]
    · refine Below.setCell (Below.setCell (Below.setCell (Below.setCell (Below.trans ?_ (hb.mono (by simp; omega))) (by simp) _) (by simp) _) (by simp) _) (by simp) _
      exact (((Below.refl _ _).alloc (Nat.le_refl _) _).alloc (by simp) _)
set_option maxHeartbeats 1000000 in
theorem rdo_3 (code cc a b : Int) (n z c v sh : Bool) (w : World) (a0 : 0 ≤ a) (a1 : a < 4294967296) (b0 : 0 ≤ b) (b1 : b < 4294967296) (e1 : Go.bits .and .i64 code 15 = 3) (hc : cc = 3) :
    Calls Try.prog 11 #[.int .i64 code, .int .u32 a, .int .u32 b, .agg #[.bool n, .bool z, .bool c, .bool v], .bool sh] w fun e w' => e = .returned (.tuple #[.int .u32 (doS cc a b c v sh).1, flv (doS cc a b c v sh).2]) ∧ Below w.heap.size w w' := by
  obtain ⟨p, hp⟩ : ∃ p, sg a = p := ⟨_, rfl⟩
  obtain ⟨q, hq⟩ : ∃ q, sg b = q := ⟨_, rfl⟩
  have p0 : -2147483648 ≤ p ∧ p < 2147483648 := by rw [← hp]; unfold sg; split <;> omega
  have q0 : -2147483648 ≤ q ∧ q < 2147483648 := by rw [← hq]; unfold sg; split <;> omega
  obtain ⟨p0, p1⟩ := p0
  obtain ⟨q0, q1⟩ := q0
  have RA := Lib.hid (fun w => by have := signed_any a w a0 a1; rw [hp] at this; exact this)
  have RB := Lib.hid (fun w => by have := signed_any b w b0 b1; rw [hq] at this; exact this)
  have HP := Lib.hid hp
  have HQ := Lib.hid hq
  have HC := Lib.hid hc
  clear hp hq hc
  cases c
  all_goals
    go_enter Try.func11, Try.ntmps11
    go_wp2_with (first
      | (go_at_call 24; ((with_reducible refine (RA.out _).mono ?_); rintro e w' ⟨rfl, rfl⟩))
      | (go_at_call 24; ((with_reducible refine (RB.out _).mono ?_); rintro e w' ⟨rfl, rfl⟩)))
    refine (rsum_any _ _ _ _ (by omega) (by omega) (by omega) (by omega)).mono ?_
    rintro e w1 ⟨rfl, hb⟩
    generalize hF : sumN _ _ _ = F
    have HF := Lib.hid hF
    clear hF
    have k0 : w1.cell? ⟨w.heap.size + 1, 0, none⟩ = some (.bool false) := (hb.cell (by simp)).trans (by go_simp)
    have l0 : w1.frozen? ⟨w.heap.size + 1, 0, none⟩ = false := (hb.frozen (by simp)).trans (by go_simp)
    have k1 : w1.cell? ⟨w.heap.size + 1, 1, none⟩ = some (.bool false) := (hb.cell (by simp)).trans (by go_simp)
    have l1 : w1.frozen? ⟨w.heap.size + 1, 1, none⟩ = false := (hb.frozen (by simp)).trans (by go_simp)
    have k2 : w1.cell? ⟨w.heap.size + 1, 2, none⟩ = some (.bool false) := (hb.cell (by simp)).trans (by go_simp)
    have l2 : w1.frozen? ⟨w.heap.size + 1, 2, none⟩ = false := (hb.frozen (by simp)).trans (by go_simp)
    have k3 : w1.cell? ⟨w.heap.size + 1, 3, none⟩ = some (.bool false) := (hb.cell (by simp)).trans (by go_simp)
    have l3 : w1.frozen? ⟨w.heap.size + 1, 3, none⟩ = false := (hb.frozen (by simp)).trans (by go_simp)
    go_wp2
    refine bodyPost_ret (v := .tuple #[.int .u32 F.1, flv F.2]) (by simp [results, Try.results11, go_sem, k0, k1, k2, k3, l0, l1, l2, l3]) rfl ⟨?_, ?_⟩
    · rw [← HF.out, HC.out, ← HP.out, ← HQ.out]; simp [doS]
    · refine Below.setCell (Below.setCell (Below.setCell (Below.setCell (Below.trans ?_ (hb.mono (by simp; omega))) (by simp) _) (by simp) _) (by simp) _) (by simp) _
      exact (((Below.refl _ _).alloc (Nat.le_refl _) _).alloc (by simp) _)
set_option maxHeartbeats 1000000 in
theorem rdo_4 (code cc a b : Int) (n z c v sh : Bool) (w : World) (a0 : 0 ≤ a) (a1 : a < 4294967296) (b0 : 0 ≤ b) (b1 : b < 4294967296) (e1 : Go.bits .and .i64 code 15 = 4) (hc : cc = 4) :
    Calls Try.prog 11 #[.int .i64 code, .int .u32 a, .int .u32 b, .agg #[.bool n, .bool z, .bool c, .bool v], .bool sh] w fun e w' => e = .returned (.tuple #[.int .u32 (doS cc a b c v sh).1, flv (doS cc a b c v sh).2]) ∧ Below w.heap.size w w' := by
  obtain ⟨p, hp⟩ : ∃ p, sg a = p := ⟨_, rfl⟩
  obtain ⟨q, hq⟩ : ∃ q, sg b = q := ⟨_, rfl⟩
  have p0 : -2147483648 ≤ p ∧ p < 2147483648 := by rw [← hp]; unfold sg; split <;> omega
  have q0 : -2147483648 ≤ q ∧ q < 2147483648 := by rw [← hq]; unfold sg; split <;> omega
  obtain ⟨p0, p1⟩ := p0
  obtain ⟨q0, q1⟩ := q0
  have RA := Lib.hid (fun w => by have := signed_any a w a0 a1; rw [hp] at this; exact this)
  have RB := Lib.hid (fun w => by have := signed_any b w b0 b1; rw [hq] at this; exact this)
  have HP := Lib.hid hp
  have HQ := Lib.hid hq
  have HC := Lib.hid hc
  clear hp hq hc
  cases c
  all_goals
    go_enter Try.func11, Try.ntmps11
    go_wp2_with (first
      | (go_at_call 24; ((with_reducible refine (RA.out _).mono ?_); rintro e w' ⟨rfl, rfl⟩))
      | (go_at_call 24; ((with_reducible refine (RB.out _).mono ?_); rintro e w' ⟨rfl, rfl⟩)))
    refine (rsum_any _ _ _ _ (by omega) (by omega) (by omega) (by omega)).mono ?_
    rintro e w1 ⟨rfl, hb⟩
    generalize hF : sumN _ _ _ = F
    have HF := Lib.hid hF
    clear hF
    have k0 : w1.cell? ⟨w.heap.size + 1, 0, none⟩ = some (.bool false) := (hb.cell (by simp)).trans (by go_simp)
    have l0 : w1.frozen? ⟨w.heap.size + 1, 0, none⟩ = false := (hb.frozen (by simp)).trans (by go_simp)
    have k1 : w1.cell? ⟨w.heap.size + 1, 1, none⟩ = some (.bool false) := (hb.cell (by simp)).trans (by go_simp)
    have l1 : w1.frozen? ⟨w.heap.size + 1, 1, none⟩ = false := (hb.frozen (by simp)).trans (by go_simp)
    have k2 : w1.cell? ⟨w.heap.size + 1, 2, none⟩ = some (.bool false) := (hb.cell (by simp)).trans (by go_simp)
    have l2 : w1.frozen? ⟨w.heap.size + 1, 2, none⟩ = false := (hb.frozen (by simp)).trans (by go_simp)
    have k3 : w1.cell? ⟨w.heap.size + 1, 3, none⟩ = some (.bool false) := (hb.cell (by simp)).trans (by go_simp)
    have l3 : w1.frozen? ⟨w.heap.size + 1, 3, none⟩ = false := (hb.frozen (by simp)).trans (by go_simp)
    go_wp2
    refine bodyPost_ret (v := .tuple #[.int .u32 F.1, flv F.2]) (by simp [results, Try.results11, go_sem, k0, k1, k2, k3, l0, l1, l2, l3]) rfl ⟨?_, ?_⟩
    · rw [← HF.out, HC.out, ← HP.out, ← HQ.out]; simp [doS]
    · refine Below.setCell (Below.setCell (Below.setCell (Below.setCell (Below.trans ?_ (hb.mono (by simp; omega))) (by simp) _) (by simp) _) (by simp) _) (by simp) _
      exact (((Below.refl _ _).alloc (Nat.le_refl _) _).alloc (by simp) _)
set_option maxHeartbeats 1000000 in
theorem rdo_5 (code cc a b : Int) (n z c v sh : Bool) (w : World) (a0 : 0 ≤ a) (a1 : a < 4294967296) (b0 : 0 ≤ b) (b1 : b < 4294967296) (e1 : Go.bits .and .i64 code 15 = 5) (hc : cc = 5) :
    Calls Try.prog 11 #[.int .i64 code, .int .u32 a, .int .u32 b, .agg #[.bool n, .bool z, .bool c, .bool v], .bool sh] w fun e w' => e = .returned (.tuple #[.int .u32 (doS cc a b c v sh).1, flv (doS cc a b c v sh).2]) ∧ Below w.heap.size w w' := by
  obtain ⟨p, hp⟩ : ∃ p, sg a = p := ⟨_, rfl⟩
  obtain ⟨q, hq⟩ : ∃ q, sg b = q := ⟨_, rfl⟩
  have p0 : -2147483648 ≤ p ∧ p < 2147483648 := by rw [← hp]; unfold sg; split <;> omega
  have q0 : -2147483648 ≤ q ∧ q < 2147483648 := by rw [← hq]; unfold sg; split <;> omega
  obtain ⟨p0, p1⟩ := p0
  obtain ⟨q0, q1⟩ := q0
  have RA := Lib.hid (fun w => by have := signed_any a w a0 a1; rw [hp] at this; exact this)
  have RB := Lib.hid (fun w => by have := signed_any b w b0 b1; rw [hq] at this; exact this)
  have HP := Lib.hid hp
  have HQ := Lib.hid hq
  have HC := Lib.hid hc
  clear hp hq hc
  cases c
  all_goals
    go_enter Try.func11, Try.ntmps11
    go_wp2_with (first
      | (go_at_call 24; ((with_reducible refine (RA.out _).mono ?_); rintro e w' ⟨rfl, rfl⟩))
      | (go_at_call 24; ((with_reducible refine (RB.out _).mono ?_); rintro e w' ⟨rfl, rfl⟩)))
    refine (rsum_any _ _ _ _ (by omega) (by omega) (by omega) (by omega)).mono ?_
    rintro e w1 ⟨rfl, hb⟩
    generalize hF : sumN _ _ _ = F
    have HF := Lib.hid hF
    clear hF
    have k0 : w1.cell? ⟨w.heap.size + 1, 0, none⟩ = some (.bool false) := (hb.cell (by simp)).trans (by go_simp)
    have l0 : w1.frozen? ⟨w.heap.size + 1, 0, none⟩ = false := (hb.frozen (by simp)).trans (by go_simp)
    have k1 : w1.cell? ⟨w.heap.size + 1, 1, none⟩ = some (.bool false) := (hb.cell (by simp)).trans (by go_simp)
    have l1 : w1.frozen? ⟨w.heap.size + 1, 1, none⟩ = false := (hb.frozen (by simp)).trans (by go_simp)
    have k2 : w1.cell? ⟨w.heap.size + 1, 2, none⟩ = some (.bool false) := (hb.cell (by simp)).trans (by go_simp)
    have l2 : w1.frozen? ⟨w.heap.size + 1, 2, none⟩ = false := (hb.frozen (by simp)).trans (by go_simp)
    have k3 : w1.cell? ⟨w.heap.size + 1, 3, none⟩ = some (.bool false) := (hb.cell (by simp)).trans (by go_simp)
    have l3 : w1.frozen? ⟨w.heap.size + 1, 3, none⟩ = false := (hb.frozen (by simp)).trans (by go_simp)
    go_wp2
    refine bodyPost_ret (v := .tuple #[.int .u32 F.1, flv F.2]) (by simp [results, Try.results11, go_sem, k0, k1, k2, k3, l0, l1, l2, l3]) rfl ⟨?_, ?_⟩
    · rw [← HF.out, HC.out, ← HP.out, ← HQ.out]; simp [doS]
    · refine Below.setCell (Below.setCell (Below.setCell (Below.setCell (Below.trans ?_ (hb.mono (by simp; omega))) (by simp) _) (by simp) _) (by simp) _) (by simp) _
      exact (((Below.refl _ _).alloc (Nat.le_refl _) _).alloc (by simp) _)
set_option maxHeartbeats 1000000 in
theorem rdo_6 (code cc a b : Int) (n z c v sh : Bool) (w : World) (a0 : 0 ≤ a) (a1 : a < 4294967296) (b0 : 0 ≤ b) (b1 : b < 4294967296) (e1 : Go.bits .and .i64 code 15 = 6) (hc : cc = 6) :
    Calls Try.prog 11 #[.int .i64 code, .int .u32 a, .int .u32 b, .agg #[.bool n, .bool z, .bool c, .bool v], .bool sh] w fun e w' => e = .returned (.tuple #[.int .u32 (doS cc a b c v sh).1, flv (doS cc a b c v sh).2]) ∧ Below w.heap.size w w' := by
  obtain ⟨p, hp⟩ : ∃ p, sg a = p := ⟨_, rfl⟩
  obtain ⟨q, hq⟩ : ∃ q, sg b = q := ⟨_, rfl⟩
  have p0 : -2147483648 ≤ p ∧ p < 2147483648 := by rw [← hp]; unfold sg; split <;> omega
  have q0 : -2147483648 ≤ q ∧ q < 2147483648 := by rw [← hq]; unfold sg; split <;> omega
  obtain ⟨p0, p1⟩ := p0
  obtain ⟨q0, q1⟩ := q0
  have RA := Lib.hid (fun w => by have := signed_any a w a0 a1; rw [hp] at this; exact this)
  have RB := Lib.hid (fun w => by have := signed_any b w b0 b1; rw [hq] at this; exact this)
  have HP := Lib.hid hp
  have HQ := Lib.hid hq
  have HC := Lib.hid hc
  clear hp hq hc
  cases c
  all_goals
    go_enter Try.func11, Try.ntmps11
    go_wp2_with (first
      | (go_at_call 24; ((with_reducible refine (RA.out _).mono ?_); rintro e w' ⟨rfl, rfl⟩))
      | (go_at_call 24; ((with_reducible refine (RB.out _).mono ?_); rintro e w' ⟨rfl, rfl⟩)))
    refine (rsum_any _ _ _ _ (by omega) (by omega) (by omega) (by omega)).mono ?_
    rintro e w1 ⟨rfl, hb⟩
    generalize hF : sumN _ _ _ = F
    have HF := Lib.hid hF
    clear hF
    have k0 : w1.cell? ⟨w.heap.size + 1, 0, none⟩ = some (.bool false) := (hb.cell (by simp)).trans (by go_simp)
    have l0 : w1.frozen? ⟨w.heap.size + 1, 0, none⟩ = false := (hb.frozen (by simp)).trans (by go_simp)
    have k1 : w1.cell? ⟨w.heap.size + 1, 1, none⟩ = some (.bool false) := (hb.cell (by simp)).trans (by go_simp)
    have l1 : w1.frozen? ⟨w.heap.size + 1, 1, none⟩ = false := (hb.frozen (by simp)).trans (by go_simp)
    have k2 : w1.cell? ⟨w.heap.size + 1, 2, none⟩ = some (.bool false) := (hb.cell (by simp)).trans (by go_simp)
    have l2 : w1.frozen? ⟨w.heap.size + 1, 2, none⟩ = false := (hb.frozen (by simp)).trans (by go_simp)
    have k3 : w1.cell? ⟨w.heap.size + 1, 3, none⟩ = some (.bool false) := (hb.cell (by simp)).trans (by go_simp)
    have l3 : w1.frozen? ⟨w.heap.size + 1, 3, none⟩ = false := (hb.frozen (by simp)).trans (by go_simp)
    go_wp2
    refine bodyPost_ret (v := .tuple #[.int .u32 F.1, flv F.2]) (by simp [results, Try.results11, go_sem, k0, k1, k2, k3, l0, l1, l2, l3]) rfl ⟨?_, ?_⟩
    · rw [← HF.out, HC.out, ← HP.out, ← HQ.out]; simp [doS]
    · refine Below.setCell (Below.setCell (Below.setCell (Below.setCell (Below.trans ?_ (hb.mono (by simp; omega))) (by simp) _) (by simp) _) (by simp) _) (by simp) _
      exact (((Below.refl _ _).alloc (Nat.le_refl _) _).alloc (by simp) _)
set_option maxHeartbeats 1000000 in
theorem rdo_7 (code cc a b : Int) (n z c v sh : Bool) (w : World) (a0 : 0 ≤ a) (a1 : a < 4294967296) (b0 : 0 ≤ b) (b1 : b < 4294967296) (e1 : Go.bits .and .i64 code 15 = 7) (hc : cc = 7) :
    Calls Try.prog 11 #[.int .i64 code, .int .u32 a, .int .u32 b, .agg #[.bool n, .bool z, .bool c, .bool v], .bool sh] w fun e w' => e = .returned (.tuple #[.int .u32 (doS cc a b c v sh).1, flv (doS cc a b c v sh).2]) ∧ Below w.heap.size w w' := by
  obtain ⟨p, hp⟩ : ∃ p, sg a = p := ⟨_, rfl⟩
  obtain ⟨q, hq⟩ : ∃ q, sg b = q := ⟨_, rfl⟩
  have p0 : -2147483648 ≤ p ∧ p < 2147483648 := by rw [← hp]; unfold sg; split <;> omega
  have q0 : -2147483648 ≤ q ∧ q < 2147483648 := by rw [← hq]; unfold sg; split <;> omega
  obtain ⟨p0, p1⟩ := p0
  obtain ⟨q0, q1⟩ := q0
  have RA := Lib.hid (fun w => by have := signed_any a w a0 a1; rw [hp] at this; exact this)
  have RB := Lib.hid (fun w => by have := signed_any b w b0 b1; rw [hq] at this; exact this)
  have HP := Lib.hid hp
  have HQ := Lib.hid hq
  have HC := Lib.hid hc
  clear hp hq hc
  cases c
  all_goals
    go_enter Try.func11, Try.ntmps11
    go_wp2_with (first
      | (go_at_call 24; ((with_reducible refine (RA.out _).mono ?_); rintro e w' ⟨rfl, rfl⟩))
      | (go_at_call 24; ((with_reducible refine (RB.out _).mono ?_); rintro e w' ⟨rfl, rfl⟩)))
    refine (rsum_any _ _ _ _ (by omega) (by omega) (by omega) (by omega)).mono ?_
    rintro e w1 ⟨rfl, hb⟩
    generalize hF : sumN _ _ _ = F
    have HF := Lib.hid hF
    clear hF
    have k0 : w1.cell? ⟨w.heap.size + 1, 0, none⟩ = some (.bool false) := (hb.cell (by simp)).trans (by go_simp)
    have l0 : w1.frozen? ⟨w.heap.size + 1, 0, none⟩ = false := (hb.frozen (by simp)).trans (by go_simp)
    have k1 : w1.cell? ⟨w.heap.size + 1, 1, none⟩ = some (.bool false) := (hb.cell (by simp)).trans (by go_simp)
    have l1 : w1.frozen? ⟨w.heap.size + 1, 1, none⟩ = false := (hb.frozen (by simp)).trans (by go_simp)
    have k2 : w1.cell? ⟨w.heap.size + 1, 2, none⟩ = some (.bool false) := (hb.cell (by simp)).trans (by go_simp)
    have l2 : w1.frozen? ⟨w.heap.size + 1, 2, none⟩ = false := (hb.frozen (by simp)).trans (by go_simp)
    have k3 : w1.cell? ⟨w.heap.size + 1, 3, none⟩ = some (.bool false) := (hb.cell (by simp)).trans (by go_simp)
    have l3 : w1.frozen? ⟨w.heap.size + 1, 3, none⟩ = false := (hb.frozen (by simp)).trans (by go_simp)
    go_wp2
    refine bodyPost_ret (v := .tuple #[.int .u32 F.1, flv F.2]) (by simp [results, Try.results11, go_sem, k0, k1, k2, k3, l0, l1, l2, l3]) rfl ⟨?_, ?_⟩
    · rw [← HF.out, HC.out, ← HP.out, ← HQ.out]; simp [doS]
    · refine Below.setCell (Below.setCell (Below.setCell (Below.setCell (Below.trans ?_ (hb.mono (by simp; omega))) (by simp) _) (by simp) _) (by simp) _) (by simp) _
      exact (((Below.refl _ _).alloc (Nat.le_refl _) _).alloc (by simp) _)
set_option maxHeartbeats 1000000 in
theorem rdo_10 (code cc a b : Int) (n z c v sh : Bool) (w : World) (a0 : 0 ≤ a) (a1 : a < 4294967296) (b0 : 0 ≤ b) (b1 : b < 4294967296) (e1 : Go.bits .and .i64 code 15 = 10) (hc : cc = 10) :
    Calls Try.prog 11 #[.int .i64 code, .int .u32 a, .int .u32 b, .agg #[.bool n, .bool z, .bool c, .bool v], .bool sh] w fun e w' => e = .returned (.tuple #[.int .u32 (doS cc a b c v sh).1, flv (doS cc a b c v sh).2]) ∧ Below w.heap.size w w' := by
  obtain ⟨p, hp⟩ : ∃ p, sg a = p := ⟨_, rfl⟩
  obtain ⟨q, hq⟩ : ∃ q, sg b = q := ⟨_, rfl⟩
  have p0 : -2147483648 ≤ p ∧ p < 2147483648 := by rw [← hp]; unfold sg; split <;> omega
  have q0 : -2147483648 ≤ q ∧ q < 2147483648 := by rw [← hq]; unfold sg; split <;> omega
  obtain ⟨p0, p1⟩ := p0
  obtain ⟨q0, q1⟩ := q0
  have RA := Lib.hid (fun w => by have := signed_any a w a0 a1; rw [hp] at this; exact this)
  have RB := Lib.hid (fun w => by have := signed_any b w b0 b1; rw [hq] at this; exact this)
  have HP := Lib.hid hp
  have HQ := Lib.hid hq
  have HC := Lib.hid hc
  clear hp hq hc
  cases c
  all_goals
    go_enter Try.func11, Try.ntmps11
    go_wp2_with (first
      | (go_at_call 24; ((with_reducible refine (RA.out _).mono ?_); rintro e w' ⟨rfl, rfl⟩))
      | (go_at_call 24; ((with_reducible refine (RB.out _).mono ?_); rintro e w' ⟨rfl, rfl⟩)))
    refine (rsum_any _ _ _ _ (by omega) (by omega) (by omega) (by omega)).mono ?_
    rintro e w1 ⟨rfl, hb⟩
    generalize hF : sumN _ _ _ = F
    have HF := Lib.hid hF
    clear hF
    have k0 : w1.cell? ⟨w.heap.size + 1, 0, none⟩ = some (.bool false) := (hb.cell (by simp)).trans (by go_simp)
    have l0 : w1.frozen? ⟨w.heap.size + 1, 0, none⟩ = false := (hb.frozen (by simp)).trans (by go_simp)
    have k1 : w1.cell? ⟨w.heap.size + 1, 1, none⟩ = some (.bool false) := (hb.cell (by simp)).trans (by go_simp)
    have l1 : w1.frozen? ⟨w.heap.size + 1, 1, none⟩ = false := (hb.frozen (by simp)).trans (by go_simp)
    have k2 : w1.cell? ⟨w.heap.size + 1, 2, none⟩ = some (.bool false) := (hb.cell (by simp)).trans (by go_simp)
    have l2 : w1.frozen? ⟨w.heap.size + 1, 2, none⟩ = false := (hb.frozen (by simp)).trans (by go_simp)
    have k3 : w1.cell? ⟨w.heap.size + 1, 3, none⟩ = some (.bool false) := (hb.cell (by simp)).trans (by go_simp)
    have l3 : w1.frozen? ⟨w.heap.size + 1, 3, none⟩ = false := (hb.frozen (by simp)).trans (by go_simp)
    go_wp2
    refine bodyPost_ret (v := .tuple #[.int .u32 F.1, flv F.2]) (by simp [results, Try.results11, go_sem, k0, k1, k2, k3, l0, l1, l2, l3]) rfl ⟨?_, ?_⟩
    · rw [← HF.out, HC.out, ← HP.out, ← HQ.out]; simp [doS]
    · refine Below.setCell (Below.setCell (Below.setCell (Below.setCell (Below.trans ?_ (hb.mono (by simp; omega))) (by simp) _) (by simp) _) (by simp) _) (by simp) _
      exact (((Below.refl _ _).alloc (Nat.le_refl _) _).alloc (by simp) _)
set_option maxHeartbeats 1000000 in
theorem rdo_11 (code cc a b : Int) (n z c v sh : Bool) (w : World) (a0 : 0 ≤ a) (a1 : a < 4294967296) (b0 : 0 ≤ b) (b1 : b < 4294967296) (e1 : Go.bits .and .i64 code 15 = 11) (hc : cc = 11) :
    Calls Try.prog 11 #[.int .i64 code, .int .u32 a, .int .u32 b, .agg #[.bool n, .bool z, .bool c, .bool v], .bool sh] w fun e w' => e = .returned (.tuple #[.int .u32 (doS cc a b c v sh).1, flv (doS cc a b c v sh).2]) ∧ Below w.heap.size w w' := by
  obtain ⟨p, hp⟩ : ∃ p, sg a = p := ⟨_, rfl⟩
  obtain ⟨q, hq⟩ : ∃ q, sg b = q := ⟨_, rfl⟩
  have p0 : -2147483648 ≤ p ∧ p < 2147483648 := by rw [← hp]; unfold sg; split <;> omega
  have q0 : -2147483648 ≤ q ∧ q < 2147483648 := by rw [← hq]; unfold sg; split <;> omega
  obtain ⟨p0, p1⟩ := p0
  obtain ⟨q0, q1⟩ := q0
  have RA := Lib.hid (fun w => by have := signed_any a w a0 a1; rw [hp] at this; exact this)
  have RB := Lib.hid (fun w => by have := signed_any b w b0 b1; rw [hq] at this; exact this)
  have HP := Lib.hid hp
  have HQ := Lib.hid hq
  have HC := Lib.hid hc
  clear hp hq hc
  cases c
  all_goals
    go_enter Try.func11, Try.ntmps11
    go_wp2_with (first
      | (go_at_call 24; ((with_reducible refine (RA.out _).mono ?_); rintro e w' ⟨rfl, rfl⟩))
      | (go_at_call 24; ((with_reducible refine (RB.out _).mono ?_); rintro e w' ⟨rfl, rfl⟩)))
    refine (rsum_any _ _ _ _ (by omega) (by omega) (by omega) (by omega)).mono ?_
    rintro e w1 ⟨rfl, hb⟩
    generalize hF : sumN _ _ _ = F
    have HF := Lib.hid hF
    clear hF
    have k0 : w1.cell? ⟨w.heap.size + 1, 0, none⟩ = some (.bool false) := (hb.cell (by simp)).trans (by go_simp)
    have l0 : w1.frozen? ⟨w.heap.size + 1, 0, none⟩ = false := (hb.frozen (by simp)).trans (by go_simp)
    have k1 : w1.cell? ⟨w.heap.size + 1, 1, none⟩ = some (.bool false) := (hb.cell (by simp)).trans (by go_simp)
    have l1 : w1.frozen? ⟨w.heap.size + 1, 1, none⟩ = false := (hb.frozen (by simp)).trans (by go_simp)
    have k2 : w1.cell? ⟨w.heap.size + 1, 2, none⟩ = some (.bool false) := (hb.cell (by simp)).trans (by go_simp)
    have l2 : w1.frozen? ⟨w.heap.size + 1, 2, none⟩ = false := (hb.frozen (by simp)).trans (by go_simp)
    have k3 : w1.cell? ⟨w.heap.size + 1, 3, none⟩ = some (.bool false) := (hb.cell (by simp)).trans (by go_simp)
    have l3 : w1.frozen? ⟨w.heap.size + 1, 3, none⟩ = false := (hb.frozen (by simp)).trans (by go_simp)
    go_wp2
    refine bodyPost_ret (v := .tuple #[.int .u32 F.1, flv F.2]) (by simp [results, Try.results11, go_sem, k0, k1, k2, k3, l0, l1, l2, l3]) rfl ⟨?_, ?_⟩
    · rw [← HF.out, HC.out, ← HP.out, ← HQ.out]; simp [doS]
    · refine Below.setCell (Below.setCell (Below.setCell (Below.setCell (Below.trans ?_ (hb.mono (by simp; omega))) (by simp) _) (by simp) _) (by simp) _) (by simp) _
      exact (((Below.refl _ _).alloc (Nat.le_refl _) _).alloc (by simp) _)
set_option maxHeartbeats 1000000 in
theorem rdo_0 (code cc a b : Int) (n z c v sh : Bool) (w : World) (a0 : 0 ≤ a) (a1 : a < 4294967296) (b0 : 0 ≤ b) (b1 : b < 4294967296) (e1 : Go.bits .and .i64 code 15 = 0) (hc : cc = 0) :
    Calls Try.prog 11 #[.int .i64 code, .int .u32 a, .int .u32 b, .agg #[.bool n, .bool z, .bool c, .bool v], .bool sh] w fun e w' => e = .returned (.tuple #[.int .u32 (doS cc a b c v sh).1, flv (doS cc a b c v sh).2]) ∧ Below w.heap.size w w' := by
  obtain ⟨Y, hY⟩ : ∃ Y, Go.bits .and .u32 a b = Y := ⟨_, rfl⟩
  have HD := Lib.hid (show doS cc a b c v sh = (Y, ⟨decide (2147483648 ≤ Y), decide (Y = 0), sh, v⟩) by rw [hc, ← hY]; simp [doS, logN, fl4])
  clear hc
  obtain ⟨p, hp⟩ : ∃ p, sg a = p := ⟨_, rfl⟩
  obtain ⟨q, hq⟩ : ∃ q, sg b = q := ⟨_, rfl⟩
  have RA := Lib.hid (fun w => by have := signed_any a w a0 a1; rw [hp] at this; exact this)
  have RB := Lib.hid (fun w => by have := signed_any b w b0 b1; rw [hq] at this; exact this)
  clear hp hq
  cases c
  all_goals
    go_enter Try.func11, Try.ntmps11
    go_wp2_with (first
      | (go_at_call 24; ((with_reducible refine (RA.out _).mono ?_); rintro e w' ⟨rfl, rfl⟩))
      | (go_at_call 24; ((with_reducible refine (RB.out _).mono ?_); rintro e w' ⟨rfl, rfl⟩)))
    go_region
    go_wp2
    refine bodyPost_ret (v := .tuple #[.int .u32 Y, .agg #[.bool (decide (2147483648 ≤ Y)), .bool (Y == 0), .bool sh, .bool v]]) (by simp [results, Try.results11, go_sem]) rfl ⟨?_, ?_⟩
    · rw [HD.out]; exact ret_fl rfl rfl (beq_eq_decide _ _) rfl rfl
    · exact below_d1 (((Below.refl _ _).alloc (Nat.le_refl _) _).alloc (by simp) _)
set_option maxHeartbeats 1000000 in
theorem rdo_8 (code cc a b : Int) (n z c v sh : Bool) (w : World) (a0 : 0 ≤ a) (a1 : a < 4294967296) (b0 : 0 ≤ b) (b1 : b < 4294967296) (e1 : Go.bits .and .i64 code 15 = 8) (hc : cc = 8) :
    Calls Try.prog 11 #[.int .i64 code, .int .u32 a, .int .u32 b, .agg #[.bool n, .bool z, .bool c, .bool v], .bool sh] w fun e w' => e = .returned (.tuple #[.int .u32 (doS cc a b c v sh).1, flv (doS cc a b c v sh).2]) ∧ Below w.heap.size w w' := by
  obtain ⟨Y, hY⟩ : ∃ Y, Go.bits .and .u32 a b = Y := ⟨_, rfl⟩
  have HD := Lib.hid (show doS cc a b c v sh = (Y, ⟨decide (2147483648 ≤ Y), decide (Y = 0), sh, v⟩) by rw [hc, ← hY]; simp [doS, logN, fl4])
  clear hc
  obtain ⟨p, hp⟩ : ∃ p, sg a = p := ⟨_, rfl⟩
  obtain ⟨q, hq⟩ : ∃ q, sg b = q := ⟨_, rfl⟩
  have RA := Lib.hid (fun w => by have := signed_any a w a0 a1; rw [hp] at this; exact this)
  have RB := Lib.hid (fun w => by have := signed_any b w b0 b1; rw [hq] at this; exact this)
  clear hp hq
  cases c
  all_goals
    go_enter Try.func11, Try.ntmps11
    go_wp2_with (first
      | (go_at_call 24; ((with_reducible refine (RA.out _).mono ?_); rintro e w' ⟨rfl, rfl⟩))
      | (go_at_call 24; ((with_reducible refine (RB.out _).mono ?_); rintro e w' ⟨rfl, rfl⟩)))
    go_region
    go_wp2
    refine bodyPost_ret (v := .tuple #[.int .u32 Y, .agg #[.bool (decide (2147483648 ≤ Y)), .bool (Y == 0), .bool sh, .bool v]]) (by simp [results, Try.results11, go_sem]) rfl ⟨?_, ?_⟩
    · rw [HD.out]; exact ret_fl rfl rfl (beq_eq_decide _ _) rfl rfl
    · exact below_d1 (((Below.refl _ _).alloc (Nat.le_refl _) _).alloc (by simp) _)
set_option maxHeartbeats 1000000 in
theorem rdo_1 (code cc a b : Int) (n z c v sh : Bool) (w : World) (a0 : 0 ≤ a) (a1 : a < 4294967296) (b0 : 0 ≤ b) (b1 : b < 4294967296) (e1 : Go.bits .and .i64 code 15 = 1) (hc : cc = 1) :
    Calls Try.prog 11 #[.int .i64 code, .int .u32 a, .int .u32 b, .agg #[.bool n, .bool z, .bool c, .bool v], .bool sh] w fun e w' => e = .returned (.tuple #[.int .u32 (doS cc a b c v sh).1, flv (doS cc a b c v sh).2]) ∧ Below w.heap.size w w' := by
  obtain ⟨Y, hY⟩ : ∃ Y, Go.bits .xor .u32 a b = Y := ⟨_, rfl⟩
  have HD := Lib.hid (show doS cc a b c v sh = (Y, ⟨decide (2147483648 ≤ Y), decide (Y = 0), sh, v⟩) by rw [hc, ← hY]; simp [doS, logN, fl4])
  clear hc
  obtain ⟨p, hp⟩ : ∃ p, sg a = p := ⟨_, rfl⟩
  obtain ⟨q, hq⟩ : ∃ q, sg b = q := ⟨_, rfl⟩
  have RA := Lib.hid (fun w => by have := signed_any a w a0 a1; rw [hp] at this; exact this)
  have RB := Lib.hid (fun w => by have := signed_any b w b0 b1; rw [hq] at this; exact this)
  clear hp hq
  cases c
  all_goals
    go_enter Try.func11, Try.ntmps11
    go_wp2_with (first
      | (go_at_call 24; ((with_reducible refine (RA.out _).mono ?_); rintro e w' ⟨rfl, rfl⟩))
      | (go_at_call 24; ((with_reducible refine (RB.out _).mono ?_); rintro e w' ⟨rfl, rfl⟩)))
    go_region
    go_wp2
    refine bodyPost_ret (v := .tuple #[.int .u32 Y, .agg #[.bool (decide (2147483648 ≤ Y)), .bool (Y == 0), .bool sh, .bool v]]) (by simp [results, Try.results11, go_sem]) rfl ⟨?_, ?_⟩
    · rw [HD.out]; exact ret_fl rfl rfl (beq_eq_decide _ _) rfl rfl
    · exact below_d1 (((Below.refl _ _).alloc (Nat.le_refl _) _).alloc (by simp) _)
set_option maxHeartbeats 1000000 in
theorem rdo_9 (code cc a b : Int) (n z c v sh : Bool) (w : World) (a0 : 0 ≤ a) (a1 : a < 4294967296) (b0 : 0 ≤ b) (b1 : b < 4294967296) (e1 : Go.bits .and .i64 code 15 = 9) (hc : cc = 9) :
    Calls Try.prog 11 #[.int .i64 code, .int .u32 a, .int .u32 b, .agg #[.bool n, .bool z, .bool c, .bool v], .bool sh] w fun e w' => e = .returned (.tuple #[.int .u32 (doS cc a b c v sh).1, flv (doS cc a b c v sh).2]) ∧ Below w.heap.size w w' := by
  obtain ⟨Y, hY⟩ : ∃ Y, Go.bits .xor .u32 a b = Y := ⟨_, rfl⟩
  have HD := Lib.hid (show doS cc a b c v sh = (Y, ⟨decide (2147483648 ≤ Y), decide (Y = 0), sh, v⟩) by rw [hc, ← hY]; simp [doS, logN, fl4])
  clear hc
  obtain ⟨p, hp⟩ : ∃ p, sg a = p := ⟨_, rfl⟩
  obtain ⟨q, hq⟩ : ∃ q, sg b = q := ⟨_, rfl⟩
  have RA := Lib.hid (fun w => by have := signed_any a w a0 a1; rw [hp] at this; exact this)
  have RB := Lib.hid (fun w => by have := signed_any b w b0 b1; rw [hq] at this; exact this)
  clear hp hq
  cases c
  all_goals
    go_enter Try.func11, Try.ntmps11
    go_wp2_with (first
      | (go_at_call 24; ((with_reducible refine (RA.out _).mono ?_); rintro e w' ⟨rfl, rfl⟩))
      | (go_at_call 24; ((with_reducible refine (RB.out _).mono ?_); rintro e w' ⟨rfl, rfl⟩)))
    go_region
    go_wp2
    refine bodyPost_ret (v := .tuple #[.int .u32 Y, .agg #[.bool (decide (2147483648 ≤ Y)), .bool (Y == 0), .bool sh, .bool v]]) (by simp [results, Try.results11, go_sem]) rfl ⟨?_, ?_⟩
    · rw [HD.out]; exact ret_fl rfl rfl (beq_eq_decide _ _) rfl rfl
    · exact below_d1 (((Below.refl _ _).alloc (Nat.le_refl _) _).alloc (by simp) _)
set_option maxHeartbeats 1000000 in
theorem rdo_12 (code cc a b : Int) (n z c v sh : Bool) (w : World) (a0 : 0 ≤ a) (a1 : a < 4294967296) (b0 : 0 ≤ b) (b1 : b < 4294967296) (e1 : Go.bits .and .i64 code 15 = 12) (hc : cc = 12) :
    Calls Try.prog 11 #[.int .i64 code, .int .u32 a, .int .u32 b, .agg #[.bool n, .bool z, .bool c, .bool v], .bool sh] w fun e w' => e = .returned (.tuple #[.int .u32 (doS cc a b c v sh).1, flv (doS cc a b c v sh).2]) ∧ Below w.heap.size w w' := by
  obtain ⟨Y, hY⟩ : ∃ Y, Go.bits .or .u32 a b = Y := ⟨_, rfl⟩
  have HD := Lib.hid (show doS cc a b c v sh = (Y, ⟨decide (2147483648 ≤ Y), decide (Y = 0), sh, v⟩) by rw [hc, ← hY]; simp [doS, logN, fl4])
  clear hc
  obtain ⟨p, hp⟩ : ∃ p, sg a = p := ⟨_, rfl⟩
  obtain ⟨q, hq⟩ : ∃ q, sg b = q := ⟨_, rfl⟩
  have RA := Lib.hid (fun w => by have := signed_any a w a0 a1; rw [hp] at this; exact this)
  have RB := Lib.hid (fun w => by have := signed_any b w b0 b1; rw [hq] at this; exact this)
  clear hp hq
  cases c
  all_goals
    go_enter Try.func11, Try.ntmps11
    go_wp2_with (first
      | (go_at_call 24; ((with_reducible refine (RA.out _).mono ?_); rintro e w' ⟨rfl, rfl⟩))
      | (go_at_call 24; ((with_reducible refine (RB.out _).mono ?_); rintro e w' ⟨rfl, rfl⟩)))
    go_region
    go_wp2
    refine bodyPost_ret (v := .tuple #[.int .u32 Y, .agg #[.bool (decide (2147483648 ≤ Y)), .bool (Y == 0), .bool sh, .bool v]]) (by simp [results, Try.results11, go_sem]) rfl ⟨?_, ?_⟩
    · rw [HD.out]; exact ret_fl rfl rfl (beq_eq_decide _ _) rfl rfl
    · exact below_d1 (((Below.refl _ _).alloc (Nat.le_refl _) _).alloc (by simp) _)
set_option maxHeartbeats 1000000 in
theorem rdo_13 (code cc a b : Int) (n z c v sh : Bool) (w : World) (a0 : 0 ≤ a) (a1 : a < 4294967296) (b0 : 0 ≤ b) (b1 : b < 4294967296) (e1 : Go.bits .and .i64 code 15 = 13) (hc : cc = 13) :
    Calls Try.prog 11 #[.int .i64 code, .int .u32 a, .int .u32 b, .agg #[.bool n, .bool z, .bool c, .bool v], .bool sh] w fun e w' => e = .returned (.tuple #[.int .u32 (doS cc a b c v sh).1, flv (doS cc a b c v sh).2]) ∧ Below w.heap.size w w' := by
  obtain ⟨Y, hY⟩ : ∃ Y, b = Y := ⟨_, rfl⟩
  have HD := Lib.hid (show doS cc a b c v sh = (Y, ⟨decide (2147483648 ≤ Y), decide (Y = 0), sh, v⟩) by rw [hc, ← hY]; simp [doS, logN, fl4])
  clear hc
  obtain ⟨p, hp⟩ : ∃ p, sg a = p := ⟨_, rfl⟩
  obtain ⟨q, hq⟩ : ∃ q, sg b = q := ⟨_, rfl⟩
  have RA := Lib.hid (fun w => by have := signed_any a w a0 a1; rw [hp] at this; exact this)
  have RB := Lib.hid (fun w => by have := signed_any b w b0 b1; rw [hq] at this; exact this)
  clear hp hq
  subst hY
  cases c
  all_goals
    go_enter Try.func11, Try.ntmps11
    go_wp2_with (first
      | (go_at_call 24; ((with_reducible refine (RA.out _).mono ?_); rintro e w' ⟨rfl, rfl⟩))
      | (go_at_call 24; ((with_reducible refine (RB.out _).mono ?_); rintro e w' ⟨rfl, rfl⟩)))
    go_region
    go_wp2
    refine bodyPost_ret (v := .tuple #[.int .u32 b, .agg #[.bool (decide (2147483648 ≤ b)), .bool (b == 0), .bool sh, .bool v]]) (by simp [results, Try.results11, go_sem]) rfl ⟨?_, ?_⟩
    · rw [HD.out]; exact ret_fl rfl rfl (beq_eq_decide _ _) rfl rfl
    · exact below_d1 (((Below.refl _ _).alloc (Nat.le_refl _) _).alloc (by simp) _)
set_option maxHeartbeats 1000000 in
theorem rdo_14 (code cc a b : Int) (n z c v sh : Bool) (w : World) (a0 : 0 ≤ a) (a1 : a < 4294967296) (b0 : 0 ≤ b) (b1 : b < 4294967296) (e1 : Go.bits .and .i64 code 15 = 14) (hc : cc = 14) :
    Calls Try.prog 11 #[.int .i64 code, .int .u32 a, .int .u32 b, .agg #[.bool n, .bool z, .bool c, .bool v], .bool sh] w fun e w' => e = .returned (.tuple #[.int .u32 (doS cc a b c v sh).1, flv (doS cc a b c v sh).2]) ∧ Below w.heap.size w w' := by
  obtain ⟨Y, hY⟩ : ∃ Y, Go.bits .and .u32 a (4294967295 - b) = Y := ⟨_, rfl⟩
  have HD := Lib.hid (show doS cc a b c v sh = (Y, ⟨decide (2147483648 ≤ Y), decide (Y = 0), sh, v⟩) by rw [hc, ← hY]; simp [doS, logN, fl4])
  clear hc
  obtain ⟨p, hp⟩ : ∃ p, sg a = p := ⟨_, rfl⟩
  obtain ⟨q, hq⟩ : ∃ q, sg b = q := ⟨_, rfl⟩
  have RA := Lib.hid (fun w => by have := signed_any a w a0 a1; rw [hp] at this; exact this)
  have RB := Lib.hid (fun w => by have := signed_any b w b0 b1; rw [hq] at this; exact this)
  clear hp hq
  cases c
  all_goals
    go_enter Try.func11, Try.ntmps11
    go_wp2_with (first
      | (go_at_call 24; ((with_reducible refine (RA.out _).mono ?_); rintro e w' ⟨rfl, rfl⟩))
      | (go_at_call 24; ((with_reducible refine (RB.out _).mono ?_); rintro e w' ⟨rfl, rfl⟩)))
    go_region
    go_wp2
    refine bodyPost_ret (v := .tuple #[.int .u32 Y, .agg #[.bool (decide (2147483648 ≤ Y)), .bool (Y == 0), .bool sh, .bool v]]) (by simp [results, Try.results11, go_sem]) rfl ⟨?_, ?_⟩
    · rw [HD.out]; exact ret_fl rfl rfl (beq_eq_decide _ _) rfl rfl
    · exact below_d1 (((Below.refl _ _).alloc (Nat.le_refl _) _).alloc (by simp) _)
set_option maxHeartbeats 1000000 in
theorem rdo_15 (code cc a b : Int) (n z c v sh : Bool) (w : World) (a0 : 0 ≤ a) (a1 : a < 4294967296) (b0 : 0 ≤ b) (b1 : b < 4294967296) (e1 : Go.bits .and .i64 code 15 = 15) (hc : cc = 15) :
    Calls Try.prog 11 #[.int .i64 code, .int .u32 a, .int .u32 b, .agg #[.bool n, .bool z, .bool c, .bool v], .bool sh] w fun e w' => e = .returned (.tuple #[.int .u32 (doS cc a b c v sh).1, flv (doS cc a b c v sh).2]) ∧ Below w.heap.size w w' := by
  obtain ⟨Y, hY⟩ : ∃ Y, 4294967295 - b = Y := ⟨_, rfl⟩
  have HD := Lib.hid (show doS cc a b c v sh = (Y, ⟨decide (2147483648 ≤ Y), decide (Y = 0), sh, v⟩) by rw [hc, ← hY]; simp [doS, logN, fl4])
  clear hc
  obtain ⟨p, hp⟩ : ∃ p, sg a = p := ⟨_, rfl⟩
  obtain ⟨q, hq⟩ : ∃ q, sg b = q := ⟨_, rfl⟩
  have RA := Lib.hid (fun w => by have := signed_any a w a0 a1; rw [hp] at this; exact this)
  have RB := Lib.hid (fun w => by have := signed_any b w b0 b1; rw [hq] at this; exact this)
  clear hp hq
  subst hY
  cases c
  all_goals
    go_enter Try.func11, Try.ntmps11
    go_wp2_with (first
      | (go_at_call 24; ((with_reducible refine (RA.out _).mono ?_); rintro e w' ⟨rfl, rfl⟩))
      | (go_at_call 24; ((with_reducible refine (RB.out _).mono ?_); rintro e w' ⟨rfl, rfl⟩)))
    go_region
    go_wp2
    refine bodyPost_ret (v := .tuple #[.int .u32 (4294967295 - b), .agg #[.bool (decide (2147483648 ≤ (4294967295 - b))), .bool ((4294967295 - b) == 0), .bool sh, .bool v]]) (by simp [results, Try.results11, go_sem]) rfl ⟨?_, ?_⟩
    · rw [HD.out]; exact ret_fl rfl rfl (beq_eq_decide _ _) rfl rfl
    · exact below_d1 (((Below.refl _ _).alloc (Nat.le_refl _) _).alloc (by simp) _)
theorem rdo_any (code a b : Int) (n z c v sh : Bool) (w : World) (a0 : 0 ≤ a) (a1 : a < 4294967296) (b0 : 0 ≤ b) (b1 : b < 4294967296) :
    Calls Try.prog 11 #[.int .i64 code, .int .u32 a, .int .u32 b, .agg #[.bool n, .bool z, .bool c, .bool v], .bool sh] w fun e w' => e = .returned (.tuple #[.int .u32 (doS (code % 16) a b c v sh).1, flv (doS (code % 16) a b c v sh).2]) ∧ Below w.heap.size w w' := by
  have e1 := and15 code
  have cs : code % 16 = 0 ∨ code % 16 = 1 ∨ code % 16 = 2 ∨ code % 16 = 3 ∨ code % 16 = 4 ∨ code % 16 = 5 ∨ code % 16 = 6 ∨ code % 16 = 7 ∨ code % 16 = 8 ∨ code % 16 = 9 ∨ code % 16 = 10 ∨ code % 16 = 11 ∨ code % 16 = 12 ∨ code % 16 = 13 ∨ code % 16 = 14 ∨ code % 16 = 15 := by omega
  rcases cs with h | h | h | h | h | h | h | h | h | h | h | h | h | h | h | h
  · exact rdo_0 code _ a b n z c v sh w a0 a1 b0 b1 (e1.trans h) h
  · exact rdo_1 code _ a b n z c v sh w a0 a1 b0 b1 (e1.trans h) h
  · exact rdo_2 code _ a b n z c v sh w a0 a1 b0 b1 (e1.trans h) h
  · exact rdo_3 code _ a b n z c v sh w a0 a1 b0 b1 (e1.trans h) h
  · exact rdo_4 code _ a b n z c v sh w a0 a1 b0 b1 (e1.trans h) h
  · exact rdo_5 code _ a b n z c v sh w a0 a1 b0 b1 (e1.trans h) h
  · exact rdo_6 code _ a b n z c v sh w a0 a1 b0 b1 (e1.trans h) h
  · exact rdo_7 code _ a b n z c v sh w a0 a1 b0 b1 (e1.trans h) h
  · exact rdo_8 code _ a b n z c v sh w a0 a1 b0 b1 (e1.trans h) h
  · exact rdo_9 code _ a b n z c v sh w a0 a1 b0 b1 (e1.trans h) h
  · exact rdo_10 code _ a b n z c v sh w a0 a1 b0 b1 (e1.trans h) h
  · exact rdo_11 code _ a b n z c v sh w a0 a1 b0 b1 (e1.trans h) h
  · exact rdo_12 code _ a b n z c v sh w a0 a1 b0 b1 (e1.trans h) h
  · exact rdo_13 code _ a b n z c v sh w a0 a1 b0 b1 (e1.trans h) h
  · exact rdo_14 code _ a b n z c v sh w a0 a1 b0 b1 (e1.trans h) h
  · exact rdo_15 code _ a b n z c v sh w a0 a1 b0 b1 (e1.trans h) h
end Go.Proofs.Ytgpcgamhlcihkaa.Aw
