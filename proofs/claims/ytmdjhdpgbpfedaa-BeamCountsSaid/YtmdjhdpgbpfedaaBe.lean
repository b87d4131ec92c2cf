/- BeamCounts, walked by hand. -/
import Derived.Test.YtmdjhdpgbpfedaaProg
import Derived.Test.YtmdjhdpgbpfedaaBt
import Derived.Test.YtmdjhdpgbpfedaaWk
import Derived.WalkLawsBesides
import Derived.Outline
import Derived.Lib.Hide
import Derived.Deep.QuietTactic
import Derived.BigQuiet
import Derived.RegionTactic
import Derived.ChangeAlike
import Derived.StillTailTactics
import Derived.LoopTactic
import Derived.Deep.RegionWith
import Derived.ChangeKeysEq
namespace Go.Proofs.Ytmdjhdpgbpfedaa.Be
set_option linter.unusedVariables false
set_option linter.unusedSimpArgs false
open Go.RowKit Go.Proofs.Ytmdjhdpgbpfedaa.Bt Go.Proofs.Ytmdjhdpgbpfedaa.Wk

set_option maxHeartbeats 1000000 in
theorem at_any (a : Int) (h0 : 0 ≤ a) (h1 : a ≤ 2251799813685248) (w : World) :
    Calls Try.prog 10 #[.int .i64 a] w fun e w' => e = .returned (.tuple #[.int .i64 (a / 1232 % 228), .int .i64 (a % 1232)]) ∧ w = w' := by
  go_enter Try.func10, Try.ntmps10
  go_wp2
  go_ret2
  exact ⟨rfl, rfl⟩
def nxt (n : Int) : Int := if n % 1232 < 960 then n - n % 1232 + 960 else n - n % 1232 + 1232
set_option maxHeartbeats 1000000 in
theorem next_any (a : Int) (h0 : 0 ≤ a) (h1 : a ≤ 2251799813685248) (w : World) :
    Calls Try.prog 8 #[.int .i64 a] w fun e w' => e = .returned (.int .i64 (nxt a)) ∧ w = w' := by
  have R := Lib.hid (fun w => at_any a h0 h1 w)
  have s : wrap64 (a - a % 1232) = a - a % 1232 := wrap64_id (by omega) (by omega)
  have s0 : 0 ≤ a - a % 1232 := by omega
  have s1 : a - a % 1232 ≤ 2251799813685248 := by omega
  unfold nxt
  by_cases c : a % 1232 < 960
  · rw [if_pos c]
    go_enter Try.func8, Try.ntmps8
    go_wp2_with (go_at_call 10; refine (R.out _).mono ?_; rintro e w' ⟨rfl, rfl⟩)
    go_ret
    exact ⟨rfl, rfl⟩
  · rw [if_neg c]
    have c' : decide (a % 1232 < 960) = false := by simpa using c
    go_enter Try.func8, Try.ntmps8
    go_wp2_with (go_at_call 10; refine (R.out _).mono ?_; rintro e w' ⟨rfl, rfl⟩)
    go_ret
    exact ⟨rfl, rfl⟩
theorem and1 {x : Int} (h0 : 0 ≤ x) (h1 : x < 65536) : Go.bits .and .u16 x 1 = x % 2 := by
  have := and_mask_u16 h0 h1 1 (by decide)
  simpa using this
/-- What is asked for at a place n of a line l. -/
def asv (l n x : Int) : Int :=
  (if n = 0 ∧ l = 160 then x / 8 % 2 else 0) + 2 * (if n = 960 then x / 16 % 2 else 0) + 4 * (if n = 0 ∧ l = x / 256 then x / 32 % 2 else 0)
set_option maxHeartbeats 1000000 in
theorem asks_any (a x : Int) (h0 : 0 ≤ a) (h1 : a ≤ 2251799813685248) (x0 : 0 ≤ x) (x1 : x < 65536) (w : World) :
    Calls Try.prog 9 #[.int .i64 a, .int .u16 x] w fun e w' => e = .returned (.int .u16 (asv (a / 1232 % 228) (a % 1232) x)) ∧ w = w' := by
  have R := Lib.hid (fun w => at_any a h0 h1 w)
  have g1 : Go.bits .and .u16 (x / 8) 1 = x / 8 % 2 := and1 (by omega) (by omega)
  have g2 : Go.bits .and .u16 (x / 16) 1 = x / 16 % 2 := and1 (by omega) (by omega)
  have g3 : Go.bits .and .u16 (x / 32) 1 = x / 32 % 2 := and1 (by omega) (by omega)
  have o1 : Go.bits .or .u16 0 1 = 1 := by decide
  have o2 : Go.bits .or .u16 0 2 = 2 := by decide
  have o4 : Go.bits .or .u16 0 4 = 4 := by decide
  have o5 : Go.bits .or .u16 1 4 = 5 := by decide
  generalize a / 1232 % 228 = l at *
  generalize a % 1232 = n at *
  clear h0 h1
  go_enter Try.func9, Try.ntmps9
  go_wp2_with (go_at_call 10; refine (R.out _).mono ?_; rintro e w' ⟨rfl, rfl⟩)
  all_goals
    go_ret
    refine ⟨ret_i ?_, rfl⟩
    clear R g1 g2 g3 o1 o2 o4 o5
    try simp only [beq_iff_eq, beq_eq_false_iff_ne, ne_eq, decide_eq_true_eq, decide_eq_false_iff_not] at *
    unfold asv
    repeat' split
    all_goals first | rfl | omega
set_option maxHeartbeats 1000000 in
theorem awake_any (w : World) : Calls Try.prog 7 #[] w fun e w' => e = .returned (.bool true) ∧ ∃ n, w' = w.drewN n := by
  have A : ∀ w, Calls Try.prog 10 #[.int .i64 1232] w fun e w' => e = .returned (.tuple #[.int .i64 1, .int .i64 0]) ∧ w = w' := fun w => at_any 1232 (by decide) (by decide) w
  have B : ∀ w, Calls Try.prog 8 #[.int .i64 0] w fun e w' => e = .returned (.int .i64 960) ∧ w = w' := fun w => next_any 0 (by decide) (by decide) w
  have C : ∀ w, Calls Try.prog 9 #[.int .i64 197120, .int .u16 8] w fun e w' => e = .returned (.int .u16 1) ∧ w = w' := fun w => asks_any 197120 8 (by decide) (by decide) (by decide) (by decide) w
  have AH := Lib.hid A
  have BH := Lib.hid B
  have CH := Lib.hid C
  clear A B C
  go_enter Try.func7, Try.ntmps7
  go_wp2_with (first | (go_at_call 10; refine (AH.out _).mono ?_; rintro e w' ⟨rfl, rfl⟩) | (go_at_call 8; refine (BH.out _).mono ?_; rintro e w' ⟨rfl, rfl⟩) | (go_at_call 9; refine (CH.out _).mono ?_; rintro e w' ⟨rfl, rfl⟩))
  go_ret
  exact ⟨rfl, 0, rfl⟩
/-- Event k of picture q. -/
def ev (q : Int) (k : Nat) : Int := q * 280896 + ((k / 2 : Nat) : Int) * 1232 + ((k % 2 : Nat) : Int) * 960
def d0 (k : Nat) (x : Int) : Int := if k = 320 then x / 8 % 2 else 0
def d1 (k : Nat) (x : Int) : Int := if k % 2 = 1 then x / 16 % 2 else 0
def d2 (k : Nat) (x : Int) : Int := if (k : Int) = 2 * (x / 256) then x / 32 % 2 else 0
def c0 (k : Nat) (x : Int) : Int := if 320 < k then x / 8 % 2 else 0
def c1 (k : Nat) (x : Int) : Int := ((k / 2 : Nat) : Int) * (x / 16 % 2)
def c2 (k : Nat) (x : Int) : Int := if 2 * (x / 256) < (k : Int) then x / 32 % 2 else 0
theorem ev_in (q : Int) (k : Nat) (h0 : 0 ≤ q) (h1 : q < 1000) (hk : k ≤ 456) : 0 ≤ ev q k ∧ ev q k ≤ 281000000 := by unfold ev; omega
theorem ev_next (q : Int) (k : Nat) (h0 : 0 ≤ q) (hk : k < 456) : nxt (ev q k) = ev q (k + 1) := by
  unfold nxt ev
  rcases Nat.mod_two_eq_zero_or_one k with e | e
  · have e1 : (k + 1) / 2 = k / 2 := by omega
    have e2 : (k + 1) % 2 = 1 := by omega
    rw [e, e1, e2, if_pos (by omega)]
    omega
  · have e1 : (k + 1) / 2 = k / 2 + 1 := by omega
    have e2 : (k + 1) % 2 = 0 := by omega
    rw [e, e1, e2, if_neg (by omega)]
    omega
theorem ev_line (q : Int) (k : Nat) (h0 : 0 ≤ q) (hk : k < 456) : ev q k / 1232 % 228 = ((k / 2 : Nat) : Int) ∧ ev q k % 1232 = ((k % 2 : Nat) : Int) * 960 := by
  have a : ev q k / 1232 = q * 228 + ((k / 2 : Nat) : Int) := by unfold ev; omega
  refine ⟨by rw [a]; omega, by unfold ev; omega⟩
theorem ev_asks (q x : Int) (k : Nat) (h0 : 0 ≤ q) (hk : k < 456) (x0 : 0 ≤ x) : asv (ev q k / 1232 % 228) (ev q k % 1232) x = d0 k x + 2 * d1 k x + 4 * d2 k x := by
  obtain ⟨a, b⟩ := ev_line q k h0 hk
  rw [a, b]
  have p0 : (if ((k % 2 : Nat) : Int) * 960 = 0 ∧ ((k / 2 : Nat) : Int) = 160 then x / 8 % 2 else 0) = d0 k x := by
    unfold d0
    by_cases c : k = 320
    · rw [if_pos c, if_pos (by omega)]
    · rw [if_neg c, if_neg (by omega)]
  have p1 : (if ((k % 2 : Nat) : Int) * 960 = 960 then x / 16 % 2 else 0) = d1 k x := by
    unfold d1
    by_cases c : k % 2 = 1
    · rw [if_pos c, if_pos (by omega)]
    · rw [if_neg c, if_neg (by omega)]
  have p2 : (if ((k % 2 : Nat) : Int) * 960 = 0 ∧ ((k / 2 : Nat) : Int) = x / 256 then x / 32 % 2 else 0) = d2 k x := by
    unfold d2
    by_cases c : (k : Int) = 2 * (x / 256)
    · rw [if_pos c, if_pos (by omega)]
    · rw [if_neg c, if_neg (by omega)]
  unfold asv
  rw [p0, p1, p2]
theorem step0 (k : Nat) (x : Int) : c0 k x + d0 k x = c0 (k + 1) x := by
  unfold c0 d0
  repeat' split
  all_goals omega
theorem step1 (k : Nat) (x : Int) : c1 k x + d1 k x = c1 (k + 1) x := by
  unfold c1 d1
  have : x / 16 % 2 = 0 ∨ x / 16 % 2 = 1 := by omega
  rcases this with h | h <;> rw [h] <;> split <;> omega
theorem step2 (k : Nat) (x : Int) : c2 k x + d2 k x = c2 (k + 1) x := by
  unfold c2 d2
  repeat' split
  all_goals omega
theorem dbit (k : Nat) (x : Int) : (0 ≤ d0 k x ∧ d0 k x ≤ 1) ∧ (0 ≤ d1 k x ∧ d1 k x ≤ 1) ∧ 0 ≤ d2 k x ∧ d2 k x ≤ 1 := by
  unfold d0 d1 d2
  refine ⟨?_, ?_, ?_⟩ <;> split <;> omega
theorem cbit (k : Nat) (x : Int) (hk : k ≤ 456) : (0 ≤ c0 k x ∧ c0 k x ≤ 1) ∧ (0 ≤ c1 k x ∧ c1 k x ≤ 228) ∧ 0 ≤ c2 k x ∧ c2 k x ≤ 1 := by
  have : x / 16 % 2 = 0 ∨ x / 16 % 2 = 1 := by omega
  refine ⟨?_, ?_, ?_⟩
  · unfold c0; split <;> omega
  · unfold c1; rcases this with h | h <;> rw [h] <;> omega
  · unfold c2; split <;> omega
theorem arr3_same (d : Nat) (a b c : Int) (w : World) : (Op.equalIn (d + 2) 24 (.agg #[.int .i64 a, .int .i64 b, .int .i64 c]) (.agg #[.int .i64 a, .int .i64 b, .int .i64 c])).run Try.prog w = .ok true w := by
  have hu : Try.prog.underlying 24 = some (.array 3 3) := by kernel_rfl
  have hz : Try.prog.cellsOf 3 = 1 := by kernel_rfl
  obtain ⟨i, hi⟩ : ∃ i, Try.prog.info? 3 = some i := ⟨_, rfl⟩
  rw [run_equalIn_array (P := Try.prog) (w := w) (d + 1) _ _ hu hi, hz]
  simp only [show List.range 3 = [0, 1, 2] from rfl, Op.eqItems]
  go_simp
set_option maxHeartbeats 2000000 in
theorem counts_law (p x : Int) (h1 : (Lit.int .i64 p).wf = true) (h2 : (Lit.int .u16 x).wf = true) (w : World) :
    Calls Try.prog 3 #[.int .i64 p, .int .u16 x] w fun e w' => e = .returned (.bool true) ∧ Below w.heap.size w w' := by
  obtain ⟨x0, x1⟩ := bounds_u16 h2
  obtain ⟨q, hq, q0, q1⟩ : ∃ q, (wrap64 (p.tmod 1000 + 1000)).tmod 1000 = q ∧ 0 ≤ q ∧ q < 1000 := by
    have a := Int.tmod_lt_of_pos p (show (0 : Int) < 1000 by decide)
    have b : -1000 < p.tmod 1000 := by have := Int.lt_tmod_of_pos p (show (0 : Int) < 1000 by decide); omega
    refine ⟨_, rfl, ?_, ?_⟩
    · rw [wrap64_id (by omega) (by omega)]; exact Int.tmod_nonneg _ (by omega)
    · exact Int.tmod_lt_of_pos _ (by decide)
  have A0 := Lib.hid (fun w => awake_any w)
  clear h1 h2
  go_enter Try.func3, Try.ntmps3
  go_wp2_with fail
  refine (A0.out _).mono ?_
  rintro e w0 ⟨rfl, m, rfl⟩
  go_wp2_with fail
  have HQ := Lib.hid hq
  clear hq A0
  have hb : Below w.heap.size w ((w.drewN m).alloc (.cells #[.int .i64 0, .int .i64 0, .int .i64 0] 24)) := Below.alloc (below_dn (Below.refl w.heap.size w) m) (Nat.le_refl _) _
  have hc : ((w.drewN m).alloc (.cells #[.int .i64 0, .int .i64 0, .int .i64 0] 24)).heap[w.heap.size]? = some (.cells #[.int .i64 0, .int .i64 0, .int .i64 0] 24) := alloc_new (w.drewN m) _
  have HC := Lib.hid hc
  clear hc
  go_loopw [5] (fun at_ wr => ∃ k : Nat, k ≤ 456 ∧ at_ = .int .i64 (ev q k) ∧ Below w.heap.size w wr ∧ Hid (wr.heap[w.heap.size]? = some (.cells #[.int .i64 (c0 k x), .int .i64 (c1 k x), .int .i64 (c2 k x)] 24))) (fun at_ _ => ((q + 1) * 280896 - intOf at_).toNat)
  case atStart =>
    refine ⟨0, by omega, by simp [ev], hb, Lib.hid ?_⟩
    rw [HC.out]
    have a0 : c0 0 x = 0 := rfl
    have a1 : c1 0 x = 0 := by simp [c1]
    have a2 : c2 0 x = 0 := by unfold c2; rw [if_neg (by omega)]
    rw [a0, a1, a2]
  case round =>
    obtain ⟨k, hk, rfl, hbw, hcw⟩ := hrel
    have hev := ev_in q k q0 q1 hk
    by_cases hlt : k < 456
    · have N1 := fun w => next_any (ev q k) hev.1 (by omega) w
      have S1 := fun w => asks_any (ev q k) x hev.1 (by omega) x0 (by omega) w
      rw [ev_next q k q0 hlt] at N1
      rw [ev_asks q x k q0 hlt x0] at S1
      have lt : decide (ev q k < (q + 1) * 280896) = true := by
        have : ev q k < (q + 1) * 280896 := by unfold ev; omega
        simpa using this
      obtain ⟨⟨b0, b1⟩, ⟨b2, b3⟩, b4, b5⟩ := dbit k x
      obtain ⟨⟨e0, e1⟩, ⟨e2, e3⟩, e4, e5⟩ := cbit k x hk
      have t0 := Lib.hid (step0 k x)
      have t1 := Lib.hid (step1 k x)
      have t2 := Lib.hid (step2 k x)
      have NH := Lib.hid N1
      have SH := Lib.hid S1
      clear N1 S1
      generalize d0 k x = u0 at *
      generalize d1 k x = u1 at *
      generalize d2 k x = u2 at *
      generalize c0 k x = v0 at *
      generalize c1 k x = v1 at *
      generalize c2 k x = v2 at *
      have g0 : Go.bits .and .u16 (u0 + 2 * u1 + 4 * u2) 1 = u0 := by rw [and1 (by omega) (by omega)]; omega
      have g1 : Go.bits .and .u16 ((u0 + 2 * u1 + 4 * u2) / 2) 1 = u1 := by rw [and1 (by omega) (by omega)]; omega
      have g2 : Go.bits .and .u16 ((u0 + 2 * u1 + 4 * u2) / 4) 1 = u2 := by rw [and1 (by omega) (by omega)]; omega
      have w0 : IntKind.i64.wrap u0 = u0 := by rw [IntKind.wrap_i64]; omega
      have w1 : IntKind.i64.wrap u1 = u1 := by rw [IntKind.wrap_i64]; omega
      have w2 : IntKind.i64.wrap u2 = u2 := by rw [IntKind.wrap_i64]; omega
      have y0 : IntKind.i64.wrap (v0 + u0) = v0 + u0 := by rw [IntKind.wrap_i64]; omega
      have y1 : IntKind.i64.wrap (v1 + u1) = v1 + u1 := by rw [IntKind.wrap_i64]; omega
      have y2 : IntKind.i64.wrap (v2 + u2) = v2 + u2 := by rw [IntKind.wrap_i64]; omega
      have hcw' := hcw.out
      clear hcw
      have C := cellsAt hcw'
      have F := freeAt hcw'
      have HW := Lib.hid hcw'
      clear hcw'
      go_wp2_with fail
      refine wp_loop_rounds 4 ?_
      rw [rounds_succ]
      go_wp2_with fail
      go_still_tail 12, (by kernel_rfl)
      still_call (flip (SH.out _))
      repeat still_step
      refine wpStill_nil ?_
      change wpList _ _ _ _ _ (World.drew _)
      go_wp2_with fail
      have h0 : ((wr.setCell ⟨w.heap.size, 0, none⟩ (.int .i64 (v0 + u0))).drew).heap[w.heap.size]? = _ := set_at _ HW.out
      have b0 := below_d1 (hbw.setCell (p := ⟨w.heap.size, 0, none⟩) (Nat.le_refl _) (.int .i64 (v0 + u0)))
      clear C F HW hbw
      generalize (wr.setCell ⟨w.heap.size, 0, none⟩ (.int .i64 (v0 + u0))).drew = wa at *
      have hbw := b0
      clear b0
      have C := cellsAt h0
      have F := freeAt h0
      have HW := Lib.hid h0
      clear h0
      rw [rounds_succ]
      go_wp2_with fail
      go_still_tail 12, (by kernel_rfl)
      still_call (flip (SH.out _))
      repeat still_step
      refine wpStill_nil ?_
      change wpList _ _ _ _ _ (World.drew _)
      go_wp2_with fail
      have h1 : ((wa.setCell ⟨w.heap.size, 1, none⟩ (.int .i64 (v1 + u1))).drew).heap[w.heap.size]? = _ := set_at _ HW.out
      have b1 := below_d1 (hbw.setCell (p := ⟨w.heap.size, 1, none⟩) (Nat.le_refl _) (.int .i64 (v1 + u1)))
      clear C F HW hbw
      generalize (wa.setCell ⟨w.heap.size, 1, none⟩ (.int .i64 (v1 + u1))).drew = wb at *
      have hbw := b1
      clear b1
      have C := cellsAt h1
      have F := freeAt h1
      have HW := Lib.hid h1
      clear h1
      rw [rounds_succ]
      go_wp2_with fail
      go_still_tail 12, (by kernel_rfl)
      still_call (flip (SH.out _))
      repeat still_step
      refine wpStill_nil ?_
      change wpList _ _ _ _ _ (World.drew _)
      go_wp2_with fail
      have h2 : ((wb.setCell ⟨w.heap.size, 2, none⟩ (.int .i64 (v2 + u2))).drew).heap[w.heap.size]? = _ := set_at _ HW.out
      have b2 := below_d1 (hbw.setCell (p := ⟨w.heap.size, 2, none⟩) (Nat.le_refl _) (.int .i64 (v2 + u2)))
      clear C F HW hbw
      generalize (wb.setCell ⟨w.heap.size, 2, none⟩ (.int .i64 (v2 + u2))).drew = wc at *
      have hbw := b2
      clear b2
      have C := cellsAt h2
      have F := freeAt h2
      have HW := Lib.hid h2
      clear h2
      rw [rounds_succ]
      go_wp2_with (go_at_call 8; refine (NH.out _).mono ?_; rintro e w' ⟨rfl, rfl⟩)
      go_roundw
      case rel =>
        refine ⟨k + 1, by omega, rfl, hbw, Lib.hid ?_⟩
        rw [← t0.out, ← t1.out, ← t2.out]
        exact HW.out
      case measure =>
        simp [intOf]
        unfold ev
        omega
    · obtain rfl : k = 456 := by omega
      have C := cellsAt hcw.out
      have zz := sizeAt hcw.out
      have e0 : ev q 456 = (q + 1) * 280896 := by unfold ev; omega
      have a0 : c0 456 x = x / 8 % 2 := rfl
      have a1 : c1 456 x = x / 16 % 2 * 228 := by unfold c1; omega
      have a2 : c2 456 x = if 228 ≤ x / 256 then 0 else x / 32 % 2 := by
        unfold c2
        by_cases c : 228 ≤ x / 256
        · rw [if_neg (by omega), if_pos c]
        · rw [if_pos (by omega), if_neg c]
      rw [e0]
      rw [a0, a1, a2] at C
      clear hcw e0 a0 a1 a2 hev
      have g1 : Go.bits .and .u16 (x / 8) 1 = x / 8 % 2 := and1 (by omega) (by omega)
      have g2 : Go.bits .and .u16 (x / 16) 1 = x / 16 % 2 := and1 (by omega) (by omega)
      have g3 : Go.bits .and .u16 (x / 32) 1 = x / 32 % 2 := and1 (by omega) (by omega)
      have EQ := fun a b c w => arr3_same 9998 a b c w
      by_cases c : 228 ≤ x / 256
      · rw [if_pos c] at C
        have c' : decide (228 ≤ x / 256) = true := by simpa using c
        go_wp2
        go_ret
        exact ⟨rfl, hbw.alloc (by omega) _⟩
      · rw [if_neg c] at C
        have c' : decide (228 ≤ x / 256) = false := by simpa using c
        go_wp2
        go_ret
        exact ⟨rfl, hbw.alloc (by omega) _⟩
end Go.Proofs.Ytmdjhdpgbpfedaa.Be
