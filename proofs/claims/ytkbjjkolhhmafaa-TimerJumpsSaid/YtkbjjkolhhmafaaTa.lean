/- Package timer, walked. -/
import Derived.Test.YtkbjjkolhhmafaaProg
import Derived.Test.YtkbjjkolhhmafaaBt
import Derived.Test.YtkbjjkolhhmafaaWk
import Derived.Test.YtkbjjkolhhmafaaSg
import Derived.WalkLawsBesides
import Derived.Outline
import Derived.Lib.Hide
import Derived.Deep.QuietTactic
import Derived.BigQuiet
import Derived.RegionTactic
import Derived.ChangeAlike
import Derived.LoopTactic
import Derived.StillTailTactics
namespace Go.Proofs.Ytkbjjkolhhmafaa.Ta
set_option linter.unusedVariables false
set_option linter.unusedSimpArgs false
open Go.RowKit Go.Proofs.Ytkbjjkolhhmafaa.Bt Go.Proofs.Ytkbjjkolhhmafaa.Wk Go.Proofs.Ytkbjjkolhhmafaa.Sg

/-- One timer's words. -/
structure One where
  re : Int
  ct : Int
  co : Int
  si : Int
def One.fld (o : One) : Nat → Value
  | 0 => .int .i64 o.re
  | 1 => .int .u16 o.ct
  | 2 => .int .i64 o.co
  | _ => .int .i64 o.si
/-- Four timers, and what lies behind them. -/
def tl (T : Nat → One) (L : List Value) : List Value := seg 16 (fun k => (T (k / 4)).fld (k % 4)) ++ L
def tim (T : Nat → One) : Obj := .cells (tl T []).toArray 56 (0, 0)
theorem tl_at (T : Nat → One) (L : List Value) {i j : Nat} (hi : i < 4) (hj : j < 4) : (tl T L).toArray[i * 4 + j]? = some ((T i).fld j) := by
  rw [toArray_at]
  unfold tl
  rw [seg_in _ _ (by omega)]
  rw [show (i * 4 + j) / 4 = i by omega, show (i * 4 + j) % 4 = j by omega]
theorem tl_set (T : Nat → One) (L : List Value) {i j : Nat} (hi : i < 4) (hj : j < 4) (o : One) (v : Value) (h : o.fld j = v) (h' : ∀ m, m < 4 → m ≠ j → o.fld m = (T i).fld m) :
    (tl T L).toArray.setIfInBounds (i * 4 + j) v = (tl (upd T i o) L).toArray := by
  rw [toArray_set]
  unfold tl
  rw [seg_set_in _ _ _ (by omega)]
  congr 2
  refine seg_congr fun k hk => ?_
  unfold upd
  by_cases e : k = i * 4 + j
  · subst e
    rw [if_pos rfl, if_pos (by omega), show (i * 4 + j) % 4 = j by omega, h]
  · rw [if_neg e]
    by_cases e2 : k / 4 = i
    · rw [if_pos e2, h' (k % 4) (by omega) (by omega)]
      show (T (k / 4)).fld (k % 4) = _
      rw [e2]
    · rw [if_neg e2]
def runsB (o : One) : Bool := o.ct / 128 % 2 == 1
def stp (o : One) : Int := if o.ct % 4 = 0 then 1 else if o.ct % 4 = 1 then 64 else if o.ct % 4 = 2 then 256 else 1024
theorem stp_pos (o : One) : 1 ≤ stp o ∧ stp o ≤ 1024 := by
  unfold stp
  repeat' split
  all_goals omega
theorem and_h {a : Int} (h0 : 0 ≤ a) (h1 : a < 65536) (i : Nat) (hi : i ≤ 16) (n : Int) (hn : (2 : Int) ^ i - 1 = n) (m : Int) (hm : (2 : Int) ^ i = m) : Go.bits .and .u16 a n = a % m := by
  rw [← hn, and_mask_u16 h0 h1 i hi, hm]
set_option maxHeartbeats 1000000 in
theorem runs_any (b o : Nat) (x : Int) (h0 : 0 ≤ x) (h1 : x < 65536) (w : World) (hc : w.cell? ⟨b, o + 1, none⟩ = some (.int .u16 x)) :
    Calls Try.prog 24 #[.pointer (some ⟨b, o, none⟩)] w fun e w' => e = .returned (.bool (x / 128 % 2 == 1)) ∧ w = w' := by
  have g : Go.bits .and .u16 (x / 128) 1 = x / 128 % 2 := and_h (by omega) (by omega) 1 (by decide) _ (by decide) _ (by decide)
  go_enter Try.func24, Try.ntmps24
  go_wp2
  go_ret
  exact ⟨rfl, rfl⟩
theorem at4 (x : Int) (h0 : 0 ≤ x) (h1 : x < 4) (w : World) :
    (Instr.index 43 (.agg #[.int .i64 1, .int .i64 64, .int .i64 256, .int .i64 1024]) (.int .u16 x)).run Try.prog w = .ok (.int .i64 (if x = 0 then 1 else if x = 1 then 64 else if x = 2 then 256 else 1024)) w := by
  have i0 : ∀ w, (Instr.index 43 (.agg #[.int .i64 1, .int .i64 64, .int .i64 256, .int .i64 1024]) (.int .u16 0)).run Try.prog w = .ok (.int .i64 1) w := fun _ => by kernel_rfl
  have i1 : ∀ w, (Instr.index 43 (.agg #[.int .i64 1, .int .i64 64, .int .i64 256, .int .i64 1024]) (.int .u16 1)).run Try.prog w = .ok (.int .i64 64) w := fun _ => by kernel_rfl
  have i2 : ∀ w, (Instr.index 43 (.agg #[.int .i64 1, .int .i64 64, .int .i64 256, .int .i64 1024]) (.int .u16 2)).run Try.prog w = .ok (.int .i64 256) w := fun _ => by kernel_rfl
  have i3 : ∀ w, (Instr.index 43 (.agg #[.int .i64 1, .int .i64 64, .int .i64 256, .int .i64 1024]) (.int .u16 3)).run Try.prog w = .ok (.int .i64 1024) w := fun _ => by kernel_rfl
  have : x = 0 ∨ x = 1 ∨ x = 2 ∨ x = 3 := by omega
  rcases this with rfl | rfl | rfl | rfl
  · exact i0 w
  · exact i1 w
  · exact i2 w
  · exact i3 w
set_option maxHeartbeats 1000000 in
theorem step_any (b i : Nat) (o : One) (h0 : 0 ≤ o.ct) (h1 : o.ct < 65536) (w : World) (hc : w.cell? ⟨b, i + 1, none⟩ = some (.int .u16 o.ct)) :
    Calls Try.prog 20 #[.pointer (some ⟨b, i, none⟩)] w fun e w' => e = .returned (.int .i64 (stp o)) ∧ w = w' := by
  have g : Go.bits .and .u16 o.ct 3 = o.ct % 4 := and_h (by omega) (by omega) 2 (by decide) _ (by decide) _ (by decide)
  have e : ∀ w, (Instr.index 43 (.agg #[.int .i64 1, .int .i64 64, .int .i64 256, .int .i64 1024]) (.int .u16 (o.ct % 4))).run Try.prog w = .ok (.int .i64 (stp o)) w := fun w => at4 _ (by omega) (by omega) w
  go_enter Try.func20, Try.ntmps20
  go_wp2
  go_ret
  exact ⟨rfl, rfl⟩
def freeB (T : Nat → One) (i : Nat) : Bool := runsB (T i) && (i == 0 || (T i).ct / 4 % 2 == 0)
set_option maxHeartbeats 1000000 in
theorem free_any (b i : Nat) (T : Nat → One) (L : List Value) (hi : i < 4) (h0 : 0 ≤ (T i).ct) (h1 : (T i).ct < 65536) (ty : TypeId) (w : World) (hs : w.heap[b]? = some (.cells (tl T L).toArray ty (0, 0))) :
    Calls Try.prog 19 #[.pointer (some ⟨b, 0, none⟩), .int .i64 i] w fun e w' => e = .returned (.bool (freeB T i)) ∧ ∃ n, w' = w.drewN n := by
  have C : w.cell? ⟨b, i * 4 + 1, none⟩ = some (.int .u16 (T i).ct) := (cellsAt hs _).trans (tl_at T L hi (j := 1) (by decide))
  have R := Lib.hid (runs_any b (i * 4) (T i).ct h0 h1 w C)
  have g : Go.bits .and .u16 ((T i).ct / 4) 1 = (T i).ct / 4 % 2 := and_h (by omega) (by omega) 1 (by decide) _ (by decide) _ (by decide)
  clear hs
  unfold freeB runsB
  generalize (T i).ct = x at *
  cases hr : (x / 128 % 2 == 1)
  · rw [hr] at R
    have hrH := Lib.hid hr
    clear hr
    go_enter Try.func19, Try.ntmps19
    go_wp2_with (go_at_call 24; refine R.out.mono ?_; rintro e w' ⟨rfl, rfl⟩)
    go_ret
    exact ⟨rfl, 0, rfl⟩
  · rw [hr] at R
    have hrH := Lib.hid hr
    clear hr
    by_cases e : i = 0
    · subst e
      go_enter Try.func19, Try.ntmps19
      go_wp2_with (go_at_call 24; refine R.out.mono ?_; rintro e w' ⟨rfl, rfl⟩)
      go_ret
      exact ⟨rfl, 0, rfl⟩
    · have d : ((i : Int) == 0) = false := by simpa using e
      have d2 : (i == 0) = false := by simpa using e
      go_enter Try.func19, Try.ntmps19
      go_wp2_with (go_at_call 24; refine R.out.mono ?_; rintro e w' ⟨rfl, rfl⟩)
      go_ret
      refine ⟨?_, 0, rfl⟩
      rw [d2]; rfl
/-- A timer's count at a cycle. -/
def valueV (T : Nat → One) (i : Nat) (now : Int) : Int := if freeB T i = true then (T i).co + max 0 (now - (T i).si) / stp (T i) else (T i).co
/-- Bounds of a timer's words. -/
structure Ok (o : One) : Prop where
  re0 : 0 ≤ o.re
  re1 : o.re ≤ 65535
  ct0 : 0 ≤ o.ct
  ct1 : o.ct < 65536
  co0 : 0 ≤ o.co
  co1 : o.co ≤ 65536
  si0 : 0 ≤ o.si
  si1 : o.si ≤ 1099511627776
theorem value_in (T : Nat → One) (i : Nat) (now : Int) (h : Ok (T i)) (n1 : now ≤ 1099511627776) : 0 ≤ valueV T i now ∧ valueV T i now ≤ 1099511693312 := by
  have s := stp_pos (T i)
  obtain ⟨_, _, _, _, c0, c1, s0, s1⟩ := h
  have q0 : 0 ≤ max 0 (now - (T i).si) / stp (T i) := Int.ediv_nonneg (by omega) (by omega)
  have q1 : max 0 (now - (T i).si) / stp (T i) ≤ max 0 (now - (T i).si) := Int.ediv_le_self _ (by omega)
  unfold valueV
  split <;> omega
set_option maxHeartbeats 1000000 in
theorem value_any (b i : Nat) (T : Nat → One) (L : List Value) (hi : i < 4) (h : Ok (T i)) (now : Int) (n0 : 0 ≤ now) (n1 : now ≤ 1099511627776) (ty : TypeId) (w : World) (hs : w.heap[b]? = some (.cells (tl T L).toArray ty (0, 0))) :
    Calls Try.prog 25 #[.pointer (some ⟨b, 0, none⟩), .int .i64 i, .int .i64 now] w fun e w' => e = .returned (.int .i64 (valueV T i now)) ∧ ∃ n, w' = w.drewN n := by
  have C0 : w.cell? ⟨b, i * 4 + 1, none⟩ = some (.int .u16 (T i).ct) := (cellsAt hs _).trans (tl_at T L hi (j := 1) (by decide))
  have C2 : w.cell? ⟨b, i * 4 + 2, none⟩ = some (.int .i64 (T i).co) := (cellsAt hs _).trans (tl_at T L hi (j := 2) (by decide))
  have C3 : w.cell? ⟨b, i * 4 + 3, none⟩ = some (.int .i64 (T i).si) := (cellsAt hs _).trans (tl_at T L hi (j := 3) (by decide))
  have R := Lib.hid (free_any b i T L hi h.ct0 h.ct1 ty w hs)
  have S := Lib.hid (fun n => step_any b (i * 4) (T i) h.ct0 h.ct1 (w.drewN n) C0)
  have s := stp_pos (T i)
  obtain ⟨_, _, _, _, c0, c1, s0, s1⟩ := h
  have q0 : 0 ≤ max 0 (now - (T i).si) / stp (T i) := Int.ediv_nonneg (by omega) (by omega)
  have q1 : max 0 (now - (T i).si) / stp (T i) ≤ max 0 (now - (T i).si) := Int.ediv_le_self _ (by omega)
  clear hs
  unfold valueV
  cases hf : freeB T i
  · rw [hf] at R
    have hfH := Lib.hid hf
    clear hf
    go_enter Try.func25, Try.ntmps25
    go_wp2_with (go_at_call 19; refine R.out.mono ?_; rintro e w' ⟨rfl, n, rfl⟩)
    go_ret
    exact ⟨rfl, _, rfl⟩
  · rw [hf] at R
    have hfH := Lib.hid hf
    clear hf
    generalize stp (T i) = st at *
    generalize (T i).co = co at *
    generalize (T i).si = si at *
    have e1 : IntKind.i64.wrap (now - si) = now - si := by rw [IntKind.wrap_i64]; omega
    have st0 : st ≠ 0 := by omega
    have e2 : (max 0 (now - si)).tdiv st = max 0 (now - si) / st := Int.tdiv_eq_ediv_of_nonneg (by omega)
    have e3 : IntKind.i64.wrap (max 0 (now - si) / st) = max 0 (now - si) / st := by rw [IntKind.wrap_i64]; omega
    have e4 : IntKind.i64.wrap (co + max 0 (now - si) / st) = co + max 0 (now - si) / st := by rw [IntKind.wrap_i64]; omega
    go_enter Try.func25, Try.ntmps25
    go_wp2_with (go_at_call 19; refine R.out.mono ?_; rintro e w' ⟨rfl, n, rfl⟩)
    go_quiet ((go_at_call 20; exact quiet_add_same (flip (S.out _))))
    go_wp2
    all_goals
      go_ret
      refine ⟨ret_i ?_, _, rfl⟩
      clear R S C0 C2 C3 e1 e2 e3 e4
      first
        | (have m : max 0 (now - si) = now - si := by omega
           rw [m] at q0 q1 ⊢
           exact wrap64_id (by omega) (by omega))
        | (have m : max 0 (now - si) = 0 := by omega
           rw [m] at q0 q1 ⊢
           rw [Int.zero_ediv, Int.add_zero]
           exact wrap64_id (by omega) (by omega))
set_option maxHeartbeats 1000000 in
theorem read_any (b i : Nat) (T : Nat → One) (hi : i < 4) (h : Ok (T i)) (now : Int) (n0 : 0 ≤ now) (n1 : now ≤ 1099511627776) (w : World) (hs : w.heap[b]? = some (tim T)) :
    Calls Try.prog 16 #[.pointer (some ⟨b, 0, none⟩), .int .i64 i, .int .i64 now] w fun e w' => e = .returned (.int .u16 (valueV T i now % 65536)) ∧ ∃ n, w' = w.drewN n := by
  have R := Lib.hid (value_any b i T [] hi h now n0 n1 56 w hs)
  have v := value_in T i now h n1
  clear hs h
  generalize valueV T i now = x at *
  go_enter Try.func16, Try.ntmps16
  go_wp2_with (go_at_call 25; refine R.out.mono ?_; rintro e w' ⟨rfl, n, rfl⟩)
  go_ret
  exact ⟨rfl, _, rfl⟩
set_option maxHeartbeats 1000000 in
theorem read_no (p : Value) (i now : Int) (w : World) (h : p = .pointer none ∨ (∃ b, p = .pointer (some ⟨b, 0, none⟩)) ∧ ¬ (0 ≤ i ∧ i < 4)) :
    Calls Try.prog 16 #[p, .int .i64 i, .int .i64 now] w fun e w' => e = .returned (.int .u16 0) ∧ w = w' := by
  rcases h with rfl | ⟨⟨b, rfl⟩, h⟩
  · go_enter Try.func16, Try.ntmps16
    go_wp2
    go_ret
    exact ⟨rfl, rfl⟩
  · by_cases c : i < 0
    · go_enter Try.func16, Try.ntmps16
      go_wp2
      go_ret
      exact ⟨rfl, rfl⟩
    · have d1 : decide (i < 0) = false := by simpa using c
      have d2 : decide (3 < i) = true := decide_eq_true (by omega)
      go_enter Try.func16, Try.ntmps16
      go_wp2
      go_ret
      exact ⟨rfl, rfl⟩
set_option maxHeartbeats 1000000 in
theorem control_any (b i : Nat) (T : Nat → One) (hi : i < 4) (w : World) (hs : w.heap[b]? = some (tim T)) :
    Calls Try.prog 17 #[.pointer (some ⟨b, 0, none⟩), .int .i64 i] w fun e w' => e = .returned (.int .u16 (T i).ct) ∧ w = w' := by
  have C : w.cell? ⟨b, i * 4 + 1, none⟩ = some (.int .u16 (T i).ct) := (cellsAt hs _).trans (tl_at T [] hi (j := 1) (by decide))
  clear hs
  go_enter Try.func17, Try.ntmps17
  go_wp2
  go_ret
  exact ⟨rfl, rfl⟩
set_option maxHeartbeats 1000000 in
theorem control_no (p : Value) (i : Int) (w : World) (h : p = .pointer none ∨ (∃ b, p = .pointer (some ⟨b, 0, none⟩)) ∧ ¬ (0 ≤ i ∧ i < 4)) :
    Calls Try.prog 17 #[p, .int .i64 i] w fun e w' => e = .returned (.int .u16 0) ∧ w = w' := by
  rcases h with rfl | ⟨⟨b, rfl⟩, h⟩
  · go_enter Try.func17, Try.ntmps17
    go_wp2
    go_ret
    exact ⟨rfl, rfl⟩
  · by_cases c : i < 0
    · go_enter Try.func17, Try.ntmps17
      go_wp2
      go_ret
      exact ⟨rfl, rfl⟩
    · have d1 : decide (i < 0) = false := by simpa using c
      have d2 : decide (3 < i) = true := decide_eq_true (by omega)
      go_enter Try.func17, Try.ntmps17
      go_wp2
      go_ret
      exact ⟨rfl, rfl⟩
set_option maxHeartbeats 1000000 in
theorem asks_any (b i : Nat) (T : Nat → One) (hi : i < 4) (h0 : 0 ≤ (T i).ct) (h1 : (T i).ct < 65536) (w : World) (hs : w.heap[b]? = some (tim T)) :
    Calls Try.prog 18 #[.pointer (some ⟨b, 0, none⟩), .int .i64 i] w fun e w' => e = .returned (.bool ((T i).ct / 64 % 2 == 1)) ∧ w = w' := by
  have R := Lib.hid (control_any b i T hi w hs)
  have g : Go.bits .and .u16 ((T i).ct / 64) 1 = (T i).ct / 64 % 2 := and_h (by omega) (by omega) 1 (by decide) _ (by decide) _ (by decide)
  clear hs
  generalize (T i).ct = x at *
  go_enter Try.func18, Try.ntmps18
  go_wp2_with (go_at_call 17; refine R.out.mono ?_; rintro e w' ⟨rfl, rfl⟩)
  go_ret
  exact ⟨rfl, rfl⟩
set_option maxHeartbeats 1000000 in
theorem asks_no (p : Value) (i : Int) (w : World) (h : p = .pointer none ∨ (∃ b, p = .pointer (some ⟨b, 0, none⟩)) ∧ ¬ (0 ≤ i ∧ i < 4)) :
    Calls Try.prog 18 #[p, .int .i64 i] w fun e w' => e = .returned (.bool false) ∧ w = w' := by
  have R := Lib.hid (control_no p i w h)
  have g : Go.bits .and .u16 0 1 = 0 := by decide
  clear h
  go_enter Try.func18, Try.ntmps18
  go_wp2_with (go_at_call 17; refine R.out.mono ?_; rintro e w' ⟨rfl, rfl⟩)
  go_ret
  exact ⟨rfl, rfl⟩
set_option maxHeartbeats 1000000 in
theorem setReload_any (b i : Nat) (T : Nat → One) (hi : i < 4) (x : Int) (x0 : 0 ≤ x) (x1 : x < 65536) (w : World) (hs : w.heap[b]? = some (tim T)) :
    Calls Try.prog 13 #[.pointer (some ⟨b, 0, none⟩), .int .i64 i, .int .u16 x] w fun e w' => e = .returned (.tuple #[]) ∧ Only b (tim (upd T i { T i with re := x })) w w' := by
  have C : w.cell? ⟨b, i * 4, none⟩ = some (.int .i64 (T i).re) := (cellsAt hs (i * 4 + 0)).trans (tl_at T [] hi (j := 0) (by decide))
  have F := freeAt hs
  have O : Only b (tim (upd T i { T i with re := x })) w (w.setCell ⟨b, i * 4, none⟩ (.int .i64 x)) := ((Only.refl hs).set (j := i * 4 + 0) _).to (by
    rw [tl_set T [] hi (j := 0) (by decide) { T i with re := x } (.int .i64 x) rfl (fun m hm hn => by
    have : m = 1 ∨ m = 2 ∨ m = 3 := by omega
    rcases this with rfl | rfl | rfl <;> rfl)]; rfl)
  have OH := Lib.hid O
  clear hs O
  go_enter Try.func13, Try.ntmps13
  go_wp2
  go_end0
  exact ⟨rfl, OH.out⟩
set_option maxHeartbeats 1000000 in
theorem setReload_no (p : Value) (i x : Int) (w : World) (h : p = .pointer none ∨ (∃ b, p = .pointer (some ⟨b, 0, none⟩)) ∧ ¬ (0 ≤ i ∧ i < 4)) :
    Calls Try.prog 13 #[p, .int .i64 i, .int .u16 x] w fun e w' => e = .returned (.tuple #[]) ∧ w = w' := by
  rcases h with rfl | ⟨⟨b, rfl⟩, h⟩
  · go_enter Try.func13, Try.ntmps13
    go_wp2
    go_end0
    exact ⟨rfl, rfl⟩
  · by_cases c : i < 0
    · have d1 : decide (0 ≤ i) = false := decide_eq_false (by omega)
      go_enter Try.func13, Try.ntmps13
      go_wp2
      go_end0
      exact ⟨rfl, rfl⟩
    · have d1 : decide (0 ≤ i) = true := decide_eq_true (by omega)
      have d2 : decide (i ≤ 3) = false := decide_eq_false (by omega)
      go_enter Try.func13, Try.ntmps13
      go_wp2
      go_end0
      exact ⟨rfl, rfl⟩
set_option maxHeartbeats 1000000 in
theorem setControl_no (p : Value) (i now x : Int) (w : World) (h : p = .pointer none ∨ (∃ b, p = .pointer (some ⟨b, 0, none⟩)) ∧ ¬ (0 ≤ i ∧ i < 4)) :
    Calls Try.prog 14 #[p, .int .i64 i, .int .i64 now, .int .u16 x] w fun e w' => e = .returned (.tuple #[]) ∧ w = w' := by
  rcases h with rfl | ⟨⟨b, rfl⟩, h⟩
  · go_enter Try.func14, Try.ntmps14
    go_wp2
    refine bodyPost_ret (results_none rfl _ _ _) rfl ?_
    exact ⟨rfl, rfl⟩
  · by_cases c : i < 0
    · go_enter Try.func14, Try.ntmps14
      go_wp2
      refine bodyPost_ret (results_none rfl _ _ _) rfl ?_
      exact ⟨rfl, rfl⟩
    · have d1 : decide (i < 0) = false := by simpa using c
      have d2 : decide (3 < i) = true := decide_eq_true (by omega)
      go_enter Try.func14, Try.ntmps14
      go_wp2
      refine bodyPost_ret (results_none rfl _ _ _) rfl ?_
      exact ⟨rfl, rfl⟩
/-- A timer behind another control word. -/
def setC (T : Nat → One) (i : Nat) (now x : Int) : One :=
  { re := (T i).re, ct := Go.bits .and .u16 x 199, co := if (!runsB (T i) && Go.bits .and .u16 x 199 / 128 % 2 == 1) = true then (T i).re else valueV T i now, si := now }
theorem upd_upd {α : Type} (f : Nat → α) (i : Nat) (a b : α) : upd (upd f i a) i b = upd f i b := by
  funext k; unfold upd; split <;> rfl
theorem set_re {b i : Nat} {T : Nat → One} {L : List Value} {ty : TypeId} {w W : World} (h : Only b (.cells (tl T L).toArray ty (0, 0)) w W) (hi : i < 4) (v : Int) : Only b (.cells (tl (upd T i { T i with re := v }) L).toArray ty (0, 0)) w (W.setCell ⟨b, i * 4, none⟩ (.int .i64 v)) :=
  (h.set (j := i * 4 + 0) _).to (by rw [tl_set T L hi (j := 0) (by decide) { T i with re := v } (.int .i64 v) rfl (fun m hm hn => by
    have : m = 1 ∨ m = 2 ∨ m = 3 := by omega
    rcases this with rfl | rfl | rfl <;> rfl)])
theorem set_ct {b i : Nat} {T : Nat → One} {L : List Value} {ty : TypeId} {w W : World} (h : Only b (.cells (tl T L).toArray ty (0, 0)) w W) (hi : i < 4) (v : Int) : Only b (.cells (tl (upd T i { T i with ct := v }) L).toArray ty (0, 0)) w (W.setCell ⟨b, i * 4 + 1, none⟩ (.int .u16 v)) :=
  (h.set (j := i * 4 + 1) _).to (by rw [tl_set T L hi (j := 1) (by decide) { T i with ct := v } (.int .u16 v) rfl (fun m hm hn => by
    have : m = 0 ∨ m = 2 ∨ m = 3 := by omega
    rcases this with rfl | rfl | rfl <;> rfl)])
theorem set_co {b i : Nat} {T : Nat → One} {L : List Value} {ty : TypeId} {w W : World} (h : Only b (.cells (tl T L).toArray ty (0, 0)) w W) (hi : i < 4) (v : Int) : Only b (.cells (tl (upd T i { T i with co := v }) L).toArray ty (0, 0)) w (W.setCell ⟨b, i * 4 + 2, none⟩ (.int .i64 v)) :=
  (h.set (j := i * 4 + 2) _).to (by rw [tl_set T L hi (j := 2) (by decide) { T i with co := v } (.int .i64 v) rfl (fun m hm hn => by
    have : m = 0 ∨ m = 1 ∨ m = 3 := by omega
    rcases this with rfl | rfl | rfl <;> rfl)])
theorem set_si {b i : Nat} {T : Nat → One} {L : List Value} {ty : TypeId} {w W : World} (h : Only b (.cells (tl T L).toArray ty (0, 0)) w W) (hi : i < 4) (v : Int) : Only b (.cells (tl (upd T i { T i with si := v }) L).toArray ty (0, 0)) w (W.setCell ⟨b, i * 4 + 3, none⟩ (.int .i64 v)) :=
  (h.set (j := i * 4 + 3) _).to (by rw [tl_set T L hi (j := 3) (by decide) { T i with si := v } (.int .i64 v) rfl (fun m hm hn => by
    have : m = 0 ∨ m = 1 ∨ m = 2 := by omega
    rcases this with rfl | rfl | rfl <;> rfl)])
theorem Only.cases {b i : Nat} {T T' : Nat → One} {L : List Value} {ty : TypeId} {w W : World} (h : Only b (.cells (tl T L).toArray ty (0, 0)) w W) (e : T = T') : Only b (.cells (tl T' L).toArray ty (0, 0)) w W := e ▸ h
/-- A timer's four cells. -/
structure Four (b i : Nat) (o : One) (w : World) : Prop where
  c0 : w.cell? ⟨b, i * 4, none⟩ = some (.int .i64 o.re)
  c1 : w.cell? ⟨b, i * 4 + 1, none⟩ = some (.int .u16 o.ct)
  c2 : w.cell? ⟨b, i * 4 + 2, none⟩ = some (.int .i64 o.co)
  c3 : w.cell? ⟨b, i * 4 + 3, none⟩ = some (.int .i64 o.si)
theorem four {b i : Nat} {T : Nat → One} {L : List Value} {ty : TypeId} {w : World} (hs : w.heap[b]? = some (.cells (tl T L).toArray ty (0, 0))) (hi : i < 4) : Four b i (T i) w :=
  ⟨(cellsAt hs (i * 4 + 0)).trans (tl_at T L hi (j := 0) (by decide)), (cellsAt hs _).trans (tl_at T L hi (j := 1) (by decide)), (cellsAt hs _).trans (tl_at T L hi (j := 2) (by decide)), (cellsAt hs _).trans (tl_at T L hi (j := 3) (by decide))⟩
set_option maxHeartbeats 2000000 in
theorem setControl_any (b i : Nat) (T : Nat → One) (hi : i < 4) (h : Ok (T i)) (now x : Int) (n0 : 0 ≤ now) (n1 : now ≤ 1099511627776) (y : Int) (hy : Go.bits .and .u16 x 199 = y) (y0 : 0 ≤ y) (y1 : y < 65536) (w : World) (hs : w.heap[b]? = some (tim T)) :
    Calls Try.prog 14 #[.pointer (some ⟨b, 0, none⟩), .int .i64 i, .int .i64 now, .int .u16 x] w fun e w' => e = .returned (.tuple #[]) ∧ Only b (tim (upd T i (setC T i now x))) w w' := by
  obtain ⟨C0, C1, C2, C3⟩ := four hs hi
  have V := Lib.hid (value_any b i T [] hi h now n0 n1 56 w hs)
  have FF := freeAt hs
  have d1 : decide ((i : Int) < 0) = false := decide_eq_false (by omega)
  have d2 : decide (3 < (i : Int)) = false := decide_eq_false (by omega)
  have O : ∀ n v, Only b (tim (upd T i { re := (T i).re, ct := y, co := v, si := now })) w ((((w.drewN n).setCell ⟨b, i * 4 + 2, none⟩ (.int .i64 v)).setCell ⟨b, i * 4 + 3, none⟩ (.int .i64 now)).setCell ⟨b, i * 4 + 1, none⟩ (.int .u16 y)) := fun n v => by
    have := set_ct (set_si (set_co (((Only.refl hs).drewN n)) hi v) hi now) hi y
    simp only [upd_same, upd_upd] at this
    exact this
  have O2 : ∀ n v, Only b (tim (upd T i { re := (T i).re, ct := y, co := (T i).re, si := now })) w (((((w.drewN n).setCell ⟨b, i * 4 + 2, none⟩ (.int .i64 v)).setCell ⟨b, i * 4 + 3, none⟩ (.int .i64 now)).setCell ⟨b, i * 4 + 1, none⟩ (.int .u16 y)).setCell ⟨b, i * 4 + 2, none⟩ (.int .i64 (T i).re)) := fun n v => by
    have := set_co (set_ct (set_si (set_co (((Only.refl hs).drewN n)) hi v) hi now) hi y) hi (T i).re
    simp only [upd_same, upd_upd] at this
    exact this
  have OH := Lib.hid O
  have O2H := Lib.hid O2
  have S : setC T i now x = { re := (T i).re, ct := y, co := if (!runsB (T i) && y / 128 % 2 == 1) = true then (T i).re else valueV T i now, si := now } := by unfold setC; rw [hy]
  have SH := Lib.hid S
  have r : runsB (T i) = ((T i).ct / 128 % 2 == 1) := rfl
  have ct0 := h.ct0
  have ct1 := h.ct1
  clear hs O O2 S
  generalize runsB (T i) = rb at *
  cases hr : ((T i).ct / 128 % 2 == 1) <;> cases hq : (y / 128 % 2 == 1)
  · have e := SH.out
    rw [r, hr, hq] at e
    have eH := Lib.hid e
    have R1 := fun W hc => runs_any b (i * 4) (T i).ct ct0 ct1 W hc
    have R2 := fun W hc => runs_any b (i * 4) y y0 y1 W hc
    rw [hr] at R1
    rw [hq] at R2
    have R1H := Lib.hid R1
    have R2H := Lib.hid R2
    clear e r hr hq R1 R2 SH
    generalize (T i).ct = ct at *
    generalize (T i).re = re at *
    generalize (T i).co = co at *
    generalize (T i).si = si at *
    generalize valueV T i now = v at *
    go_enter Try.func14, Try.ntmps14
    go_wp2_with (go_at_call 25; refine V.out.mono ?_; rintro e w' ⟨rfl, n, rfl⟩)
    refine (R1H.out _ (by go_simp)).mono ?_
    rintro e w' ⟨rfl, rfl⟩
    go_wp2_with fail
    refine (R2H.out _ (by go_simp)).mono ?_
    rintro e w' ⟨rfl, rfl⟩
    go_wp2_with fail
    go_end0
    rw [eH.out]
    exact ⟨rfl, OH.out n v⟩
  · have e := SH.out
    rw [r, hr, hq] at e
    have eH := Lib.hid e
    have R1 := fun W hc => runs_any b (i * 4) (T i).ct ct0 ct1 W hc
    have R2 := fun W hc => runs_any b (i * 4) y y0 y1 W hc
    rw [hr] at R1
    rw [hq] at R2
    have R1H := Lib.hid R1
    have R2H := Lib.hid R2
    clear e r hr hq R1 R2 SH
    generalize (T i).ct = ct at *
    generalize (T i).re = re at *
    generalize (T i).co = co at *
    generalize (T i).si = si at *
    generalize valueV T i now = v at *
    go_enter Try.func14, Try.ntmps14
    go_wp2_with (go_at_call 25; refine V.out.mono ?_; rintro e w' ⟨rfl, n, rfl⟩)
    refine (R1H.out _ (by go_simp)).mono ?_
    rintro e w' ⟨rfl, rfl⟩
    go_wp2_with fail
    refine (R2H.out _ (by go_simp)).mono ?_
    rintro e w' ⟨rfl, rfl⟩
    go_wp2_with fail
    go_end0
    rw [eH.out]
    exact ⟨rfl, O2H.out n v⟩
  · have e := SH.out
    rw [r, hr, hq] at e
    have eH := Lib.hid e
    have R1 := fun W hc => runs_any b (i * 4) (T i).ct ct0 ct1 W hc
    have R2 := fun W hc => runs_any b (i * 4) y y0 y1 W hc
    rw [hr] at R1
    rw [hq] at R2
    have R1H := Lib.hid R1
    have R2H := Lib.hid R2
    clear e r hr hq R1 R2 SH
    generalize (T i).ct = ct at *
    generalize (T i).re = re at *
    generalize (T i).co = co at *
    generalize (T i).si = si at *
    generalize valueV T i now = v at *
    go_enter Try.func14, Try.ntmps14
    go_wp2_with (go_at_call 25; refine V.out.mono ?_; rintro e w' ⟨rfl, n, rfl⟩)
    refine (R1H.out _ (by go_simp)).mono ?_
    rintro e w' ⟨rfl, rfl⟩
    go_wp2_with fail
    go_end0
    rw [eH.out]
    exact ⟨rfl, OH.out n v⟩
  · have e := SH.out
    rw [r, hr, hq] at e
    have eH := Lib.hid e
    have R1 := fun W hc => runs_any b (i * 4) (T i).ct ct0 ct1 W hc
    have R2 := fun W hc => runs_any b (i * 4) y y0 y1 W hc
    rw [hr] at R1
    rw [hq] at R2
    have R1H := Lib.hid R1
    have R2H := Lib.hid R2
    clear e r hr hq R1 R2 SH
    generalize (T i).ct = ct at *
    generalize (T i).re = re at *
    generalize (T i).co = co at *
    generalize (T i).si = si at *
    generalize valueV T i now = v at *
    go_enter Try.func14, Try.ntmps14
    go_wp2_with (go_at_call 25; refine V.out.mono ?_; rintro e w' ⟨rfl, n, rfl⟩)
    refine (R1H.out _ (by go_simp)).mono ?_
    rintro e w' ⟨rfl, rfl⟩
    go_wp2_with fail
    go_end0
    rw [eH.out]
    exact ⟨rfl, OH.out n v⟩
/-- When a timer runs over. -/
def due (o : One) : Int := o.si + (65536 - o.co) * stp o
/-- The first running over, among the first k timers. -/
def nextF (T : Nat → One) : Nat → Int × Bool
  | 0 => (0, false)
  | k + 1 => if freeB T k = true ∧ ((nextF T k).2 = false ∨ due (T k) < (nextF T k).1) then (due (T k), true) else nextF T k
theorem due_in (o : One) (h : Ok o) : 0 ≤ due o ∧ due o ≤ 1100000000000 := by
  have s := stp_pos o
  obtain ⟨_, _, _, _, c0, c1, s0, s1⟩ := h
  have a0 : 0 ≤ (65536 - o.co) * stp o := Int.mul_nonneg (by omega) (by omega)
  have a1 : (65536 - o.co) * stp o ≤ 65536 * 1024 := Int.mul_le_mul (by omega) (by omega) (by omega) (by omega)
  unfold due
  omega
theorem next_in (T : Nat → One) (h : ∀ i, i < 4 → Ok (T i)) (k : Nat) (hk : k ≤ 4) : 0 ≤ (nextF T k).1 ∧ (nextF T k).1 ≤ 1100000000000 := by
  induction k with
  | zero => exact ⟨Int.le_refl 0, by unfold nextF; decide⟩
  | succ k ih =>
    unfold nextF
    split
    · exact due_in _ (h k (by omega))
    · exact ih (by omega)
set_option maxHeartbeats 2000000 in
theorem next_any (b : Nat) (T : Nat → One) (h : ∀ i, i < 4 → Ok (T i)) (w : World) (hs : w.heap[b]? = some (tim T)) :
    Calls Try.prog 10 #[.pointer (some ⟨b, 0, none⟩)] w fun e w' => e = .returned (.tuple #[.int .i64 (nextF T 4).1, .bool (nextF T 4).2]) ∧ ∃ n, w' = w.drewN n := by
  have H := Lib.hid hs
  clear hs
  go_enter Try.func10, Try.ntmps10
  go_wp2
  go_loopw [4, 5, 11] (fun best some_ i wr => ∃ k n : Nat, k ≤ 4 ∧ i = .int .i64 k ∧ best = .int .i64 (nextF T k).1 ∧ some_ = .bool (nextF T k).2 ∧ wr = w.drewN n) (fun _ _ i _ => 4 - (intOf i).toNat)
  case atStart => exact ⟨0, 0, by omega, rfl, rfl, rfl, rfl⟩
  case round =>
    obtain ⟨k, n, hk, rfl, rfl, rfl, rfl⟩ := hrel
    by_cases hlt : k < 4
    · have ok := h k hlt
      have C1 : w.cell? ⟨b, k * 4 + 1, none⟩ = some (.int .u16 (T k).ct) := (cellsAt H.out _).trans (tl_at T [] hlt (j := 1) (by decide))
      have C2 : w.cell? ⟨b, k * 4 + 2, none⟩ = some (.int .i64 (T k).co) := (cellsAt H.out _).trans (tl_at T [] hlt (j := 2) (by decide))
      have C3 : w.cell? ⟨b, k * 4 + 3, none⟩ = some (.int .i64 (T k).si) := (cellsAt H.out _).trans (tl_at T [] hlt (j := 3) (by decide))
      have R := Lib.hid (free_any b k T [] hlt ok.ct0 ok.ct1 56 (w.drewN n) (drewN_heap n H.out))
      have S := Lib.hid (fun m => step_any b (k * 4) (T k) ok.ct0 ok.ct1 (w.drewN m) C1)
      have d : due (T k) = (T k).si + (65536 - (T k).co) * stp (T k) := rfl
      have di := due_in _ ok
      have sp := stp_pos (T k)
      have a0 : 0 ≤ (65536 - (T k).co) * stp (T k) := Int.mul_nonneg (by have := ok.co1; omega) (by omega)
      have a1 : (65536 - (T k).co) * stp (T k) ≤ 1100000000000 := by have := ok.si0; omega
      have c0 := ok.co0
      have c1 := ok.co1
      have s0 := ok.si0
      have s1 := ok.si1
      have N : nextF T (k + 1) = if freeB T k = true ∧ ((nextF T k).2 = false ∨ due (T k) < (nextF T k).1) then (due (T k), true) else nextF T k := rfl
      generalize (T k).co = co at *
      generalize (T k).si = si at *
      generalize stp (T k) = st at *
      have e1 : IntKind.i64.wrap (65536 - co) = 65536 - co := by rw [IntKind.wrap_i64]; omega
      have e2 : IntKind.i64.wrap ((65536 - co) * st) = (65536 - co) * st := by rw [IntKind.wrap_i64]; omega
      have e3 : IntKind.i64.wrap (si + (65536 - co) * st) = due (T k) := by rw [IntKind.wrap_i64, d]; omega
      have NH := Lib.hid N
      clear N d a0 a1
      generalize due (T k) = du at *
      generalize hbst : (nextF T k).1 = bst at *
      generalize hsm : (nextF T k).2 = sm at *
      have HB := Lib.hid hbst
      have HS := Lib.hid hsm
      clear hbst hsm
      cases hf : freeB T k
      · rw [hf] at R NH
        have hfH := Lib.hid hf
        clear hf
        go_wp2_with (go_at_call 19; refine R.out.mono ?_; rintro e w' ⟨rfl, m, rfl⟩)
        go_roundw
        case rel => exact ⟨k + 1, _, by omega, by go_num, by rw [NH.out, if_neg (by simp), HB.out], by rw [NH.out, if_neg (by simp), HS.out], rfl⟩
        case measure => simp [intOf]; omega
      · rw [hf] at R NH
        have hfH := Lib.hid hf
        clear hf
        go_wp2_with (go_at_call 19; refine R.out.mono ?_; rintro e w' ⟨rfl, m, rfl⟩)
        go_quiet ((go_at_call 20; exact quiet_add_same (flip (S.out _))))
        cases sm
        · go_wp2
          go_roundw
          case rel => exact ⟨k + 1, _, by omega, by go_num, by rw [NH.out, if_pos (by simp)], by rw [NH.out, if_pos (by simp)], rfl⟩
          case measure => simp [intOf]; omega
        · by_cases c : du < bst
          · go_wp2
            go_roundw
            case rel => exact ⟨k + 1, _, by omega, by go_num, by rw [NH.out, if_pos (by simp [c])], by rw [NH.out, if_pos (by simp [c])], rfl⟩
            case measure => simp [intOf]; omega
          · have c' : decide (du < bst) = false := decide_eq_false c
            go_wp2
            go_roundw
            case rel => exact ⟨k + 1, _, by omega, by go_num, by rw [NH.out, if_neg (by simp [c]), HB.out], by rw [NH.out, if_neg (by simp [c]), HS.out], rfl⟩
            case measure => simp [intOf]; omega
    · obtain rfl : k = 4 := by omega
      go_wp2
      go_ret2
      exact ⟨rfl, _, rfl⟩
theorem next_none (w : World) :
    Calls Try.prog 10 #[.pointer none] w fun e w' => e = .returned (.tuple #[.int .i64 0, .bool false]) ∧ w = w' := by
  go_enter Try.func10, Try.ntmps10
  go_wp2
  go_ret2
  exact ⟨rfl, rfl⟩
/-- No timer. -/
def zero : One := ⟨0, 0, 0, 0⟩
set_option maxHeartbeats 1000000 in
theorem new_any (w : World) :
    Calls Try.prog 9 #[] w fun e w' => e = .returned (.pointer (some ⟨w.heap.size, 0, none⟩)) ∧ w' = w.alloc (tim fun _ => zero) := by
  go_enter Try.func9, Try.ntmps9
  go_wp2
  go_ret
  exact ⟨rfl, rfl⟩
/-- What a running over at a cycle makes of the first k timers; which have run over. -/
def fireF (T : Nat → One) (at_ : Int) : Nat → (Nat → One) × Nat
  | 0 => (T, 0)
  | k + 1 =>
    let (U, m) := fireF T at_ k
    if freeB T k then (if due (T k) = at_ then (upd U k { T k with co := (T k).re, si := at_ }, m + 2 ^ k) else (U, m))
    else if runsB (T k) && m.testBit (k - 1) then
      (if (T k).co = 65535 then (upd U k { T k with co := (T k).re }, m + 2 ^ k) else (upd U k { T k with co := (T k).co + 1 }, m))
    else (U, m)
theorem fire_lt (T : Nat → One) (at_ : Int) (k : Nat) : (fireF T at_ k).2 < 2 ^ k := by
  induction k with
  | zero => exact Nat.lt_succ_self 0
  | succ k ih =>
    unfold fireF
    rw [Nat.pow_succ]
    dsimp only
    repeat' split
    all_goals (first | omega | (dsimp only; omega))
theorem fire_same (T : Nat → One) (at_ : Int) (k j : Nat) (h : k ≤ j) : (fireF T at_ k).1 j = T j := by
  induction k with
  | zero => rfl
  | succ k ih =>
    have := ih (by omega)
    unfold fireF
    dsimp only
    repeat' split
    all_goals (first | exact this | (dsimp only; rw [upd_ne _ _ (by omega)]; exact this))
theorem or_bit (m k : Nat) (h : m < 2 ^ k) (hk : k < 4) : Go.bits .or .i64 (m : Int) (wrap64 (2 ^ k)) = ((m + 2 ^ k : Nat) : Int) := by
  have l : 2 ^ k ≤ 2 ^ 3 := Nat.pow_le_pow_right (by decide) (by omega)
  have e : ((2 : Int) ^ k) = ((2 ^ k : Nat) : Int) := (Int.natCast_pow 2 k).symm
  have hw : wrap64 (2 ^ k) = ((2 ^ k : Nat) : Int) := by
    rw [e]
    generalize 2 ^ k = p at *
    exact wrap64_id (by omega) (by omega)
  have o : Go.bits .or .i64 (m : Int) ((2 ^ k : Nat) : Int) = ((m ||| 2 ^ k : Nat) : Int) := by
    have a : (BitVec.ofInt 64 (m : Int)).toNat = m := ofInt_toNat 64 m (by generalize 2 ^ k = p at *; omega)
    have b : (BitVec.ofInt 64 ((2 ^ k : Nat) : Int)).toNat = 2 ^ k := ofInt_toNat 64 (2 ^ k) (by generalize 2 ^ k = p at *; omega)
    have c : m ||| 2 ^ k < 2 ^ 4 := Nat.or_lt_two_pow (by generalize 2 ^ k = p at *; omega) (by generalize 2 ^ k = p at *; omega)
    show IntKind.i64.wrap ((BitVec.ofInt 64 (m : Int) ||| BitVec.ofInt 64 ((2 ^ k : Nat) : Int)).toNat : Int) = _
    rw [BitVec.toNat_or, a, b, IntKind.wrap_i64]
    generalize m ||| 2 ^ k = q at *
    omega
  rw [hw, o, lor_add _ _ ?_]
  apply Nat.eq_of_testBit_eq
  intro i
  rw [Nat.testBit_and, Nat.testBit_two_pow, Nat.zero_testBit]
  by_cases c : k = i
  · subst c
    rw [Nat.testBit_lt_two_pow h]; rfl
  · simp [c]
theorem shr_bit (m j : Nat) : (Go.bits .and .i64 ((m : Int) / 2 ^ j) 1 == 1) = m.testBit j := by
  have e : ((2 : Int) ^ j) = ((2 ^ j : Nat) : Int) := (Int.natCast_pow 2 j).symm
  have := and_mask_i64 ((m : Int) / 2 ^ j) 1 (by decide)
  rw [show ((2 : Int) ^ 1 - 1) = 1 from rfl, show ((2 : Int) ^ 1) = 2 from rfl] at this
  rw [this, e, ← Int.natCast_ediv, Nat.testBit_eq_decide_div_mod_eq]
  have : m / 2 ^ j % 2 = 0 ∨ m / 2 ^ j % 2 = 1 := by omega
  rcases this with h | h
  · have : ((m / 2 ^ j : Nat) : Int) % 2 = 0 := by omega
    rw [h, this]; rfl
  · have : ((m / 2 ^ j : Nat) : Int) % 2 = 1 := by omega
    rw [h, this]; rfl
set_option maxRecDepth 100000 in
set_option maxHeartbeats 4000000 in
theorem fire_any (b : Nat) (T : Nat → One) (h : ∀ i, i < 4 → Ok (T i)) (hco : ∀ i, i < 4 → (T i).co ≤ 65535) (now : Int) (hs0 : (nextF T 4).2 = true) (hn : (nextF T 4).1 ≤ now) (w : World) (hs : w.heap[b]? = some (tim T)) :
    Calls Try.prog 12 #[.pointer (some ⟨b, 0, none⟩), .int .i64 now] w fun e w' => e = .returned (.tuple #[.int .i64 (nextF T 4).1, .int .i64 (fireF T (nextF T 4).1 4).2]) ∧ Only b (tim (fireF T (nextF T 4).1 4).1) w w' := by
  have H := Lib.hid hs
  have X := next_any b T h w hs
  rw [hs0] at X
  have XH := Lib.hid X
  have d0 : decide (now < (nextF T 4).1) = false := decide_eq_false (by omega)
  have FI := Lib.hid (fire_lt T (nextF T 4).1)
  have FS := Lib.hid (fire_same T (nextF T 4).1)
  have ST : ∀ k, fireF T (nextF T 4).1 (k + 1) = (if freeB T k then (if due (T k) = (nextF T 4).1 then (upd (fireF T (nextF T 4).1 k).1 k { T k with co := (T k).re, si := (nextF T 4).1 }, (fireF T (nextF T 4).1 k).2 + 2 ^ k) else ((fireF T (nextF T 4).1 k).1, (fireF T (nextF T 4).1 k).2))
    else if runsB (T k) && (fireF T (nextF T 4).1 k).2.testBit (k - 1) then
      (if (T k).co = 65535 then (upd (fireF T (nextF T 4).1 k).1 k { T k with co := (T k).re }, (fireF T (nextF T 4).1 k).2 + 2 ^ k) else (upd (fireF T (nextF T 4).1 k).1 k { T k with co := (T k).co + 1 }, (fireF T (nextF T 4).1 k).2))
    else ((fireF T (nextF T 4).1 k).1, (fireF T (nextF T 4).1 k).2)) := fun k => rfl
  have STH := Lib.hid ST
  have at0 := (next_in T h 4 (by omega))
  clear ST X hs hs0 hn
  have F0 : fireF T (nextF T 4).1 0 = (T, 0) := rfl
  have F0H := Lib.hid F0
  clear F0
  generalize (nextF T 4).1 = at_ at *
  go_enter Try.func12, Try.ntmps12
  go_wp2_with (go_at_call 10; refine XH.out.mono ?_; rintro e w' ⟨rfl, n0, rfl⟩)
  clear XH
  go_loopw [8, 23] (fun m i wr => ∃ k : Nat, k ≤ 4 ∧ i = .int .i64 k ∧ m = .int .i64 (fireF T at_ k).2 ∧ Only b (tim (fireF T at_ k).1) w wr) (fun _ i _ => 4 - (intOf i).toNat)
  case atStart => exact ⟨0, by omega, rfl, by rw [F0H.out]; rfl, by rw [F0H.out]; exact (Only.refl H.out).drewN _⟩
  case round =>
    obtain ⟨k, hk, rfl, rfl, ho⟩ := hrel
    by_cases hlt : k < 4
    · have ok := h k hlt
      have co65 := hco k hlt
      have same := FS.out k k (Nat.le_refl k)
      have ml := FI.out k
      have S := STH.out k
      have ob := ho
      obtain ⟨C0, C1, C2, C3⟩ := four ho.at_ hlt
      have FR := freeAt ho.at_
      have hfr : freeB (fireF T at_ k).1 k = freeB T k := by unfold freeB; rw [same]
      have R := free_any b k (fireF T at_ k).1 [] hlt (by rw [same]; exact ok.ct0) (by rw [same]; exact ok.ct1) 56 wr ho.at_
      rw [hfr] at R
      generalize (fireF T at_ k).1 = U at *
      generalize (fireF T at_ k).2 = m at *
      rw [same] at C0 C1 C2 C3
      have Sp := Lib.hid (fun n => step_any b (k * 4) (T k) ok.ct0 ok.ct1 (wr.drewN n) C1)
      have Rn := Lib.hid (fun n => runs_any b (k * 4) (T k).ct ok.ct0 ok.ct1 (wr.drewN n) C1)
      have d : due (T k) = (T k).si + (65536 - (T k).co) * stp (T k) := rfl
      have di := due_in _ ok
      have sp := stp_pos (T k)
      have a0 : 0 ≤ (65536 - (T k).co) * stp (T k) := Int.mul_nonneg (by have := ok.co1; omega) (by omega)
      have a1 : (65536 - (T k).co) * stp (T k) ≤ 1100000000000 := by have := ok.si0; omega
      have c0 := ok.co0
      have s0 := ok.si0
      have s1 := ok.si1
      have e1 : IntKind.i64.wrap (65536 - (T k).co) = 65536 - (T k).co := by rw [IntKind.wrap_i64]; omega
      have e2 : IntKind.i64.wrap ((65536 - (T k).co) * stp (T k)) = (65536 - (T k).co) * stp (T k) := by rw [IntKind.wrap_i64]; omega
      have e3 : IntKind.i64.wrap ((T k).si + (65536 - (T k).co) * stp (T k)) = due (T k) := by rw [IntKind.wrap_i64, d]; omega
      have OB := Lib.hid ho
      have SM := Lib.hid same
      have SH := Lib.hid S
      have OR := Lib.hid (or_bit m k ml hlt)
      clear hfr d a0 a1 same S ho ob
      have n65 : ((T k).co == 65536) = false := by simp; omega
      cases hf : freeB T k
      · rw [hf] at R SH
        have RH := Lib.hid R
        cases hr : runsB (T k)
        · have SS := SH.out
          rw [if_neg (by decide), hr, if_neg (by simp)] at SS
          have SSH := Lib.hid SS
          have r : ((T k).ct / 128 % 2 == 1) = false := hr
          rw [r] at Rn
          clear SS SH hr r R hf
          go_wp2_with (first | (go_at_call 19; refine RH.out.mono ?_; rintro e w' ⟨rfl, n, rfl⟩) | (go_at_call 24; refine (Rn.out _).mono ?_; rintro e w' ⟨rfl, rfl⟩))
          go_roundw
          case rel => exact ⟨k + 1, by omega, by go_num, by rw [SSH.out], by rw [SSH.out]; exact OB.out.drewN _⟩
          case measure => simp [intOf]; omega
        · have k0 : k ≠ 0 := by
            rintro rfl
            unfold freeB at hf
            rw [hr] at hf
            simp at hf
          have r : ((T k).ct / 128 % 2 == 1) = true := hr
          rw [r] at Rn
          obtain ⟨j, rfl⟩ : ∃ j, k = j + 1 := ⟨k - 1, by omega⟩
          have SS := SH.out
          rw [if_neg (by decide), hr, Nat.add_sub_cancel, Bool.true_and] at SS
          have B := shr_bit m j
          have cw : wrap64 ((T (j + 1)).co + 1) = (T (j + 1)).co + 1 := wrap64_id (by omega) (by omega)
          clear SH hr r R hf
          cases hb : m.testBit j
          · rw [hb] at B SS
            rw [if_neg (by decide)] at SS
            have SSH := Lib.hid SS
            clear SS hb
            go_wp2_with (first | (go_at_call 19; refine RH.out.mono ?_; rintro e w' ⟨rfl, n, rfl⟩) | (go_at_call 24; refine (Rn.out _).mono ?_; rintro e w' ⟨rfl, rfl⟩))
            go_roundw
            case rel => exact ⟨j + 1 + 1, by omega, by go_num, by rw [SSH.out], by rw [SSH.out]; exact OB.out.drewN _⟩
            case measure => simp [intOf]; omega
          · rw [hb] at B SS
            rw [if_pos rfl] at SS
            by_cases c : (T (j + 1)).co = 65535
            · rw [if_pos c] at SS
              have SSH := Lib.hid SS
              have c' : ((T (j + 1)).co + 1 == 65536) = true := by simp; omega
              have or := OR.out
              clear SS hb c
              go_wp2_with (first | (go_at_call 19; refine RH.out.mono ?_; rintro e w' ⟨rfl, n, rfl⟩) | (go_at_call 24; refine (Rn.out _).mono ?_; rintro e w' ⟨rfl, rfl⟩))
              go_roundw
              case rel =>
                refine ⟨j + 1 + 1, by omega, by go_num, ?_, ?_⟩
                · rw [SSH.out]
                  exact congrArg (Value.int .i64) (by first | exact or | simp)
                · have := set_co (set_co ((OB.out).drewN n) hlt ((T (j + 1)).co + 1)) hlt (T (j + 1)).re
                  simp only [upd_same, upd_upd, SM.out] at this
                  rw [SSH.out]
                  exact this
              case measure => simp [intOf]; omega
            · rw [if_neg c] at SS
              have SSH := Lib.hid SS
              have c' : ((T (j + 1)).co + 1 == 65536) = false := by simp; omega
              clear SS hb c
              go_wp2_with (first | (go_at_call 19; refine RH.out.mono ?_; rintro e w' ⟨rfl, n, rfl⟩) | (go_at_call 24; refine (Rn.out _).mono ?_; rintro e w' ⟨rfl, rfl⟩))
              go_roundw
              case rel =>
                refine ⟨j + 1 + 1, by omega, by go_num, by rw [SSH.out], ?_⟩
                have := set_co ((OB.out).drewN n) hlt ((T (j + 1)).co + 1)
                simp only [SM.out] at this
                rw [SSH.out]
                exact this
              case measure => simp [intOf]; omega
      · rw [hf] at R SH
        have RH := Lib.hid R
        clear R hf
        by_cases c : due (T k) = at_
        · have SS := SH.out
          rw [if_pos rfl, if_pos c] at SS
          have SSH := Lib.hid SS
          have c' : (due (T k) != at_) = false := by simpa using c
          have or := OR.out
          clear SS SH c
          go_wp2_with (go_at_call 19; refine RH.out.mono ?_; rintro e w' ⟨rfl, n, rfl⟩)
          go_quiet ((go_at_call 20; exact quiet_add_same (flip (Sp.out _))))
          go_wp2
          go_roundw
          case rel =>
            refine ⟨k + 1, by omega, by go_num, ?_, ?_⟩
            · rw [SSH.out]
              exact congrArg (Value.int .i64) (by simp)
            · have := set_co (set_si (set_co ((OB.out).drewN (n + nq)) hlt 65536) hlt at_) hlt (T k).re
              simp only [upd_same, upd_upd, SM.out] at this
              rw [SSH.out]
              exact this
          case measure => simp [intOf]; omega
        · have SS := SH.out
          rw [if_pos rfl, if_neg c] at SS
          have SSH := Lib.hid SS
          have c' : (due (T k) != at_) = true := by simpa using c
          clear SS SH c
          go_wp2_with (go_at_call 19; refine RH.out.mono ?_; rintro e w' ⟨rfl, n, rfl⟩)
          go_quiet ((go_at_call 20; exact quiet_add_same (flip (Sp.out _))))
          go_wp2
          go_roundw
          case rel => exact ⟨k + 1, by omega, by go_num, by rw [SSH.out], by rw [SSH.out]; exact OB.out.drewN _⟩
          case measure => simp [intOf]; omega
    · obtain rfl : k = 4 := by omega
      go_wp2
      go_ret2
      exact ⟨rfl, ho⟩
end Go.Proofs.Ytkbjjkolhhmafaa.Ta
