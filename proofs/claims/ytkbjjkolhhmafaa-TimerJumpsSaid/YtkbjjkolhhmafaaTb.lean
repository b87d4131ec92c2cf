/- The timers' waking test; TimerNone. -/
import Derived.Test.YtkbjjkolhhmafaaTa
namespace Go.Proofs.Ytkbjjkolhhmafaa.Tb
set_option linter.unusedVariables false
set_option linter.unusedSimpArgs false
open Go.RowKit Go.Proofs.Ytkbjjkolhhmafaa.Bt Go.Proofs.Ytkbjjkolhhmafaa.Wk Go.Proofs.Ytkbjjkolhhmafaa.Sg Go.Proofs.Ytkbjjkolhhmafaa.Ta

set_option maxRecDepth 100000 in
set_option maxHeartbeats 1000000 in
theorem fire_no (b : Nat) (T : Nat → One) (h : ∀ i, i < 4 → Ok (T i)) (now : Int) (hn : (nextF T 4).2 = false ∨ now < (nextF T 4).1) (w : World) (hs : w.heap[b]? = some (tim T)) :
    Calls Try.prog 12 #[.pointer (some ⟨b, 0, none⟩), .int .i64 now] w fun e w' => e = .returned (.tuple #[.int .i64 0, .int .i64 0]) ∧ ∃ n, w' = w.drewN n := by
  have X := next_any b T h w hs
  generalize (nextF T 4).1 = at_ at *
  generalize (nextF T 4).2 = sm at *
  have XH := Lib.hid X
  clear X hs h
  cases sm
  · clear hn
    go_enter Try.func12, Try.ntmps12
    go_wp2_with (go_at_call 10; refine XH.out.mono ?_; rintro e w' ⟨rfl, n0, rfl⟩)
    go_ret2
    exact ⟨rfl, _, rfl⟩
  · have d0 : decide (now < at_) = true := decide_eq_true (by simpa using hn)
    clear hn
    go_enter Try.func12, Try.ntmps12
    go_wp2_with (go_at_call 10; refine XH.out.mono ?_; rintro e w' ⟨rfl, n0, rfl⟩)
    go_ret2
    exact ⟨rfl, _, rfl⟩
set_option maxRecDepth 100000 in
set_option maxHeartbeats 1000000 in
theorem fire_none (now : Int) (w : World) :
    Calls Try.prog 12 #[.pointer none, .int .i64 now] w fun e w' => e = .returned (.tuple #[.int .i64 0, .int .i64 0]) ∧ w = w' := by
  go_enter Try.func12, Try.ntmps12
  go_wp2_with (go_at_call 10; refine (next_none _).mono ?_; rintro e w' ⟨rfl, rfl⟩)
  go_ret2
  exact ⟨rfl, rfl⟩
def okB (o : One) : Bool := decide (0 ≤ o.re) && decide (o.re ≤ 65535) && decide (0 ≤ o.ct) && decide (o.ct < 65536) && decide (0 ≤ o.co) && decide (o.co ≤ 65535) && decide (0 ≤ o.si) && decide (o.si ≤ 1099511627776)
theorem ok_of {o : One} (h : okB o = true) : Ok o ∧ o.co ≤ 65535 := by
  unfold okB at h
  simp only [Bool.and_eq_true, decide_eq_true_eq] at h
  obtain ⟨⟨⟨⟨⟨⟨⟨a, b⟩, c⟩, d⟩, e⟩, f⟩, g⟩, i⟩ := h
  exact ⟨⟨a, b, c, d, e, by omega, g, i⟩, f⟩
theorem all_ok {T : Nat → One} (h : (okB (T 0) && okB (T 1) && okB (T 2) && okB (T 3)) = true) : ∀ i, i < 4 → Ok (T i) ∧ (T i).co ≤ 65535 := by
  simp only [Bool.and_eq_true] at h
  obtain ⟨⟨⟨a, b⟩, c⟩, d⟩ := h
  intro i hi
  have : i = 0 ∨ i = 1 ∨ i = 2 ∨ i = 3 := by omega
  rcases this with rfl | rfl | rfl | rfl
  · exact ok_of a
  · exact ok_of b
  · exact ok_of c
  · exact ok_of d
def Z : Nat → One := fun _ => zero
def A1 : Nat → One := upd Z 0 { Z 0 with re := 65534 }
def A2 : Nat → One := upd A1 1 { A1 1 with re := 65535 }
def A3 : Nat → One := upd A2 1 (setC A2 1 10 132)
def A4 : Nat → One := upd A3 0 (setC A3 0 10 128)
def A5 : Nat → One := (fireF A4 12 4).1
set_option maxHeartbeats 1000000 in
theorem awake_any (w : World) : Calls Try.prog 8 #[] w fun e w' => e = .returned (.bool true) ∧ Below w.heap.size w w' := by
  have k2 := all_ok (T := A2) (by decide)
  have k3 := all_ok (T := A3) (by decide)
  have k4 := all_ok (T := A4) (by decide)
  have k5 := all_ok (T := A5) (by decide)
  have n4 : nextF A4 4 = (12, true) := by decide
  have n5 : (nextF A5 4).1 = 14 := by decide
  have m4 : (fireF A4 12 4).2 = 3 := by decide
  have P1 : ∀ b w, w.heap[b]? = some (tim Z) → Calls Try.prog 13 #[.pointer (some ⟨b, 0, none⟩), .int .i64 0, .int .u16 65534] w fun e w' => e = .returned (.tuple #[]) ∧ Only b (tim A1) w w' := fun b w h => setReload_any b 0 Z (by decide) 65534 (by decide) (by decide) w h
  have P2 : ∀ b w, w.heap[b]? = some (tim A1) → Calls Try.prog 13 #[.pointer (some ⟨b, 0, none⟩), .int .i64 1, .int .u16 65535] w fun e w' => e = .returned (.tuple #[]) ∧ Only b (tim A2) w w' := fun b w h => setReload_any b 1 A1 (by decide) 65535 (by decide) (by decide) w h
  have P3 : ∀ b w, w.heap[b]? = some (tim A2) → Calls Try.prog 14 #[.pointer (some ⟨b, 0, none⟩), .int .i64 1, .int .i64 10, .int .u16 132] w fun e w' => e = .returned (.tuple #[]) ∧ Only b (tim A3) w w' := fun b w h => setControl_any b 1 A2 (by decide) (k2 1 (by decide)).1 10 132 (by decide) (by decide) 132 (by decide) (by decide) (by decide) w h
  have P4 : ∀ b w, w.heap[b]? = some (tim A3) → Calls Try.prog 14 #[.pointer (some ⟨b, 0, none⟩), .int .i64 0, .int .i64 10, .int .u16 128] w fun e w' => e = .returned (.tuple #[]) ∧ Only b (tim A4) w w' := fun b w h => setControl_any b 0 A3 (by decide) (k3 0 (by decide)).1 10 128 (by decide) (by decide) 128 (by decide) (by decide) (by decide) w h
  have P5 : ∀ b w, w.heap[b]? = some (tim A4) → Calls Try.prog 10 #[.pointer (some ⟨b, 0, none⟩)] w fun e w' => e = .returned (.tuple #[.int .i64 12, .bool true]) ∧ ∃ n, w' = w.drewN n := fun b w h => by
    have := next_any b A4 (fun i hi => (k4 i hi).1) w h
    rwa [n4] at this
  have P6 : ∀ b w, w.heap[b]? = some (tim A4) → Calls Try.prog 12 #[.pointer (some ⟨b, 0, none⟩), .int .i64 12] w fun e w' => e = .returned (.tuple #[.int .i64 12, .int .i64 3]) ∧ Only b (tim A5) w w' := fun b w h => by
    have := fire_any b A4 (fun i hi => (k4 i hi).1) (fun i hi => (k4 i hi).2) 12 (by rw [n4]) (by rw [n4]; decide) w h
    rw [n4] at this
    simp only [m4] at this
    exact this
  have P7 : ∀ b w, w.heap[b]? = some (tim A5) → Calls Try.prog 10 #[.pointer (some ⟨b, 0, none⟩)] w fun e w' => e = .returned (.tuple #[.int .i64 14, .bool (nextF A5 4).2]) ∧ ∃ n, w' = w.drewN n := fun b w h => by
    have := next_any b A5 (fun i hi => (k5 i hi).1) w h
    rwa [n5] at this
  generalize (nextF A5 4).2 = sm at *
  have H1 := Lib.hid P1
  have H2 := Lib.hid P2
  have H3 := Lib.hid P3
  have H4 := Lib.hid P4
  have H5 := Lib.hid P5
  have H6 := Lib.hid P6
  have H7 := Lib.hid P7
  clear k2 k3 k4 k5 n4 n5 m4 P1 P2 P3 P4 P5 P6 P7
  go_enter Try.func8, Try.ntmps8
  go_wp2_with fail
  refine (new_any _).mono ?_
  rintro e w' ⟨rfl, rfl⟩
  have o0 : Only w.heap.size (tim Z) (w.alloc (tim Z)) (w.alloc (tim Z)) := Only.refl (alloc_new w _)
  go_wp2_with fail
  refine (H1.out _ _ o0.at_).mono ?_
  rintro e w1 ⟨rfl, o1⟩
  have O1 := Lib.hid o1
  clear o0 o1
  go_wp2_with fail
  refine (H2.out _ _ O1.out.at_).mono ?_
  rintro e w2 ⟨rfl, o2⟩
  have O2 := Lib.hid (O1.out.trans o2)
  clear o2 O1
  go_wp2_with fail
  refine (H3.out _ _ O2.out.at_).mono ?_
  rintro e w3 ⟨rfl, o3⟩
  have O3 := Lib.hid (O2.out.trans o3)
  clear o3 O2
  go_wp2_with fail
  refine (H4.out _ _ O3.out.at_).mono ?_
  rintro e w4 ⟨rfl, o4⟩
  have O4 := Lib.hid (O3.out.trans o4)
  clear o4 O3
  go_wp2_with fail
  refine (H5.out _ _ O4.out.at_).mono ?_
  rintro e w5 ⟨rfl, n, rfl⟩
  go_wp2_with fail
  refine (H6.out _ _ (drewN_heap n O4.out.at_)).mono ?_
  rintro e w6 ⟨rfl, o6⟩
  have O6 := Lib.hid ((O4.out.drewN n).trans o6)
  clear o6 O4
  go_wp2_with fail
  refine (H7.out _ _ O6.out.at_).mono ?_
  rintro e w7 ⟨rfl, m, rfl⟩
  go_wp2
  go_ret
  exact ⟨rfl, below_dn (below_only (Below.alloc (Below.refl _ _) (Nat.le_refl _) _) O6.out (Nat.le_refl _) (by simp)) _⟩
set_option maxRecDepth 100000 in
set_option maxHeartbeats 2000000 in
theorem none_law (i x : Int) (h1 : (Lit.int .i64 i).wf = true) (h2 : (Lit.int .u16 x).wf = true) (w : World) :
    Calls Try.prog 7 #[.int .i64 i, .int .u16 x] w fun e w' => e = .returned (.bool true) ∧ Below w.heap.size w w' := by
  clear h1 h2
  have k0 := all_ok (T := Z) (by decide)
  have z0 : nextF Z 4 = (0, false) := by decide
  have ZN : ∀ b w, w.heap[b]? = some (tim Z) → Calls Try.prog 10 #[.pointer (some ⟨b, 0, none⟩)] w fun e w' => e = .returned (.tuple #[.int .i64 0, .bool false]) ∧ ∃ n, w' = w.drewN n := fun b w h => by
    have := next_any b Z (fun i hi => (k0 i hi).1) w h
    rwa [z0] at this
  have R1 := Lib.hid (fun x w => setReload_no (.pointer none) i x w (.inl rfl))
  have R2 := Lib.hid (fun now x w => setControl_no (.pointer none) i now x w (.inl rfl))
  have R3 := Lib.hid (fun now w => read_no (.pointer none) i now w (.inl rfl))
  have R4 := Lib.hid (fun w => control_no (.pointer none) i w (.inl rfl))
  have R5 := Lib.hid (fun w => asks_no (.pointer none) i w (.inl rfl))
  have ZH := Lib.hid ZN
  clear k0 z0 ZN
  by_cases hi : 0 ≤ i ∧ i < 4
  · have d1 : decide (i < 0) = false := decide_eq_false (by omega)
    have d2 : decide (3 < i) = false := decide_eq_false (by omega)
    clear hi
    go_enter Try.func7, Try.ntmps7
    go_wp2_with fail
    refine (awake_any _).mono ?_
    rintro e w0 ⟨rfl, hb⟩
    have HB := Lib.hid hb
    clear hb
    go_wp2_with (first | (go_at_call 13; (with_reducible refine (R1.out _ _).mono ?_); rintro e w' ⟨rfl, rfl⟩) | (go_at_call 14; (with_reducible refine (R2.out _ _ _).mono ?_); rintro e w' ⟨rfl, rfl⟩) | (go_at_call 10; (with_reducible refine (next_none _).mono ?_); rintro e w' ⟨rfl, rfl⟩) | (go_at_call 12; (with_reducible refine (fire_none _ _).mono ?_); rintro e w' ⟨rfl, rfl⟩) | (go_at_call 9; (with_reducible refine (new_any _).mono ?_); rintro e w' ⟨rfl, rfl⟩) | (go_at_call 16; (with_reducible refine (R3.out _ _).mono ?_); rintro e w' ⟨rfl, rfl⟩) | (go_at_call 17; (with_reducible refine (R4.out _).mono ?_); rintro e w' ⟨rfl, rfl⟩) | (go_at_call 18; (with_reducible refine (R5.out _).mono ?_); rintro e w' ⟨rfl, rfl⟩))
    go_ret
    exact ⟨rfl, HB.out.alloc HB.out.size _⟩
  · have Q1 := Lib.hid (fun b x w => setReload_no (.pointer (some ⟨b, 0, none⟩)) i x w (.inr ⟨⟨b, rfl⟩, hi⟩))
    have Q2 := Lib.hid (fun b now x w => setControl_no (.pointer (some ⟨b, 0, none⟩)) i now x w (.inr ⟨⟨b, rfl⟩, hi⟩))
    have Q3 := Lib.hid (fun b now w => read_no (.pointer (some ⟨b, 0, none⟩)) i now w (.inr ⟨⟨b, rfl⟩, hi⟩))
    have Q4 := Lib.hid (fun b w => control_no (.pointer (some ⟨b, 0, none⟩)) i w (.inr ⟨⟨b, rfl⟩, hi⟩))
    have Q5 := Lib.hid (fun b w => asks_no (.pointer (some ⟨b, 0, none⟩)) i w (.inr ⟨⟨b, rfl⟩, hi⟩))
    by_cases c : i < 0
    · have d1 : decide (i < 0) = true := decide_eq_true c
      clear hi
      go_enter Try.func7, Try.ntmps7
      go_wp2_with fail
      refine (awake_any _).mono ?_
      rintro e w0 ⟨rfl, hb⟩
      have HB := Lib.hid hb
      clear hb
      go_wp2_with (first | (go_at_call 13; (with_reducible refine (R1.out _ _).mono ?_); rintro e w' ⟨rfl, rfl⟩) | (go_at_call 14; (with_reducible refine (R2.out _ _ _).mono ?_); rintro e w' ⟨rfl, rfl⟩) | (go_at_call 10; (with_reducible refine (next_none _).mono ?_); rintro e w' ⟨rfl, rfl⟩) | (go_at_call 12; (with_reducible refine (fire_none _ _).mono ?_); rintro e w' ⟨rfl, rfl⟩) | (go_at_call 9; (with_reducible refine (new_any _).mono ?_); rintro e w' ⟨rfl, rfl⟩) | (go_at_call 16; (with_reducible refine (R3.out _ _).mono ?_); rintro e w' ⟨rfl, rfl⟩) | (go_at_call 17; (with_reducible refine (R4.out _).mono ?_); rintro e w' ⟨rfl, rfl⟩) | (go_at_call 18; (with_reducible refine (R5.out _).mono ?_); rintro e w' ⟨rfl, rfl⟩) | (go_at_call 13; (with_reducible refine (Q1.out _ _ _).mono ?_); rintro e w' ⟨rfl, rfl⟩) | (go_at_call 14; (with_reducible refine (Q2.out _ _ _ _).mono ?_); rintro e w' ⟨rfl, rfl⟩) | (go_at_call 16; (with_reducible refine (Q3.out _ _ _).mono ?_); rintro e w' ⟨rfl, rfl⟩) | (go_at_call 17; (with_reducible refine (Q4.out _ _).mono ?_); rintro e w' ⟨rfl, rfl⟩) | (go_at_call 18; (with_reducible refine (Q5.out _ _).mono ?_); rintro e w' ⟨rfl, rfl⟩))
      refine (ZH.out _ _ (alloc_new _ _)).mono ?_
      rintro e w' ⟨rfl, n, rfl⟩
      go_wp2_with (first | (go_at_call 13; (with_reducible refine (R1.out _ _).mono ?_); rintro e w' ⟨rfl, rfl⟩) | (go_at_call 14; (with_reducible refine (R2.out _ _ _).mono ?_); rintro e w' ⟨rfl, rfl⟩) | (go_at_call 10; (with_reducible refine (next_none _).mono ?_); rintro e w' ⟨rfl, rfl⟩) | (go_at_call 12; (with_reducible refine (fire_none _ _).mono ?_); rintro e w' ⟨rfl, rfl⟩) | (go_at_call 9; (with_reducible refine (new_any _).mono ?_); rintro e w' ⟨rfl, rfl⟩) | (go_at_call 16; (with_reducible refine (R3.out _ _).mono ?_); rintro e w' ⟨rfl, rfl⟩) | (go_at_call 17; (with_reducible refine (R4.out _).mono ?_); rintro e w' ⟨rfl, rfl⟩) | (go_at_call 18; (with_reducible refine (R5.out _).mono ?_); rintro e w' ⟨rfl, rfl⟩) | (go_at_call 13; (with_reducible refine (Q1.out _ _ _).mono ?_); rintro e w' ⟨rfl, rfl⟩) | (go_at_call 14; (with_reducible refine (Q2.out _ _ _ _).mono ?_); rintro e w' ⟨rfl, rfl⟩) | (go_at_call 16; (with_reducible refine (Q3.out _ _ _).mono ?_); rintro e w' ⟨rfl, rfl⟩) | (go_at_call 17; (with_reducible refine (Q4.out _ _).mono ?_); rintro e w' ⟨rfl, rfl⟩) | (go_at_call 18; (with_reducible refine (Q5.out _ _).mono ?_); rintro e w' ⟨rfl, rfl⟩))
      go_ret
      exact ⟨rfl, below_dn (HB.out.alloc HB.out.size _) _⟩
    · have d1 : decide (i < 0) = false := decide_eq_false c
      have d2 : decide (3 < i) = true := decide_eq_true (by omega)
      clear hi
      go_enter Try.func7, Try.ntmps7
      go_wp2_with fail
      refine (awake_any _).mono ?_
      rintro e w0 ⟨rfl, hb⟩
      have HB := Lib.hid hb
      clear hb
      go_wp2_with (first | (go_at_call 13; (with_reducible refine (R1.out _ _).mono ?_); rintro e w' ⟨rfl, rfl⟩) | (go_at_call 14; (with_reducible refine (R2.out _ _ _).mono ?_); rintro e w' ⟨rfl, rfl⟩) | (go_at_call 10; (with_reducible refine (next_none _).mono ?_); rintro e w' ⟨rfl, rfl⟩) | (go_at_call 12; (with_reducible refine (fire_none _ _).mono ?_); rintro e w' ⟨rfl, rfl⟩) | (go_at_call 9; (with_reducible refine (new_any _).mono ?_); rintro e w' ⟨rfl, rfl⟩) | (go_at_call 16; (with_reducible refine (R3.out _ _).mono ?_); rintro e w' ⟨rfl, rfl⟩) | (go_at_call 17; (with_reducible refine (R4.out _).mono ?_); rintro e w' ⟨rfl, rfl⟩) | (go_at_call 18; (with_reducible refine (R5.out _).mono ?_); rintro e w' ⟨rfl, rfl⟩) | (go_at_call 13; (with_reducible refine (Q1.out _ _ _).mono ?_); rintro e w' ⟨rfl, rfl⟩) | (go_at_call 14; (with_reducible refine (Q2.out _ _ _ _).mono ?_); rintro e w' ⟨rfl, rfl⟩) | (go_at_call 16; (with_reducible refine (Q3.out _ _ _).mono ?_); rintro e w' ⟨rfl, rfl⟩) | (go_at_call 17; (with_reducible refine (Q4.out _ _).mono ?_); rintro e w' ⟨rfl, rfl⟩) | (go_at_call 18; (with_reducible refine (Q5.out _ _).mono ?_); rintro e w' ⟨rfl, rfl⟩))
      refine (ZH.out _ _ (alloc_new _ _)).mono ?_
      rintro e w' ⟨rfl, n, rfl⟩
      go_wp2_with (first | (go_at_call 13; (with_reducible refine (R1.out _ _).mono ?_); rintro e w' ⟨rfl, rfl⟩) | (go_at_call 14; (with_reducible refine (R2.out _ _ _).mono ?_); rintro e w' ⟨rfl, rfl⟩) | (go_at_call 10; (with_reducible refine (next_none _).mono ?_); rintro e w' ⟨rfl, rfl⟩) | (go_at_call 12; (with_reducible refine (fire_none _ _).mono ?_); rintro e w' ⟨rfl, rfl⟩) | (go_at_call 9; (with_reducible refine (new_any _).mono ?_); rintro e w' ⟨rfl, rfl⟩) | (go_at_call 16; (with_reducible refine (R3.out _ _).mono ?_); rintro e w' ⟨rfl, rfl⟩) | (go_at_call 17; (with_reducible refine (R4.out _).mono ?_); rintro e w' ⟨rfl, rfl⟩) | (go_at_call 18; (with_reducible refine (R5.out _).mono ?_); rintro e w' ⟨rfl, rfl⟩) | (go_at_call 13; (with_reducible refine (Q1.out _ _ _).mono ?_); rintro e w' ⟨rfl, rfl⟩) | (go_at_call 14; (with_reducible refine (Q2.out _ _ _ _).mono ?_); rintro e w' ⟨rfl, rfl⟩) | (go_at_call 16; (with_reducible refine (Q3.out _ _ _).mono ?_); rintro e w' ⟨rfl, rfl⟩) | (go_at_call 17; (with_reducible refine (Q4.out _ _).mono ?_); rintro e w' ⟨rfl, rfl⟩) | (go_at_call 18; (with_reducible refine (Q5.out _ _).mono ?_); rintro e w' ⟨rfl, rfl⟩))
      go_ret
      exact ⟨rfl, below_dn (HB.out.alloc HB.out.size _) _⟩
end Go.Proofs.Ytkbjjkolhhmafaa.Tb
