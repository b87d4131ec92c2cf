/- The document's timers, walked. -/
import Derived.Test.YtkbjjkolhhmafaaTb
import Derived.Deep.RegionHeld3
namespace Go.Proofs.Ytkbjjkolhhmafaa.Te
set_option linter.unusedVariables false
set_option linter.unusedSimpArgs false
open Go.RowKit Go.Proofs.Ytkbjjkolhhmafaa.Bt Go.Proofs.Ytkbjjkolhhmafaa.Wk Go.Proofs.Ytkbjjkolhhmafaa.Sg Go.Proofs.Ytkbjjkolhhmafaa.Ta

set_option maxHeartbeats 1000000 in
theorem rruns_any (b o : Nat) (x : Int) (h0 : 0 ≤ x) (h1 : x < 65536) (w : World) (hc : w.cell? ⟨b, o + 1, none⟩ = some (.int .u16 x)) :
    Calls Try.prog 23 #[.pointer (some ⟨b, o, none⟩)] w fun e w' => e = .returned (.bool (x / 128 % 2 == 1)) ∧ w = w' := by
  go_enter Try.func23, Try.ntmps23
  go_wp2
  go_ret
  exact ⟨rfl, rfl⟩
/-- The slice of steps. -/
def steps : Obj := .cells #[.int .i64 1, .int .i64 64, .int .i64 256, .int .i64 1024] 3
set_option maxHeartbeats 1000000 in
theorem rstep_any (b i : Nat) (o : One) (h0 : 0 ≤ o.ct) (h1 : o.ct < 65536) (w : World) (hc : ∀ p, (w.alloc p).cell? ⟨b, i + 1, none⟩ = some (.int .u16 o.ct)) :
    Calls Try.prog 22 #[.pointer (some ⟨b, i, none⟩)] w fun e w' => e = .returned (.int .i64 (stp o)) ∧ w' = w.alloc steps := by
  unfold stp
  generalize o.ct = x at *
  have C := hc (Obj.cells #[Value.int IntKind.i64 1, Value.int IntKind.i64 64, Value.int IntKind.i64 256, Value.int IntKind.i64 1024] 3)
  clear hc
  have : x % 4 = 0 ∨ x % 4 = 1 ∨ x % 4 = 2 ∨ x % 4 = 3 := by omega
  rcases this with e | e | e | e
  all_goals
    rw [e]
    go_enter Try.func22, Try.ntmps22
    go_wp2
    go_ret
    exact ⟨rfl, rfl⟩
set_option maxHeartbeats 1000000 in
theorem alone_any (b i : Nat) (T : Nat → One) (L : List Value) (hi : i < 4) (h0 : 0 ≤ (T i).ct) (h1 : (T i).ct < 65536) (ty : TypeId) (w : World) (hs : w.heap[b]? = some (.cells (tl T L).toArray ty (0, 0))) :
    Calls Try.prog 21 #[.pointer (some ⟨b, 0, none⟩), .int .i64 i] w fun e w' => e = .returned (.bool (freeB T i)) ∧ ∃ n, w' = w.drewN n := by
  have C : w.cell? ⟨b, i * 4 + 1, none⟩ = some (.int .u16 (T i).ct) := (cellsAt hs _).trans (tl_at T L hi (j := 1) (by decide))
  have R := Lib.hid (rruns_any b (i * 4) (T i).ct h0 h1 w C)
  clear hs
  unfold freeB runsB
  generalize (T i).ct = x at *
  cases hr : (x / 128 % 2 == 1)
  · rw [hr] at R
    have hrH := Lib.hid hr
    clear hr
    go_enter Try.func21, Try.ntmps21
    go_wp2_with (go_at_call 23; refine R.out.mono ?_; rintro e w' ⟨rfl, rfl⟩)
    go_ret
    exact ⟨rfl, 0, rfl⟩
  · rw [hr] at R
    have hrH := Lib.hid hr
    clear hr
    by_cases e : i = 0
    · subst e
      go_enter Try.func21, Try.ntmps21
      go_wp2_with (go_at_call 23; refine R.out.mono ?_; rintro e w' ⟨rfl, rfl⟩)
      go_ret
      exact ⟨rfl, 0, rfl⟩
    · have d : ((i : Int) == 0) = false := by simpa using e
      have d2 : (i == 0) = false := by simpa using e
      go_enter Try.func21, Try.ntmps21
      go_wp2_with (go_at_call 23; refine R.out.mono ?_; rintro e w' ⟨rfl, rfl⟩)
      go_ret
      refine ⟨?_, 0, rfl⟩
      rw [d2]; rfl
/-- The document's object. -/
def rt (T : Nat → One) (now : Int) : Obj := .cells (tl T [.int .i64 now]).toArray 32 (0, 0)
theorem now_at (T : Nat → One) (now : Int) : (tl T [.int .i64 now]).toArray[16]? = some (.int .i64 now) := by
  rw [toArray_at, show 16 = 16 + 0 from rfl]; unfold tl; rw [seg_out]; rfl
theorem set_now {b : Nat} {T : Nat → One} {now : Int} {w W : World} (h : Only b (rt T now) w W) (v : Int) : Only b (rt T v) w (W.setCell ⟨b, 16, none⟩ (.int .i64 v)) :=
  (h.set (j := 16) _).to (by unfold rt; rw [toArray_set, show 16 = 16 + 0 from rfl]; unfold tl; rw [seg_set_out]; rfl)
/-- A timer behind another control word. -/
def setR (o : One) (x : Int) : One :=
  { re := o.re, ct := Go.bits .and .u16 x 199, co := if (!runsB o && Go.bits .and .u16 x 199 / 128 % 2 == 1) = true then o.re else o.co, si := 0 }
set_option maxHeartbeats 2000000 in
theorem set_any (b i : Nat) (T : Nat → One) (now : Int) (hi : i < 4) (h0 : 0 ≤ (T i).ct) (h1 : (T i).ct < 65536) (x : Int) (y : Int) (hy : Go.bits .and .u16 x 199 = y) (y0 : 0 ≤ y) (y1 : y < 65536) (w : World) (hs : w.heap[b]? = some (rt T now)) :
    Calls Try.prog 15 #[.pointer (some ⟨b, 0, none⟩), .int .i64 i, .int .u16 x] w fun e w' => e = .returned (.tuple #[]) ∧ Only b (rt (upd T i (setR (T i) x)) now) w w' := by
  obtain ⟨C0, C1, C2, C3⟩ := four hs hi
  have FF := freeAt hs
  have R1 := rruns_any b (i * 4) (T i).ct h0 h1 w C1
  have R2 := fun W hc => rruns_any b (i * 4) y y0 y1 W hc
  have O : Only b (rt (upd T i { re := (T i).re, ct := y, co := (T i).co, si := 0 }) now) w ((w.setCell ⟨b, i * 4 + 1, none⟩ (.int .u16 y)).setCell ⟨b, i * 4 + 3, none⟩ (.int .i64 0)) := by
    have := set_si (set_ct (Only.refl hs) hi y) hi 0
    simp only [upd_same, upd_upd] at this
    exact this
  have O2 : Only b (rt (upd T i { re := (T i).re, ct := y, co := (T i).re, si := 0 }) now) w (((w.setCell ⟨b, i * 4 + 1, none⟩ (.int .u16 y)).setCell ⟨b, i * 4 + 3, none⟩ (.int .i64 0)).setCell ⟨b, i * 4 + 2, none⟩ (.int .i64 (T i).re)) := by
    have := set_co (set_si (set_ct (Only.refl hs) hi y) hi 0) hi (T i).re
    simp only [upd_same, upd_upd] at this
    exact this
  have OH := Lib.hid O
  have O2H := Lib.hid O2
  have S : setR (T i) x = { re := (T i).re, ct := y, co := if (!runsB (T i) && y / 128 % 2 == 1) = true then (T i).re else (T i).co, si := 0 } := by unfold setR; rw [hy]
  have SH := Lib.hid S
  have r : runsB (T i) = ((T i).ct / 128 % 2 == 1) := rfl
  clear hs O O2 S
  generalize runsB (T i) = rb at *
  cases hr : ((T i).ct / 128 % 2 == 1) <;> cases hq : (y / 128 % 2 == 1)
  all_goals
    have e := SH.out
    rw [r, hr, hq] at e
    have eH := Lib.hid e
    rw [hr] at R1
    rw [hq] at R2
    have R1H := Lib.hid R1
    have R2H := Lib.hid R2
    clear e r hr hq R1 R2 SH
    generalize (T i).ct = ct at *
    generalize (T i).re = re at *
    generalize (T i).co = co at *
    generalize (T i).si = si at *
    go_enter Try.func15, Try.ntmps15
    go_wp2_with fail
    refine R1H.out.mono ?_
    rintro e w' ⟨rfl, rfl⟩
    go_wp2_with fail
    try (refine (R2H.out _ (by go_simp)).mono ?_; rintro e w' ⟨rfl, rfl⟩; go_wp2_with fail)
    go_end0
    rw [eH.out]
    first
      | exact ⟨rfl, OH.out⟩
      | exact ⟨rfl, O2H.out⟩
/-- A count goes up. -/
def upO (o : One) : One := if o.co = 65535 then { o with co := o.re } else { o with co := o.co + 1 }
/-- What one cycle makes of the first k timers; which have run over. -/
def tickF (T : Nat → One) : Nat → (Nat → One) × Nat
  | 0 => (T, 0)
  | k + 1 =>
    let (U, m) := tickF T k
    if freeB T k then
      (if (T k).si + 1 = stp (T k) then (upd U k (upO { T k with si := 0 }), if (T k).co = 65535 then m + 2 ^ k else m) else (upd U k { T k with si := (T k).si + 1 }, m))
    else if runsB (T k) && m.testBit (k - 1) then (upd U k (upO (T k)), if (T k).co = 65535 then m + 2 ^ k else m)
    else (U, m)
theorem tick_lt (T : Nat → One) (k : Nat) : (tickF T k).2 < 2 ^ k := by
  induction k with
  | zero => exact Nat.lt_succ_self 0
  | succ k ih =>
    unfold tickF
    rw [Nat.pow_succ]
    dsimp only
    repeat' split
    all_goals (first | omega | (dsimp only; omega))
theorem tick_same (T : Nat → One) (k j : Nat) (h : k ≤ j) : (tickF T k).1 j = T j := by
  induction k with
  | zero => rfl
  | succ k ih =>
    have := ih (by omega)
    unfold tickF
    dsimp only
    repeat' split
    all_goals (first | exact this | (dsimp only; rw [upd_ne _ _ (by omega)]; exact this))
/-- Bounds of a timer's words, in the document. -/
structure Rk (o : One) : Prop where
  re0 : 0 ≤ o.re
  re1 : o.re ≤ 65535
  ct0 : 0 ≤ o.ct
  ct1 : o.ct < 65536
  co0 : 0 ≤ o.co
  co1 : o.co ≤ 65535
  si0 : 0 ≤ o.si
  si1 : o.si < stp o
theorem add_bit (m k : Nat) (h : m < 2 ^ k) (hk : k < 4) : wrap64 ((m : Int) + wrap64 (2 ^ k)) = ((m + 2 ^ k : Nat) : Int) := by
  have l : 2 ^ k ≤ 2 ^ 3 := Nat.pow_le_pow_right (by decide) (by omega)
  have e : ((2 : Int) ^ k) = ((2 ^ k : Nat) : Int) := (Int.natCast_pow 2 k).symm
  rw [e]
  generalize 2 ^ k = p at *
  have hw : wrap64 ((p : Nat) : Int) = p := wrap64_id (by omega) (by omega)
  rw [hw, wrap64_id (by omega) (by omega)]
  omega
theorem shr_mod (m j : Nat) : (((m : Int) / 2 ^ j).tmod 2 == 1) = m.testBit j := by
  rw [Int.tmod_eq_emod_of_nonneg (Int.ediv_nonneg (by omega) (Int.le_of_lt (Int.pow_pos (by decide))))]
  have e : ((2 : Int) ^ j) = ((2 ^ j : Nat) : Int) := (Int.natCast_pow 2 j).symm
  rw [e, ← Int.natCast_ediv, Nat.testBit_eq_decide_div_mod_eq]
  have : m / 2 ^ j % 2 = 0 ∨ m / 2 ^ j % 2 = 1 := by omega
  rcases this with h | h
  · have : ((m / 2 ^ j : Nat) : Int) % 2 = 0 := by omega
    rw [h, this]; rfl
  · have : ((m / 2 ^ j : Nat) : Int) % 2 = 1 := by omega
    rw [h, this]; rfl
set_option maxRecDepth 100000 in
set_option maxHeartbeats 4000000 in
theorem tick_any (b : Nat) (T : Nat → One) (now : Int) (h : ∀ i, i < 4 → Rk (T i)) (n0 : 0 ≤ now) (n1 : now ≤ 1099511627776) (w : World) (hs : w.heap[b]? = some (rt T now)) :
    Calls Try.prog 11 #[.pointer (some ⟨b, 0, none⟩)] w fun e w' => e = .returned (.int .i64 (tickF T 4).2) ∧ Only b (rt (tickF T 4).1 (now + 1)) w w' := by
  have H := Lib.hid hs
  have C16 : w.cell? ⟨b, 16, none⟩ = some (.int .i64 now) := (cellsAt hs _).trans (now_at T now)
  have F16 := freeAt hs
  have cn : wrap64 (now + 1) = now + 1 := wrap64_id (by omega) (by omega)
  have FI := Lib.hid (tick_lt T)
  have FS := Lib.hid (tick_same T)
  have ST : ∀ k, tickF T (k + 1) = (if freeB T k then
      (if (T k).si + 1 = stp (T k) then (upd (tickF T k).1 k (upO { T k with si := 0 }), if (T k).co = 65535 then (tickF T k).2 + 2 ^ k else (tickF T k).2) else (upd (tickF T k).1 k { T k with si := (T k).si + 1 }, (tickF T k).2))
    else if runsB (T k) && (tickF T k).2.testBit (k - 1) then (upd (tickF T k).1 k (upO (T k)), if (T k).co = 65535 then (tickF T k).2 + 2 ^ k else (tickF T k).2)
    else ((tickF T k).1, (tickF T k).2)) := fun k => rfl
  have STH := Lib.hid ST
  have F0 : tickF T 0 = (T, 0) := rfl
  have F0H := Lib.hid F0
  have ON := Lib.hid (set_now (Only.refl hs) (now + 1))
  clear ST hs F0
  go_enter Try.func11, Try.ntmps11
  go_wp2
  go_loopw [3, 4] (fun m i wr => ∃ k : Nat, k ≤ 4 ∧ i = .int .i64 k ∧ m = .int .i64 (tickF T k).2 ∧ Only b (rt (tickF T k).1 (now + 1)) w wr) (fun _ i _ => 4 - (intOf i).toNat)
  case atStart => exact ⟨0, by omega, rfl, by rw [F0H.out]; rfl, by rw [F0H.out]; exact ON.out⟩
  case round =>
    obtain ⟨k, hk, rfl, rfl, ho⟩ := hrel
    by_cases hlt : k < 4
    · have ok := h k hlt
      have same := FS.out k k (Nat.le_refl k)
      have ml := FI.out k
      have S := STH.out k
      have ob := ho
      obtain ⟨C0, C1, C2, C3⟩ := four ho.at_ hlt
      have FR := freeAt ho.at_
      have hfr : freeB (tickF T k).1 k = freeB T k := by unfold freeB; rw [same]
      have R := alone_any b k (tickF T k).1 [.int .i64 (now + 1)] hlt (by rw [same]; exact ok.ct0) (by rw [same]; exact ok.ct1) 32 wr ho.at_
      rw [hfr] at R
      generalize (tickF T k).1 = U at *
      generalize (tickF T k).2 = m at *
      rw [same] at C0 C1 C2 C3
      have Rn := Lib.hid (fun n => rruns_any b (k * 4) (T k).ct ok.ct0 ok.ct1 (wr.drewN n) C1)
      have c0 := ok.co0
      have c1 := ok.co1
      have s0 := ok.si0
      have s1 := ok.si1
      have sp := stp_pos (T k)
      have OB := Lib.hid ho
      have SM := Lib.hid same
      have SH := Lib.hid S
      have OR := Lib.hid (add_bit m k ml hlt)
      have cs : wrap64 ((T k).si + 1) = (T k).si + 1 := wrap64_id (by omega) (by omega)
      have cc : wrap64 ((T k).co + 1) = (T k).co + 1 := wrap64_id (by omega) (by omega)
      clear hfr same S ho ob
      cases hf : freeB T k
      · rw [hf] at R SH
        have RH := Lib.hid R
        cases hr : runsB (T k)
        · have SS := SH.out
          rw [if_neg (by decide), hr, if_neg (by simp)] at SS
          have SSH := Lib.hid SS
          have r : ((T k).ct / 128 % 2 == 1) = false := hr
          rw [r] at Rn
          clear SS SH hr r R hf
          go_wp2_with (first | (go_at_call 21; refine RH.out.mono ?_; rintro e w' ⟨rfl, n, rfl⟩) | (go_at_call 23; refine (Rn.out _).mono ?_; rintro e w' ⟨rfl, rfl⟩))
          go_roundw
          case rel => exact ⟨k + 1, by omega, by go_num, by rw [SSH.out], by rw [SSH.out]; exact OB.out.drewN _⟩
          case measure => simp [intOf]; omega
        · have k0 : k ≠ 0 := by
            rintro rfl
            unfold freeB at hf
            rw [hr] at hf
            simp at hf
          have r : ((T k).ct / 128 % 2 == 1) = true := hr
          rw [r] at Rn
          obtain ⟨j, rfl⟩ : ∃ j, k = j + 1 := ⟨k - 1, by omega⟩
          have SS := SH.out
          rw [if_neg (by decide), hr, Nat.add_sub_cancel, Bool.true_and] at SS
          have B := shr_mod m j
          clear SH hr r R hf
          cases hb : m.testBit j
          · rw [hb] at B SS
            rw [if_neg (by decide)] at SS
            have SSH := Lib.hid SS
            clear SS hb
            go_wp2_with (first | (go_at_call 21; refine RH.out.mono ?_; rintro e w' ⟨rfl, n, rfl⟩) | (go_at_call 23; refine (Rn.out _).mono ?_; rintro e w' ⟨rfl, rfl⟩))
            go_roundw
            case rel => exact ⟨j + 1 + 1, by omega, by go_num, by rw [SSH.out], by rw [SSH.out]; exact OB.out.drewN _⟩
            case measure => simp [intOf]; omega
          · rw [hb] at B SS
            rw [if_pos rfl] at SS
            have or := OR.out
            by_cases c2 : (T (j + 1)).co = 65535
            · rw [if_pos c2] at SS
              have SSH := Lib.hid SS
              have c2' : ((T (j + 1)).co + 1 == 65536) = true := by simp; omega
              have c2H := Lib.hid c2
              clear SS hb c2
              go_wp2_with (first | (go_at_call 21; refine RH.out.mono ?_; rintro e w' ⟨rfl, n, rfl⟩) | (go_at_call 23; refine (Rn.out _).mono ?_; rintro e w' ⟨rfl, rfl⟩))
              go_roundw
              case rel =>
                refine ⟨j + 1 + 1, by omega, by go_num, ?_, ?_⟩
                · rw [SSH.out]
                  exact congrArg (Value.int .i64) (by first | exact or | simp)
                · have := set_co (set_co ((OB.out).drewN n) hlt ((T (j + 1)).co + 1)) hlt (T (j + 1)).re
                  simp only [upd_same, upd_upd, SM.out] at this
                  rw [SSH.out]
                  unfold upO
                  rw [if_pos c2H.out]
                  exact this
              case measure => simp [intOf]; omega
            · rw [if_neg c2] at SS
              have SSH := Lib.hid SS
              have c2' : ((T (j + 1)).co + 1 == 65536) = false := by simp; omega
              have c2H := Lib.hid c2
              clear SS hb c2
              go_wp2_with (first | (go_at_call 21; refine RH.out.mono ?_; rintro e w' ⟨rfl, n, rfl⟩) | (go_at_call 23; refine (Rn.out _).mono ?_; rintro e w' ⟨rfl, rfl⟩))
              go_roundw
              case rel =>
                refine ⟨j + 1 + 1, by omega, by go_num, by rw [SSH.out], ?_⟩
                have := set_co ((OB.out).drewN n) hlt ((T (j + 1)).co + 1)
                simp only [SM.out] at this
                rw [SSH.out]
                unfold upO
                rw [if_neg c2H.out]
                exact this
              case measure => simp [intOf]; omega
      · rw [hf] at R SH
        have RH := Lib.hid R
        clear R hf
        go_wp2_with (go_at_call 21; refine RH.out.mono ?_; rintro e w' ⟨rfl, n, rfl⟩)
        have o1 : Only b (rt (upd U k { T k with si := (T k).si + 1 }) (now + 1)) w ((wr.drewN n).setCell ⟨b, k * 4 + 3, none⟩ (.int .i64 ((T k).si + 1))) := by
          have := set_si (OB.out.drewN n) hlt ((T k).si + 1)
          rw [SM.out] at this
          exact this
        clear C0 C1 C2 C3 FR Rn RH
        generalize (wr.drewN n).setCell ⟨b, k * 4 + 3, none⟩ (.int .i64 ((T k).si + 1)) = w1 at *
        have St : ∀ W, Only b (rt (upd U k { T k with si := (T k).si + 1 }) (now + 1)) w W → Calls Try.prog 22 #[.pointer (some ⟨b, k * 4, none⟩)] W fun e w' => e = .returned (.int .i64 (stp (T k))) ∧ Only b (rt (upd U k { T k with si := (T k).si + 1 }) (now + 1)) w w' := fun W hW =>
          (rstep_any b (k * 4) (T k) ok.ct0 ok.ct1 W fun p => by
            have := (four (alloc_old p hW.at_) hlt).c1
            rw [upd_same] at this
            exact this).mono fun e w' hh => ⟨hh.1, by rw [hh.2]; exact hW.alloc _⟩
        have Sc : ∀ W, Only b (rt (upd U k { T k with si := (T k).si + 1 }) (now + 1)) w W → W.cell? ⟨b, k * 4 + 3, none⟩ = some (.int .i64 ((T k).si + 1)) := fun W hW => by
          have := (four hW.at_ hlt).c3
          rw [upd_same] at this
          exact this
        have c3 := Sc _ o1
        have StH := Lib.hid St
        have ScH := Lib.hid Sc
        clear St Sc
        go_region_held3 (fun w' => w'.cell? ⟨b, k * 4 + 3, none⟩ = some (.int .i64 ((T k).si + 1)) ∧ Only b (rt (upd U k { T k with si := (T k).si + 1 }) (now + 1)) w w')
          (first
            | (go_split_ands
               first
                 | exact ⟨by assumption, by assumption⟩
                 | exact ⟨by assumption, Only.drew (by assumption)⟩)
            | exact ⟨ScH.out _ (by assumption), by assumption⟩)
          ((go_at_call 22; (with_reducible refine (StH.out _ (by first | assumption | exact Only.drew (by assumption))).mono ?_); rintro e w4 ⟨rfl, o4⟩))
        clear StH ScH c3 o1
        obtain ⟨C0, C1, C2, C3⟩ := four o4.at_ hlt
        have FR := freeAt o4.at_
        rw [upd_same] at C0 C1 C2 C3
        dsimp only at C0 C1 C2 C3
        have O4 := Lib.hid o4
        have or := OR.out
        clear o4
        by_cases c : (T k).si + 1 = stp (T k)
        · have c' : ((T k).si + 1 == stp (T k)) = true := beq_iff_eq.2 c
          by_cases c2 : (T k).co = 65535
          · have c2' : ((T k).co + 1 == 65536) = true := by simp; omega
            have SS := SH.out
            rw [if_pos trivial, if_pos c, if_pos c2] at SS
            have SSH := Lib.hid SS
            have c2H := Lib.hid c2
            clear SS SH c c2
            go_wp2
            go_roundw
            case rel =>
              refine ⟨k + 1, by omega, by go_num, ?_, ?_⟩
              · rw [SSH.out]
                exact congrArg (Value.int .i64) (by first | exact or | simp)
              · have := set_co (set_co (set_si O4.out hlt 0) hlt ((T k).co + 1)) hlt (T k).re
                simp only [upd_same, upd_upd] at this
                rw [SSH.out]
                unfold upO
                rw [if_pos c2H.out]
                exact this
            case measure => simp [intOf]; omega
          · have c2' : ((T k).co + 1 == 65536) = false := by simp; omega
            have SS := SH.out
            rw [if_pos trivial, if_pos c, if_neg c2] at SS
            have SSH := Lib.hid SS
            have c2H := Lib.hid c2
            clear SS SH c c2
            go_wp2
            go_roundw
            case rel =>
              refine ⟨k + 1, by omega, by go_num, by rw [SSH.out], ?_⟩
              have := set_co (set_si O4.out hlt 0) hlt ((T k).co + 1)
              simp only [upd_same, upd_upd] at this
              rw [SSH.out]
              unfold upO
              rw [if_neg c2H.out]
              exact this
            case measure => simp [intOf]; omega
        · have c' : ((T k).si + 1 == stp (T k)) = false := by simpa using c
          have SS := SH.out
          rw [if_pos trivial, if_neg c] at SS
          have SSH := Lib.hid SS
          clear SS SH c
          go_wp2
          go_roundw
          case rel => exact ⟨k + 1, by omega, by go_num, by rw [SSH.out], by rw [SSH.out]; exact O4.out⟩
          case measure => simp [intOf]; omega
    · obtain rfl : k = 4 := by omega
      go_wp2
      go_ret
      exact ⟨rfl, ho⟩
end Go.Proofs.Ytkbjjkolhhmafaa.Te
