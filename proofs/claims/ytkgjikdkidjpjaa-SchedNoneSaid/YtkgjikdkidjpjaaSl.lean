/- SchedNone, SchedBound, walked. -/
import Derived.Test.YtkgjikdkidjpjaaSk
namespace Go.Proofs.Ytkgjikdkidjpjaa.Sl
set_option linter.unusedVariables false
set_option linter.unusedSimpArgs false
open Go.RowKit Go.Proofs.Ytkgjikdkidjpjaa.Wk Go.Proofs.Ytkgjikdkidjpjaa.Sp Go.Proofs.Ytkgjikdkidjpjaa.Sa Go.Proofs.Ytkgjikdkidjpjaa.Sb Go.Proofs.Ytkgjikdkidjpjaa.Sc Go.Proofs.Ytkgjikdkidjpjaa.Sd Go.Proofs.Ytkgjikdkidjpjaa.Se Go.Proofs.Ytkgjikdkidjpjaa.Sf Go.Proofs.Ytkgjikdkidjpjaa.Sk

set_option maxHeartbeats 4000000 in
theorem none_law (a k n : Int) (ha : (Lit.int .i64 a).wf = true) (hk : (Lit.int .i64 k).wf = true) (hn : (Lit.int .i64 n).wf = true) (w : World) :
    Calls Try.prog 7 #[.agg #[.int .i64 a, .int .i64 k], .int .i64 n] w fun e w' => e = .returned (.bool true) ∧ Below w.heap.size w w' := by
  clear ha hk hn
  go_enter Try.func7, Try.ntmps7
  go_wp2_with fail
  have A := alloc_new w (.cells #[.int .i64 a, .int .i64 k] 28)
  have hb := bl w (.cells #[.int .i64 a, .int .i64 k] 28)
  generalize w.alloc (.cells #[.int .i64 a, .int .i64 k] 28) = w1 at *
  refine (awake_any _).mono ?_
  rintro e w2 ⟨rfl, hb2⟩
  have A2 := Lib.hid (keep hb2 A)
  have HB := Lib.hid (below_then hb hb2 hb.size)
  clear A hb hb2
  go_wp2_with fail
  refine (due_nil _).mono ?_
  rintro e w3 ⟨rfl, hb3⟩
  have A3 := Lib.hid (alloc_old (.cells #[.int .i64 0, .int .i64 0] 28) (keep hb3 A2.out))
  have HB3 := Lib.hid (below_then (below_then HB.out hb3 HB.out.size) (bl w3 (.cells #[.int .i64 0, .int .i64 0] 28)) (below_then HB.out hb3 HB.out.size).size)
  clear A2 HB hb3
  go_wp2_with fail
  generalize w3.alloc (.cells #[.int .i64 0, .int .i64 0] 28) = w4 at *
  have C := cellsAt A3.out
  refine (next_nil _).mono ?_
  rintro e w' ⟨rfl, rfl⟩
  go_wp2_with fail
  refine (now_nil _).mono ?_
  rintro e w' ⟨rfl, rfl⟩
  go_wp2_with fail
  refine (pass_nil _ _).mono ?_
  rintro e w' ⟨rfl, rfl⟩
  go_wp2_with fail
  refine (add_nil _ _ _).mono ?_
  rintro e w5 ⟨rfl, hb5⟩
  have HB5 := Lib.hid (below_then HB3.out hb5 HB3.out.size)
  clear hb5 C A3
  go_wp2_with fail
  refine (cancel_nil _ _).mono ?_
  rintro e w' ⟨rfl, rfl⟩
  go_wp2_with fail
  refine (len_nil _).mono ?_
  rintro e w' ⟨rfl, rfl⟩
  go_wp2_with fail
  go_ret
  exact ⟨rfl, HB5.out⟩
set_option maxHeartbeats 16000000 in
theorem bound_law (a k n : Int) (ha : (Lit.int .i64 a).wf = true) (hk : (Lit.int .i64 k).wf = true) (hn : (Lit.int .i64 n).wf = true) (w : World) :
    Calls Try.prog 3 #[.int .i64 a, .int .i64 k, .int .i64 n] w fun e w' => e = .returned (.bool true) ∧ Below w.heap.size w w' := by
  clear ha hk hn
  go_enter Try.func3, Try.ntmps3
  go_wp2_with fail
  refine (awake_any _).mono ?_
  rintro e w0 ⟨rfl, hb0⟩
  go_wp2_with fail
  refine (new_any _).mono ?_
  rintro e w1 ⟨rfl, rfl⟩
  have S := st_new w0 w.heap.size hb0.size
  have hb := below_then hb0 (bl w0 (.cells #[.int .i64 0, .int .i64 0, .slice none 0 0] 54)) hb0.size
  generalize w0.alloc (.cells #[.int .i64 0, .int .i64 0, .slice none 0 0] 54) = w1 at *
  generalize w0.heap.size = sb at *
  have SH := Lib.hid S
  have HB := Lib.hid hb
  clear S hb hb0
  go_wp2_with fail
  go_loopw [15] (fun iv wr => ∃ (j : Nat) (v : Value) (L : List Ent), iv = .int .i64 j ∧ j ≤ 16 ∧ L.length = j ∧ St wr w.heap.size sb 0 j v L ∧ Below w.heap.size w wr) (fun iv _ => 16 - (intOf iv).toNat)
  case atStart => exact ⟨0, _, [], rfl, by omega, rfl, SH.out, HB.out⟩
  case round =>
    obtain ⟨j, v, L, rfl, hj, hL, S, hb⟩ := hrel
    by_cases hlt : j < 16
    · have A := Lib.hid (add_ok S (j : Int) ((j : Int) % 3) (by unfold bad; omega) (by omega) (by omega))
      have t : decide ((j : Int) < 16) = true := by simp; omega
      have LH := Lib.hid hL
      have SH := Lib.hid S
      have HB := Lib.hid hb
      clear S hb hL
      go_wp2_with fail
      refine A.out.mono ?_
      rintro e w2 ⟨rfl, v2, S2, T2⟩
      have HB2 := Lib.hid (SH.out.bel T2 HB.out)
      have S2H := Lib.hid S2
      clear S2 T2
      go_wp2_with fail
      go_roundw
      case rel => exact ⟨j + 1, v2, L ++ [((j : Int), (j : Int) % 3, (j : Int))], by go_num, by omega, by have := LH.out; simp; omega, by have := S2H.out; exact_mod_cast this, HB2.out⟩
      case measure => simp [intOf]; omega
    · have t : decide ((j : Int) < 16) = false := by simp; omega
      have l16 : 16 ≤ L.length := by omega
      have l16' : L.length = 16 := by omega
      have Ln := slen_any S
      rw [l16'] at Ln
      have SH := Lib.hid S
      have HB := Lib.hid hb
      have LnH : ∀ w2, Below wr.heap.size wr w2 → Hid (Calls Try.prog 11 #[.pointer (some ⟨sb, 0, none⟩)] w2 fun e w' => e = .returned (.int .i64 16) ∧ w2 = w') := fun w2 hb2 => Lib.hid (by
        have := slen_any (S.below hb2)
        rw [l16'] at this
        exact this)
      have AE : ∃ r : Int, Hid (Calls Try.prog 10 #[.pointer (some ⟨sb, 0, none⟩), .agg #[.int .i64 a, .int .i64 k]] wr fun e w' => e = .returned (.int .i64 r) ∧ Below wr.heap.size wr w') ∧ ((r = 1 ∧ bad a k) ∨ (r = 70 ∧ ¬ bad a k)) := by
        by_cases hbad : bad a k
        · exact ⟨1, Lib.hid (add_bad sb a k hbad wr), .inl ⟨rfl, hbad⟩⟩
        · exact ⟨70, Lib.hid (add_full S a k hbad l16), .inr ⟨rfl, hbad⟩⟩
      obtain ⟨r, AH, hr⟩ := AE
      have key : ∀ (t0 : (r = 70 ∧ decide (a < 0) = false ∧ decide (2199023255552 < a) = false ∧ decide (k < 0) = false) ∨ (r = 1 ∧ decide (a < 0) = true) ∨ (r = 1 ∧ decide (a < 0) = false ∧ decide (2199023255552 < a) = true) ∨ (r = 1 ∧ decide (a < 0) = false ∧ decide (2199023255552 < a) = false ∧ decide (k < 0) = true)), True := fun _ => trivial
      have t0 : (r = 70 ∧ decide (a < 0) = false ∧ decide (2199023255552 < a) = false ∧ decide (k < 0) = false) ∨ (r = 1 ∧ decide (a < 0) = true) ∨ (r = 1 ∧ decide (a < 0) = false ∧ decide (2199023255552 < a) = true) ∨ (r = 1 ∧ decide (a < 0) = false ∧ decide (2199023255552 < a) = false ∧ decide (k < 0) = true) := by
        simp only [decide_eq_true_eq, decide_eq_false_iff_not]
        unfold bad at hr
        omega
      clear key hr S hb hL l16 l16' Ln
      rcases t0 with ⟨rfl, u1, u2, u3⟩ | ⟨rfl, u1⟩ | ⟨rfl, u1, u2⟩ | ⟨rfl, u1, u2, u3⟩
      all_goals
        go_wp2_with fail
        refine AH.out.mono ?_
        rintro e w2 ⟨rfl, hb2⟩
        have LN := LnH w2 hb2
        have S2 := SH.out.below hb2
        have HB2 := below_then HB.out hb2 HB.out.size
        have NW := Lib.hid (now_any S2)
        have S2H := Lib.hid S2
        have HB2H := Lib.hid HB2
        clear S2 HB2 hb2 LnH
        go_wp2_with fail
        refine LN.out.mono ?_
        rintro e w' ⟨rfl, rfl⟩
        by_cases n0 : n < 0
        · have q0 : decide (0 ≤ n) = false := by simp; omega
          have P := Lib.hid (pass_bad S2H.out n (.inl n0))
          go_wp2_with fail
          refine P.out.mono ?_
          rintro e w' ⟨rfl, rfl⟩
          go_wp2_with fail
          refine NW.out.mono ?_
          rintro e w' ⟨rfl, rfl⟩
          go_wp2_with fail
          go_ret
          exact ⟨rfl, HB2H.out⟩
        · have q0 : decide (0 ≤ n) = true := by simp; omega
          by_cases n1 : n ≤ 1099511627776
          · have q1 : decide (n ≤ 1099511627776) = true := by simpa using n1
            have P := Lib.hid (pass_ok S2H.out n (by omega) (by omega))
            go_wp2_with fail
            refine P.out.mono ?_
            rintro e w3 ⟨rfl, S3, T3⟩
            have HB3 := Lib.hid (S2H.out.bel T3 HB2H.out)
            have N3 := now_any S3
            rw [Int.zero_add] at N3
            have N3H := Lib.hid N3
            clear S3 T3 N3
            go_wp2_with fail
            refine N3H.out.mono ?_
            rintro e w' ⟨rfl, rfl⟩
            go_wp2_with fail
            go_ret
            exact ⟨rfl, HB3.out⟩
          · have q1 : decide (n ≤ 1099511627776) = false := by simpa using n1
            have P := Lib.hid (pass_bad S2H.out n (.inr (by omega)))
            go_wp2_with fail
            refine P.out.mono ?_
            rintro e w' ⟨rfl, rfl⟩
            go_wp2_with fail
            refine NW.out.mono ?_
            rintro e w' ⟨rfl, rfl⟩
            go_wp2_with fail
            go_ret
            exact ⟨rfl, HB2H.out⟩
end Go.Proofs.Ytkgjikdkidjpjaa.Sl
