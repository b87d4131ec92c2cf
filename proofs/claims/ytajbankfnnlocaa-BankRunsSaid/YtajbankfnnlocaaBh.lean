/- The law's call of any kind. -/
import Derived.Test.YtajbankfnnlocaaBg
namespace Go.Proofs.Ytajbankfnnlocaa.Bh
set_option linter.unusedVariables false
set_option linter.unusedSimpArgs false
open Go.RowKit Go.Proofs.Ytajbankfnnlocaa.Bt Go.Proofs.Ytajbankfnnlocaa.Wk Go.Proofs.Ytajbankfnnlocaa.Sg Go.Proofs.Ytajbankfnnlocaa.Ba Go.Proofs.Ytajbankfnnlocaa.Bb Go.Proofs.Ytajbankfnnlocaa.Bc Go.Proofs.Ytajbankfnnlocaa.Bd Go.Proofs.Ytajbankfnnlocaa.Be Go.Proofs.Ytajbankfnnlocaa.Bf Go.Proofs.Ytajbankfnnlocaa.Bg

def doA (A : Ab) (k i x : Int) : Ab :=
  if k = 0 then setAb A (nb i) x else if k = 1 then setStA A x else if k = 2 then setSavedA A x else if k = 3 then setUserA A (nb i) x else if k = 4 then enterA A (IntKind.u32.wrap i) x else A
theorem at_alloc {b : Nat} {A : Ab} {P : Bk} {w : World} (h : At b A P w) (o : Obj) : At b A P (w.alloc o) := ⟨alloc_old o h.hs, h.rep, h.c0, h.c1⟩
theorem got_from {b : Nat} {A : Ab} {P : Bk} {w w' : World} {A' : Ab} (h : At b A P w) (o : Obj) (g : Got b A' (w.alloc o) w') : Got b A' w w' := by
  obtain ⟨Q, q, r⟩ := g
  exact ⟨Q, ((Only.refl h.hs).alloc o).trans q, r⟩
set_option maxHeartbeats 2000000 in
theorem do_abs (b : Nat) (k i x : Int) (x0 : 0 ≤ x) (x1 : x < 4294967296) (A : Ab) (P : Bk) (w : World) (h : At b A P w) :
    Calls Try.prog 17 #[.pointer (some ⟨b, 0, none⟩), .agg #[.int .i64 k, .int .i64 i, .int .u32 x]] w fun e w' => e = .returned (.tuple #[]) ∧ Got b (doA A k i x) w w' := by
  have u0 : 0 ≤ IntKind.u32.wrap i := by rw [IntKind.wrap_u32]; omega
  have u1 : IntKind.u32.wrap i < 4294967296 := by rw [IntKind.wrap_u32]; omega
  have h' := at_alloc h (.cells #[.int .i64 k, .int .i64 i, .int .u32 x] 36)
  have S0 := Lib.hid (set_abs b i x A P _ h')
  have S1 := Lib.hid (setStatus_abs b x x0 x1 A P _ h')
  have S2 := Lib.hid (setSaved_abs b x A P _ h')
  have S3 := Lib.hid (setUser_abs b i x A P _ h')
  have S4 := Lib.hid (enter_abs b (IntKind.u32.wrap i) x u0 u1 A P _ h')
  have H := Lib.hid h
  have hlt := sizeAt h.hs
  have E : (Got b A w (w.alloc (.cells #[.int .i64 k, .int .i64 i, .int .u32 x] 36))) := ⟨P, (Only.refl h.hs).alloc _, h.rep, h.c0, h.c1⟩
  have EH := Lib.hid E
  clear h h' E
  unfold doA
  by_cases c0 : k = 0
  · subst c0
    rw [if_pos rfl]
    go_enter Try.func17, Try.ntmps17
    go_wp2_with (go_at_call 11; refine S0.out.mono ?_; rintro e w' ⟨rfl, g⟩)
    go_end0
    exact ⟨rfl, got_from H.out _ g⟩
  rw [if_neg c0]
  have d0 : (k == 0) = false := by simpa using c0
  by_cases c1 : k = 1
  · subst c1
    rw [if_pos rfl]
    clear c0
    go_enter Try.func17, Try.ntmps17
    go_wp2_with (go_at_call 10; refine S1.out.mono ?_; rintro e w' ⟨rfl, g⟩)
    go_end0
    exact ⟨rfl, got_from H.out _ g⟩
  rw [if_neg c1]
  have d1 : (k == 1) = false := by simpa using c1
  by_cases c2 : k = 2
  · subst c2
    rw [if_pos rfl]
    clear c0 c1
    go_enter Try.func17, Try.ntmps17
    go_wp2_with (go_at_call 12; refine S2.out.mono ?_; rintro e w' ⟨rfl, g⟩)
    go_end0
    exact ⟨rfl, got_from H.out _ g⟩
  rw [if_neg c2]
  have d2 : (k == 2) = false := by simpa using c2
  by_cases c3 : k = 3
  · subst c3
    rw [if_pos rfl]
    clear c0 c1 c2
    go_enter Try.func17, Try.ntmps17
    go_wp2_with (go_at_call 30; refine S3.out.mono ?_; rintro e w' ⟨rfl, g⟩)
    go_end0
    exact ⟨rfl, got_from H.out _ g⟩
  rw [if_neg c3]
  have d3 : (k == 3) = false := by simpa using c3
  by_cases c4 : k = 4
  · subst c4
    rw [if_pos rfl]
    clear c0 c1 c2 c3
    go_enter Try.func17, Try.ntmps17
    go_wp2_with (go_at_call 27; refine S4.out.mono ?_; rintro e w' ⟨rfl, g⟩)
    go_end0
    exact ⟨rfl, got_from H.out _ g⟩
  rw [if_neg c4]
  have d4 : (k == 4) = false := by simpa using c4
  clear c0 c1 c2 c3 c4
  go_enter Try.func17, Try.ntmps17
  go_wp2
  go_end0
  exact ⟨rfl, EH.out⟩
/-- A mode's name; 0 is User. -/
def kd (x : Int) : Int := if x % 32 = 17 ∨ x % 32 = 18 ∨ x % 32 = 19 ∨ x % 32 = 23 ∨ x % 32 = 27 then x % 32 else 0
set_option maxHeartbeats 1000000 in
theorem kind_any (x : Int) (h0 : 0 ≤ x) (h1 : x < 4294967296) (w : World) :
    Calls Try.prog 26 #[.int .u32 x] w fun e w' => e = .returned (.int .u32 (kd x)) ∧ w = w' := by
  have g : Go.bits .and .u32 x 31 = x % 32 := and_u h0 h1 5 (by decide) _ (by decide) _ (by decide)
  go_enter Try.func26, Try.ntmps26
  go_wp2
  all_goals
    go_ret
    refine ⟨ret_i ?_, rfl⟩
    clear g
    try simp only [beq_iff_eq, beq_eq_false_iff_ne, ne_eq] at *
    unfold kd
    split
    all_goals first | rfl | omega
theorem kd_sl (x y : Int) : (kd x = kd y ↔ sl x = sl y) ∧ (kd x = 0 ↔ sl x = 0) := by
  unfold kd sl
  refine ⟨?_, ?_⟩
  · repeat' split
    all_goals omega
  · repeat' split
    all_goals omega
end Go.Proofs.Ytajbankfnnlocaa.Bh
