/- Package bus and the document's answer, walked: an access's cost. -/
import Derived.Test.YtneiolibkclkoaaBa
namespace Go.Proofs.Ytneiolibkclkoaa.Be
set_option linter.unusedVariables false
set_option linter.unusedSimpArgs false
open Go.RowKit Go.Proofs.Ytneiolibkclkoaa.Bt Go.Proofs.Ytneiolibkclkoaa.Wk Go.Proofs.Ytneiolibkclkoaa.Ba

def pk3 (i a b c : Int) : Int := if i = 0 then a else if i = 1 then b else c
/-- What an access costs, by its region. -/
def cost (r i addr width cl f0 f1 f2 s0 s1 s2 sv : Int) : Int :=
  if r = 1 then (if width = 4 then 6 else 3)
  else if r = 4 ∨ r = 5 then (if width = 4 then 2 else 1)
  else if r = 8 then 1 + sv
  else if r = 7 then (if cl = 1 ∧ addr % 131072 ≠ 0 then 1 + pk3 i s0 s1 s2 else 1 + pk3 i f0 f1 f2) + (if width = 4 then 1 + pk3 i s0 s1 s2 else 0)
  else 1
def agg8 (f0 f1 f2 s0 s1 s2 sv : Int) (ah : Bool) : Value := .agg #[.int .i64 f0, .int .i64 f1, .int .i64 f2, .int .i64 s0, .int .i64 s1, .int .i64 s2, .int .i64 sv, .bool ah]
theorem ret_i64 {a b : Int} (h : a = b) : Ending.returned (.int .i64 a) = Ending.returned (.int .i64 b) := by rw [h]
set_option maxHeartbeats 2000000 in
theorem cost_else (addr width cl f0 f1 f2 s0 s1 s2 sv : Int) (ah : Bool) (h0 : 0 ≤ addr) (h1 : addr < 4294967296) (hsv : 0 ≤ sv ∧ sv ≤ 8) (hr : (mapped addr).1 ≠ 7) (w : World) :
    Calls Try.prog 12 #[agg8 f0 f1 f2 s0 s1 s2 sv ah, .int .u32 addr, .int .i64 width, .int .i64 cl] w fun e w' => e = .returned (.int .i64 (cost (mapped addr).1 ((addr / 16777216 - 8) / 2) addr width cl f0 f1 f2 s0 s1 s2 sv)) ∧ Below w.heap.size w w' := by
  have R := fun w => map_any addr h0 h1 w
  have c1 : wrap64 (1 + sv) = 1 + sv := wrap64_id (by omega) (by omega)
  generalize (mapped addr).1 = r at *
  generalize (mapped addr).2 = q at *
  have d7 : (r == 7) = false := by simpa using hr
  clear h0 h1 hsv
  unfold agg8
  go_enter Try.func12, Try.ntmps12
  go_wp2_with (go_at_call 8; refine (R _).mono ?_; rintro e w' ⟨rfl, rfl⟩)
  all_goals
    go_ret
    refine ⟨ret_i64 ?_, Below.alloc (Below.refl _ _) (Nat.le_refl _) _⟩
    clear R
    try simp only [beq_iff_eq, beq_eq_false_iff_ne, ne_eq] at *
    unfold cost
    repeat' split
    all_goals first | rfl | omega
set_option maxHeartbeats 2000000 in
theorem ref_cost_else (addr width cl f0 f1 f2 s0 s1 s2 sv : Int) (ah : Bool) (h0 : 0 ≤ addr) (h1 : addr < 4294967296) (hsv : 0 ≤ sv ∧ sv ≤ 8) (hr : (mapped addr).1 ≠ 7) (w : World) :
    Calls Try.prog 13 #[agg8 f0 f1 f2 s0 s1 s2 sv ah, .int .u32 addr, .int .i64 width, .int .i64 cl] w fun e w' => e = .returned (.int .i64 (cost (mapped addr).1 ((addr / 16777216 - 8) / 2) addr width cl f0 f1 f2 s0 s1 s2 sv)) ∧ Below w.heap.size w w' := by
  have R := fun w => ref_map_any addr h0 h1 w
  have c1 : wrap64 (1 + sv) = 1 + sv := wrap64_id (by omega) (by omega)
  generalize (mapped addr).1 = r at *
  generalize (mapped addr).2 = q at *
  have d7 : (r == 7) = false := by simpa using hr
  clear h0 h1 hsv
  unfold agg8
  go_enter Try.func13, Try.ntmps13
  go_wp2_with (go_at_call 9; refine (R _).mono ?_; rintro e w' ⟨rfl, rfl⟩)
  all_goals
    go_ret
    refine ⟨ret_i64 ?_, Below.alloc (Below.refl _ _) (Nat.le_refl _) _⟩
    clear R
    try simp only [beq_iff_eq, beq_eq_false_iff_ne, ne_eq] at *
    unfold cost
    repeat' split
    all_goals first | rfl | omega
set_option maxHeartbeats 2000000 in
theorem cost_7 (top i : Int) (ht : (top = 8 ∨ top = 9) ∧ i = 0 ∨ (top = 10 ∨ top = 11) ∧ i = 1 ∨ (top = 12 ∨ top = 13) ∧ i = 2) (addr width cl f0 f1 f2 s0 s1 s2 sv : Int) (ah : Bool) (h0 : 0 ≤ addr) (h1 : addr < 4294967296) (hf : (0 ≤ pk3 i f0 f1 f2 ∧ pk3 i f0 f1 f2 ≤ 8) ∧ 0 ≤ pk3 i s0 s1 s2 ∧ pk3 i s0 s1 s2 ≤ 8) (hr : addr / 16777216 = top) (w : World) :
    Calls Try.prog 12 #[agg8 f0 f1 f2 s0 s1 s2 sv ah, .int .u32 addr, .int .i64 width, .int .i64 cl] w fun e w' => e = .returned (.int .i64 (cost 7 i addr width cl f0 f1 f2 s0 s1 s2 sv)) ∧ Below w.heap.size w w' := by
  have hm : (mapped addr).1 = 7 := by unfold mapped; rw [hr]; unfold mp; rcases ht with ⟨rfl | rfl, rfl⟩ | ⟨rfl | rfl, rfl⟩ | ⟨rfl | rfl, rfl⟩ <;> rfl
  have hi : addr / 33554432 = i + 4 := by omega
  have R := fun w => map_any addr h0 h1 w
  have g1 : Go.bits .and .u32 addr 131071 = addr % 131072 := and_u h0 h1 17 (by decide) _ (by decide) _ (by decide)
  rw [hm] at R
  generalize (mapped addr).2 = q at *
  have hi3 : i = 0 ∨ i = 1 ∨ i = 2 := by omega
  clear ht h0 h1 hm hr
  unfold agg8
  rcases hi3 with rfl | rfl | rfl
  all_goals
    unfold pk3 at hf
    simp only [reduceIte, Int.reduceEq] at hf
    simp only [Int.reduceAdd] at hi
    go_enter Try.func12, Try.ntmps12
    go_wp2_with (go_at_call 8; refine (R _).mono ?_; rintro e w' ⟨rfl, rfl⟩)
    go_quiet (fail)
    go_wp2
  all_goals
    go_ret
    refine ⟨ret_i64 ?_, below_dn (Below.alloc (Below.refl _ _) (Nat.le_refl _) _) _⟩
    clear R g1 hi
    try simp only [beq_iff_eq, beq_eq_false_iff_ne, bne_iff_ne, bne_eq_false_iff_eq, Bool.and_eq_true, Bool.and_eq_false_iff, ne_eq] at *
    unfold cost pk3
    simp only [reduceIte, Int.reduceEq, or_self]
    repeat' split
    all_goals first | rfl | omega | (unfold wrap64; omega)
set_option maxHeartbeats 2000000 in
theorem ref_cost_7 (top i : Int) (ht : (top = 8 ∨ top = 9) ∧ i = 0 ∨ (top = 10 ∨ top = 11) ∧ i = 1 ∨ (top = 12 ∨ top = 13) ∧ i = 2) (addr width cl f0 f1 f2 s0 s1 s2 sv : Int) (ah : Bool) (h0 : 0 ≤ addr) (h1 : addr < 4294967296) (hf : (0 ≤ pk3 i f0 f1 f2 ∧ pk3 i f0 f1 f2 ≤ 8) ∧ 0 ≤ pk3 i s0 s1 s2 ∧ pk3 i s0 s1 s2 ≤ 8) (hr : addr / 16777216 = top) (w : World) :
    Calls Try.prog 13 #[agg8 f0 f1 f2 s0 s1 s2 sv ah, .int .u32 addr, .int .i64 width, .int .i64 cl] w fun e w' => e = .returned (.int .i64 (cost 7 i addr width cl f0 f1 f2 s0 s1 s2 sv)) ∧ Below w.heap.size w w' := by
  have hm : (mapped addr).1 = 7 := by unfold mapped; rw [hr]; unfold mp; rcases ht with ⟨rfl | rfl, rfl⟩ | ⟨rfl | rfl, rfl⟩ | ⟨rfl | rfl, rfl⟩ <;> rfl
  have R := fun w => ref_map_any addr h0 h1 w
  rw [hm] at R
  generalize (mapped addr).2 = q at *
  clear h0 h1 hm
  unfold agg8
  rcases ht with ⟨rfl | rfl, rfl⟩ | ⟨rfl | rfl, rfl⟩ | ⟨rfl | rfl, rfl⟩
  all_goals
    unfold pk3 at hf
    simp only [reduceIte, Int.reduceEq] at hf
    go_enter Try.func13, Try.ntmps13
    go_wp2_with (go_at_call 9; refine (R _).mono ?_; rintro e w' ⟨rfl, rfl⟩)
  all_goals
    go_ret
    refine ⟨ret_i64 ?_, Below.alloc (Below.refl _ _) (Nat.le_refl _) _⟩
    clear R hr
    try simp only [beq_iff_eq, beq_eq_false_iff_ne, bne_iff_ne, bne_eq_false_iff_eq, Bool.and_eq_true, Bool.and_eq_false_iff, ne_eq] at *
    unfold cost pk3
    simp only [reduceIte, Int.reduceEq, or_self]
    repeat' split
    all_goals first | rfl | omega | (unfold wrap64; omega)
end Go.Proofs.Ytneiolibkclkoaa.Be
