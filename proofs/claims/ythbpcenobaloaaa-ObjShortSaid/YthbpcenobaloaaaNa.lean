/- The document's sprites, walked: size, turned. -/
import Derived.Test.YthbpcenobaloaaaPi
import Derived.Test.YthbpcenobaloaaaHa
namespace Go.Proofs.Ythbpcenobaloaaa.Na
set_option linter.unusedVariables false
set_option linter.unusedSimpArgs false
open Go.RowKit Go.Proofs.Ythbpcenobaloaaa.Bt Go.Proofs.Ythbpcenobaloaaa.Wk Go.Proofs.Ythbpcenobaloaaa.Sg Go.Proofs.Ythbpcenobaloaaa.Gp Go.Proofs.Ythbpcenobaloaaa.Gm Go.Proofs.Ythbpcenobaloaaa.Pp Go.Proofs.Ythbpcenobaloaaa.Pa Go.Proofs.Ythbpcenobaloaaa.Ha

set_option maxHeartbeats 8000000 in
theorem rsize_any {w : World} (sh n : Int) (h0 : 0 ≤ sh) (h3 : sh < 3) (n0 : 0 ≤ n) (n4 : n < 4) :
    Calls Try.prog 27 #[.int .i64 sh, .int .i64 n] w fun e w' => e = .returned (.tuple #[.int .i64 (sizW sh n), .int .i64 (sizH sh n)]) ∧ Below w.heap.size w w' := by
  have sc : sh = 0 ∨ sh = 1 ∨ sh = 2 := by omega
  have nc : n = 0 ∨ n = 1 ∨ n = 2 ∨ n = 3 := by omega
  clear h0 h3 n0 n4
  rcases sc with rfl | rfl | rfl
  · rcases nc with rfl | rfl | rfl | rfl
    all_goals
      go_enter Try.func27, Try.ntmps27
      go_wp2_with fail
      have HB : Hid (Below w.heap.size w ((w.alloc (.cells #[.int .i64 16, .int .i64 32, .int .i64 32, .int .i64 64] 3)).alloc (.cells #[.int .i64 8, .int .i64 8, .int .i64 16, .int .i64 32] 3))) := Lib.hid (((Below.refl _ _).alloc (Nat.le_refl _) _).alloc (by simp) _)
      generalize (w.alloc _).alloc _ = w2 at *
      have HZ := HB.out.size
      go_region
      all_goals
        go_wp2_with fail
        go_ret2
        refine ⟨rfl, ?_⟩
        have B1 := fun o p => ((HB.out.alloc HZ o).alloc (Nat.le_trans HZ (by simp)) p)
        first | exact below_d1 (B1 _ _) | exact below_dn (B1 _ _) _
  all_goals
    rcases nc with rfl | rfl | rfl | rfl
    all_goals
      go_enter Try.func27, Try.ntmps27
      go_wp2_with fail
      go_quiet (fail)
      go_wp2_with fail
      go_ret2
      exact ⟨rfl, below_dn (((Below.refl _ _).alloc (Nat.le_refl _) _).alloc (by simp) _) _⟩
end Go.Proofs.Ythbpcenobaloaaa.Na
