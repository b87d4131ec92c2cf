/- The bank's waking test; a call of any kind. -/
import Derived.Test.YtajbankfnnlocaaBf
namespace Go.Proofs.Ytajbankfnnlocaa.Bg
set_option linter.unusedVariables false
set_option linter.unusedSimpArgs false
open Go.RowKit Go.Proofs.Ytajbankfnnlocaa.Bt Go.Proofs.Ytajbankfnnlocaa.Wk Go.Proofs.Ytajbankfnnlocaa.Sg Go.Proofs.Ytajbankfnnlocaa.Ba Go.Proofs.Ytajbankfnnlocaa.Bb Go.Proofs.Ytajbankfnnlocaa.Bc Go.Proofs.Ytajbankfnnlocaa.Bd Go.Proofs.Ytajbankfnnlocaa.Be Go.Proofs.Ytajbankfnnlocaa.Bf

def K1 : Ab := setAb newA 13 1
def K2 : Ab := setStA K1 18
def K3 : Ab := setStA K2 31
set_option maxHeartbeats 1000000 in
theorem awake_any (w : World) : Calls Try.prog 8 #[] w fun e w' => e = .returned (.bool true) ∧ Below w.heap.size w w' := by
  have P1 : ∀ b P w, At b newA P w → Calls Try.prog 11 #[.pointer (some ⟨b, 0, none⟩), .int .i64 13, .int .u32 1] w fun e w' => e = .returned (.tuple #[]) ∧ Got b K1 w w' := fun b P w h => set_abs b 13 1 newA P w h
  have P2 : ∀ b P w, At b K1 P w → Calls Try.prog 10 #[.pointer (some ⟨b, 0, none⟩), .int .u32 18] w fun e w' => e = .returned (.tuple #[]) ∧ Got b K2 w w' := fun b P w h => setStatus_abs b 18 (by decide) (by decide) K1 P w h
  have P3 : ∀ b P w, At b K2 P w → Calls Try.prog 13 #[.pointer (some ⟨b, 0, none⟩), .int .i64 13] w fun e w' => e = .returned (.int .u32 0) ∧ w = w' := fun b P w h => get_abs b 13 K2 P w h
  have P4 : ∀ b P w, At b K2 P w → Calls Try.prog 15 #[.pointer (some ⟨b, 0, none⟩), .int .i64 13] w fun e w' => e = .returned (.int .u32 1) ∧ w = w' := fun b P w h => user_abs b 13 K2 P w h
  have P5 : ∀ b P w, At b K2 P w → Calls Try.prog 10 #[.pointer (some ⟨b, 0, none⟩), .int .u32 31] w fun e w' => e = .returned (.tuple #[]) ∧ Got b K3 w w' := fun b P w h => setStatus_abs b 31 (by decide) (by decide) K2 P w h
  have P6 : ∀ b P w, At b K3 P w → Calls Try.prog 13 #[.pointer (some ⟨b, 0, none⟩), .int .i64 13] w fun e w' => e = .returned (.int .u32 1) ∧ w = w' := fun b P w h => get_abs b 13 K3 P w h
  have P7 : ∀ w, Calls Try.prog 29 #[.int .u32 5, .agg #[.bool true, .bool false, .bool false, .bool false]] w fun e w' => e = .returned (.int .u32 2147483653) ∧ Below w.heap.size w w' := fun w => with_any 5 true false false false (by decide) (by decide) w
  have H1 := Lib.hid P1
  have H2 := Lib.hid P2
  have H3 := Lib.hid P3
  have H4 := Lib.hid P4
  have H5 := Lib.hid P5
  have H6 := Lib.hid P6
  have H7 := Lib.hid P7
  clear P1 P2 P3 P4 P5 P6 P7
  go_enter Try.func8, Try.ntmps8
  go_wp2_with fail
  refine (new_abs _).mono ?_
  rintro e w' ⟨rfl, rfl⟩
  have a0 := new_at w
  have g0 := a0.got
  go_wp2_with fail
  refine (H1.out _ _ _ a0).mono ?_
  rintro e w1 ⟨rfl, g1⟩
  obtain ⟨Q1, a1⟩ := g1.at_
  have G1 := Lib.hid (g0.trans g1)
  have A1 := Lib.hid a1
  clear a0 g0 g1 a1
  go_wp2_with fail
  refine (H2.out _ _ _ A1.out).mono ?_
  rintro e w2 ⟨rfl, g2⟩
  obtain ⟨Q2, a2⟩ := g2.at_
  have G2 := Lib.hid (G1.out.trans g2)
  have A2 := Lib.hid a2
  clear g2 a2 G1 A1
  go_wp2_with (first | (go_at_call 13; refine (H3.out _ _ _ A2.out).mono ?_; rintro e w' ⟨rfl, rfl⟩) | (go_at_call 15; refine (H4.out _ _ _ A2.out).mono ?_; rintro e w' ⟨rfl, rfl⟩))
  refine (H5.out _ _ _ A2.out).mono ?_
  rintro e w3 ⟨rfl, g3⟩
  obtain ⟨Q3, a3⟩ := g3.at_
  have G3 := Lib.hid (G2.out.trans g3)
  have A3 := Lib.hid a3
  clear g3 a3 G2 A2
  go_wp2_with (first | (go_at_call 13; refine (H6.out _ _ _ A3.out).mono ?_; rintro e w' ⟨rfl, rfl⟩) | (go_at_call 29; refine (H7.out _).mono ?_; rintro e w4 ⟨rfl, hb4⟩))
  go_ret
  have hB : Below w.heap.size w w3 := Got.below (Below.alloc (Below.refl _ _) (Nat.le_refl _) _) G3.out (Nat.le_refl _) (by simp)
  exact ⟨rfl, below_then hB hb4 hB.size⟩
end Go.Proofs.Ytajbankfnnlocaa.Bg
