/- Package bus and the document's answer: an access's cost under a control word; the law's waking test. -/
import Derived.Test.YtneiolibkclkoaaBd
import Derived.Test.YtneiolibkclkoaaBe
namespace Go.Proofs.Ytneiolibkclkoaa.Bf
set_option linter.unusedVariables false
set_option linter.unusedSimpArgs false
open Go.RowKit Go.Proofs.Ytneiolibkclkoaa.Bt Go.Proofs.Ytneiolibkclkoaa.Wk Go.Proofs.Ytneiolibkclkoaa.Ba Go.Proofs.Ytneiolibkclkoaa.Bc Go.Proofs.Ytneiolibkclkoaa.Bd Go.Proofs.Ytneiolibkclkoaa.Be

theorem pick4_bounds (k : Int) : 2 ≤ pick4 k ∧ pick4 k ≤ 8 := by unfold pick4; repeat' split
                                                                 all_goals omega
theorem sec_bounds (b v : Int) (h : 2 ≤ v ∧ v ≤ 8) : 1 ≤ sec b v ∧ sec b v ≤ 8 := by unfold sec; split <;> omega
theorem pk3_bounds (i a b c l : Int) (ha : l ≤ a ∧ a ≤ 8) (hb : l ≤ b ∧ b ≤ 8) (hc : l ≤ c ∧ c ≤ 8) : l ≤ pk3 i a b c ∧ pk3 i a b c ≤ 8 := by
  unfold pk3; repeat' split
  all_goals omega
/-- An access's cost under a control word. -/
def costW (x addr width cl : Int) : Int :=
  cost (mapped addr).1 ((addr / 16777216 - 8) / 2) addr width cl (pick4 (x / 4 % 4)) (pick4 (x / 32 % 4)) (pick4 (x / 256 % 4)) (sec (x / 16) 2) (sec (x / 128) 4) (sec (x / 1024) 8) (pick4 (x % 4))
theorem top_of {addr : Int} (h : (mapped addr).1 = 7) : 8 ≤ addr / 16777216 ∧ addr / 16777216 ≤ 13 := by
  unfold mapped mp at h
  repeat' split at h
  all_goals first | omega | (exact absurd h (by decide)) | (simp at h)
theorem cost_any (x addr width cl : Int) (h0 : 0 ≤ addr) (h1 : addr < 4294967296) (w : World) :
    Calls Try.prog 12 #[.agg (waits x), .int .u32 addr, .int .i64 width, .int .i64 cl] w fun e w' => e = .returned (.int .i64 (costW x addr width cl)) ∧ Below w.heap.size w w' := by
  have p := pick4_bounds (x % 4)
  by_cases hm : (mapped addr).1 = 7
  · have ht := top_of hm
    have hf := pk3_bounds ((addr / 16777216 - 8) / 2) _ _ _ 2 (pick4_bounds (x / 4 % 4)) (pick4_bounds (x / 32 % 4)) (pick4_bounds (x / 256 % 4))
    have hs := pk3_bounds ((addr / 16777216 - 8) / 2) _ _ _ 1 (sec_bounds (x / 16) 2 (by decide)) (sec_bounds (x / 128) 4 (by decide)) (sec_bounds (x / 1024) 8 (by decide))
    unfold costW
    rw [hm]
    exact cost_7 (addr / 16777216) ((addr / 16777216 - 8) / 2) (by omega) addr width cl _ _ _ _ _ _ _ (x / 16384 % 2 == 1) h0 h1 ⟨⟨by omega, hf.2⟩, by omega, hs.2⟩ rfl w
  · exact cost_else addr width cl _ _ _ _ _ _ _ (x / 16384 % 2 == 1) h0 h1 ⟨by omega, p.2⟩ hm w
theorem ref_cost_any (x addr width cl : Int) (h0 : 0 ≤ addr) (h1 : addr < 4294967296) (w : World) :
    Calls Try.prog 13 #[.agg (waits x), .int .u32 addr, .int .i64 width, .int .i64 cl] w fun e w' => e = .returned (.int .i64 (costW x addr width cl)) ∧ Below w.heap.size w w' := by
  have p := pick4_bounds (x % 4)
  by_cases hm : (mapped addr).1 = 7
  · have ht := top_of hm
    have hf := pk3_bounds ((addr / 16777216 - 8) / 2) _ _ _ 2 (pick4_bounds (x / 4 % 4)) (pick4_bounds (x / 32 % 4)) (pick4_bounds (x / 256 % 4))
    have hs := pk3_bounds ((addr / 16777216 - 8) / 2) _ _ _ 1 (sec_bounds (x / 16) 2 (by decide)) (sec_bounds (x / 128) 4 (by decide)) (sec_bounds (x / 1024) 8 (by decide))
    unfold costW
    rw [hm]
    exact ref_cost_7 (addr / 16777216) ((addr / 16777216 - 8) / 2) (by omega) addr width cl _ _ _ _ _ _ _ (x / 16384 % 2 == 1) h0 h1 ⟨⟨by omega, hf.2⟩, by omega, hs.2⟩ rfl w
  · exact ref_cost_else addr width cl _ _ _ _ _ _ _ (x / 16384 % 2 == 1) h0 h1 ⟨by omega, p.2⟩ hm w
set_option maxHeartbeats 1000000 in
theorem awake_any (w : World) :
    Calls Try.prog 7 #[] w fun e w' => e = .returned (.bool true) ∧ Below w.heap.size w w' := by
  have R1 := map_any 100761600 (by decide) (by decide) w
  have m : mapped 100761600 = (5, 65536) := by decide
  rw [m] at R1
  have R1h := Lib.hid R1
  have R2h := Lib.hid (control_any 0 (by decide) (by decide) w)
  have C : costW 0 134217728 2 0 = 5 := by decide
  have R3h := Lib.hid (fun w => C ▸ cost_any 0 134217728 2 0 (by decide) (by decide) w)
  clear R1 m C
  go_enter Try.func7, Try.ntmps7
  go_wp2_with fail
  refine R1h.out.mono ?_
  rintro e w' ⟨rfl, rfl⟩
  go_wp2_with fail
  refine R2h.out.mono ?_
  rintro e w1 ⟨rfl, hb1⟩
  go_wp2_with fail
  refine (R3h.out _).mono ?_
  rintro e w2 ⟨rfl, hb2⟩
  go_wp2
  go_ret
  exact ⟨rfl, below_then hb1 hb2 hb1.size⟩
end Go.Proofs.Ytneiolibkclkoaa.Bf
