/- BeamTells: lines, moments, flags and interrupts are as the document has them: for every cycle and every word written. -/
import Derived.Test.YtmdjhdpgbpfedaaPBeamTellsx
import Derived.Test.YtmdjhdpgbpfedaaPBeamTellss
namespace Go.Proofs.Ytmdjhdpgbpfedaa.Pure
set_option linter.unusedVariables false
set_option linter.unusedSimpArgs false
open Go.RowKit Go.Proofs.Ytmdjhdpgbpfedaa.PBeamTells Go.Proofs.YtmdjhdpgbpfedaaW.PrintWords Go.Proofs.YtmdjhdpgbpfedaaW.PrintLast Go.Proofs.Ytmdjhdpgbpfedaa.Bt Go.Proofs.Ytmdjhdpgbpfedaa.PBeamTellsc

theorem refAt_eq (a : Int) (h : a ≤ 2251799813685248) : cameoref18_At.f a = some (pos a / 1232 % 228, pos a % 1232) := by
  unfold cameoref18_At.f pos
  split
  · rfl
  · rw [Int.tmod_eq_emod_of_nonneg (by omega), Int.tdiv_eq_ediv_of_nonneg (by omega), Int.tmod_eq_emod_of_nonneg (by omega), wrap64_id (by omega) (by omega)]
    congr 2 <;> omega
theorem bit_eq {w : Int} (w0 : 0 ≤ w) (i : Nat) (hi : i ≤ 16) : cameoref18_bit.f w i = some (w / 2 ^ i % 2 == 1) := by
  unfold cameoref18_bit.f shr
  have hp : (0 : Int) < 2 ^ i := Int.pow_pos (by decide)
  have hd : 0 ≤ w / 2 ^ i := Int.ediv_nonneg w0 (by omega)
  rw [if_pos (by omega), show min ((i : Int).toNat) IntKind.u16.bits = i by simp [IntKind.bits]; omega, Int.tmod_eq_emod_of_nonneg hd]
theorem refNext_l (d : Nat) : ∀ (k : Nat) (x : Int), 0 ≤ x → nxt x ≤ 1125899906850000 → nxt x - x = d → d ≤ k → cameoref18_Next.l0 k x = some (nxt x) := by
  induction d with
  | zero => intro k x h0 h1 hd; exfalso; unfold nxt at hd; split at hd <;> omega
  | succ d ih =>
    intro k x h0 h1 hd hk
    obtain ⟨k, rfl⟩ : ∃ m, k = m + 1 := ⟨k - 1, by omega⟩
    have e : nxt x = if x % 1232 < 960 then x - x % 1232 + 960 else x - x % 1232 + 1232 := rfl
    have e' : nxt (x + 1) = if (x + 1) % 1232 < 960 then x + 1 - (x + 1) % 1232 + 960 else x + 1 - (x + 1) % 1232 + 1232 := rfl
    have hx : x < nxt x := by rw [e]; split <;> omega
    simp only [cameoref18_Next.l0]
    rw [wrap64_id (by omega) (by omega), refAt_eq _ (by omega), pos_of (by omega)]
    simp only [Option.bind_some]
    by_cases c1 : (x + 1) % 1232 = 0
    · rw [if_pos c1]
      congr 1
      rw [e]; split <;> omega
    · rw [if_neg c1]
      by_cases c2 : (x + 1) % 1232 = 960
      · rw [if_pos c2]
        congr 1
        rw [e]; split <;> omega
      · rw [if_neg c2]
        have es : nxt (x + 1) = nxt x := by rw [e, e']; split <;> split <;> omega
        rw [ih k (x + 1) (by omega) (by omega) (by omega) (by omega), es]
theorem refNext_eq (k : Nat) (a : Int) (h : a ≤ 1125899906842624) : cameoref18_Next.f (k + 1300) a = some (nxt (pos a)) := by
  have h0 := pos_lo a
  have h1 := pos_hi h (by decide)
  have hd : ∃ d : Nat, nxt (pos a) - pos a = d ∧ d ≤ 1232 := by
    refine ⟨(nxt (pos a) - pos a).toNat, ?_, ?_⟩ <;> (unfold nxt; split <;> omega)
  obtain ⟨d, hd, hk⟩ := hd
  have key := refNext_l d (k + 1299) (pos a) h0 (by omega) hd (by omega)
  unfold cameoref18_Next.f
  unfold pos at key ⊢
  split at key <;> rename_i c
  · rw [if_pos c]; simp only [cameoref18_Next.j0]; rw [key, if_pos c]
  · rw [if_neg c]; simp only [cameoref18_Next.j0]; rw [key, if_neg c]
theorem refStatus_step (k : Nat) (w a b x : Int) (i : Nat) (hi : i = 3 ∨ i = 4 ∨ i = 5) (w0 : 0 ≤ w) (x0 : 0 ≤ x) (x1 : x < 65500) :
    cameoref18_Status.l0 (k + 1) w a b x i = cameoref18_Status.l0 k w a b (if w / 2 ^ i % 2 = 1 then x + 2 ^ i else x) ((i + 1 : Nat) : Int) := by
  simp only [cameoref18_Status.l0]
  rw [if_pos (by omega), bit_eq w0 i (by omega)]
  have e : wrap64 ((i : Int) + 1) = ((i + 1 : Nat) : Int) := by rw [wrap64_id (by omega) (by omega)]; push_cast; rfl
  have e1 : IntKind.u16.wrap (x + shl .u16 1 i) = x + 2 ^ i := by
    rcases hi with rfl | rfl | rfl
    · rw [show shl .u16 1 ((3 : Nat) : Int) = 8 by decide, wrap_u16]; omega
    · rw [show shl .u16 1 ((4 : Nat) : Int) = 16 by decide, wrap_u16]; omega
    · rw [show shl .u16 1 ((5 : Nat) : Int) = 32 by decide, wrap_u16]; omega
  rw [e, e1]
  simp only [Option.bind_some, beq_iff_eq]
  by_cases c : w / 2 ^ i % 2 = 1
  · rw [if_pos c, if_pos c, if_pos (by omega)]
  · rw [if_neg c, if_neg c]
theorem refStatus_tail (k : Nat) (w a b x : Int) (w0 : 0 ≤ w) (w1 : w < 65536) (x0 : 0 ≤ x) (x1 : x < 65536) (x2 : x % 8 = 0) :
    cameoref18_Status.l0 (k + 3) w a b x 6 = some (x + (if 160 ≤ a ∧ a < 227 then 1 else 0) + (if 960 ≤ b then 2 else 0) + (if a = w / 256 then 4 else 0)) := by
  have e : wrap64 (IntKind.u16.wrap (Int.tdiv w 256)) = w / 256 := by
    rw [wrap_u16, Int.tdiv_eq_ediv_of_nonneg w0, wrap64_id (by omega) (by omega)]; omega
  simp only [cameoref18_Status.l0, cameoref18_Status.j1, cameoref18_Status.j2]
  rw [e, if_neg (by decide)]
  have u1 : IntKind.u16.wrap (x + 1) = x + 1 := by rw [wrap_u16]; omega
  have u2 : IntKind.u16.wrap (x + 2) = x + 2 := by rw [wrap_u16]; omega
  have u3 : IntKind.u16.wrap (x + 1 + 2) = x + 1 + 2 := by rw [wrap_u16]; omega
  have u4 : IntKind.u16.wrap (x + 4) = x + 4 := by rw [wrap_u16]; omega
  have u5 : IntKind.u16.wrap (x + 1 + 4) = x + 1 + 4 := by rw [wrap_u16]; omega
  have u6 : IntKind.u16.wrap (x + 2 + 4) = x + 2 + 4 := by rw [wrap_u16]; omega
  have u7 : IntKind.u16.wrap (x + 1 + 2 + 4) = x + 1 + 2 + 4 := by rw [wrap_u16]; omega
  rw [u1, u2, u3, u4, u5, u6, u7]
  simp only [decide_eq_true_eq, Bool.false_eq_true, if_false]
  repeat' split
  all_goals first | rfl | (congr 1; omega) | (exfalso; omega)
theorem refStatus_eq (k : Nat) (a w : Int) (h : a ≤ 2251799813685248) (w0 : 0 ≤ w) (w1 : w < 65536) : cameoref18_Status.f (k + 6) a w = some (stv (pos a) w) := by
  unfold cameoref18_Status.f stv
  rw [refAt_eq a h]
  generalize pos a = n at *
  have e0 : IntKind.u16.wrap ((IntKind.u16.wrap (Int.tdiv w 256)) * 256) = w / 256 * 256 := by
    rw [wrap_u16, wrap_u16, Int.tdiv_eq_ediv_of_nonneg w0]; omega
  simp only [Option.bind_some]
  rw [e0, show (3 : Int) = ((3 : Nat) : Int) from rfl, refStatus_step _ _ _ _ _ 3 (by decide) w0 (by omega) (by omega)]
  rw [refStatus_step _ _ _ _ _ 4 (by decide) w0 (by split <;> omega) (by split <;> omega)]
  rw [refStatus_step _ _ _ _ _ 5 (by decide) w0 (by repeat' split <;> omega) (by repeat' split <;> omega)]
  have ex : (if w / 2 ^ 5 % 2 = 1 then (if w / 2 ^ 4 % 2 = 1 then (if w / 2 ^ 3 % 2 = 1 then w / 256 * 256 + 2 ^ 3 else w / 256 * 256) + 2 ^ 4 else (if w / 2 ^ 3 % 2 = 1 then w / 256 * 256 + 2 ^ 3 else w / 256 * 256)) + 2 ^ 5 else (if w / 2 ^ 4 % 2 = 1 then (if w / 2 ^ 3 % 2 = 1 then w / 256 * 256 + 2 ^ 3 else w / 256 * 256) + 2 ^ 4 else (if w / 2 ^ 3 % 2 = 1 then w / 256 * 256 + 2 ^ 3 else w / 256 * 256))) = stx w := by
    unfold stx
    simp only [Int.reducePow]
    repeat' split <;> omega
  rw [ex, show ((5 + 1 : Nat) : Int) = 6 from rfl, refStatus_tail k w _ _ (stx w) w0 w1 (by unfold stx; omega) (by unfold stx; omega) (by unfold stx; omega)]
theorem refAsks_eq (k : Nat) (a w : Int) (h : a ≤ 2251799813685248) (w0 : 0 ≤ w) (w1 : w < 65536) : cameoref18_Asks.f (k + 3) a w = some (asv (pos a) w) := by
  unfold cameoref18_Asks.f asv
  rw [refAt_eq a h]
  generalize pos a = n at *
  have b3 := bit_eq w0 3 (by decide)
  have b4 := bit_eq w0 4 (by decide)
  have b5 := bit_eq w0 5 (by decide)
  rw [show ((3 : Nat) : Int) = 3 from rfl, show (2 : Int) ^ 3 = 8 from rfl] at b3
  rw [show ((4 : Nat) : Int) = 4 from rfl, show (2 : Int) ^ 4 = 16 from rfl] at b4
  rw [show ((5 : Nat) : Int) = 5 from rfl, show (2 : Int) ^ 5 = 32 from rfl] at b5
  have e : wrap64 (IntKind.u16.wrap (Int.tdiv w 256)) = w / 256 := by
    rw [wrap_u16, Int.tdiv_eq_ediv_of_nonneg w0, wrap64_id (by omega) (by omega)]; omega
  simp only [Option.bind_some, cameoref18_Asks.j0, cameoref18_Asks.j1, cameoref18_Asks.j2, b3, b4, b5, e]
  simp only [wrap_u16]
  simp only [beq_iff_eq, Bool.false_eq_true, if_false]
  repeat' split
  all_goals first | rfl | (congr 1; omega) | (exfalso; omega)
theorem BeamTells : cameolaw18_BeamTells.Pure := by
  intro a w ha hw
  have hw := bounds_u16 hw
  refine ⟨1306, ?_⟩
  unfold cameolaw18_BeamTells.f
  rw [awake_eq]
  simp only [Option.bind_some, if_true]
  by_cases c : a > 1125899906842624
  · rw [if_pos c]
  · rw [if_neg c, at_eq a (by omega), refAt_eq a (by omega), next_eq a (by omega), refNext_eq 6 a (by omega), status_eq 1304 a w (by omega) (by omega) (by omega), refStatus_eq 1300 a w (by omega) (by omega) (by omega), asks_eq 1305 a w (by omega) (by omega) (by omega), refAsks_eq 1303 a w (by omega) (by omega) (by omega)]
    simp
end Go.Proofs.Ytmdjhdpgbpfedaa.Pure
