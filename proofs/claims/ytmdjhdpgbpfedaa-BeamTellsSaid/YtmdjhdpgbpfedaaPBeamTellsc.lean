/- The picture's clock in closed form: what the printed functions of package beam come to. -/
import Derived.Test.YtmdjhdpgbpfedaaPBeamTellsx
import Derived.Test.YtmdjhdpgbpfedaaBt
namespace Go.Proofs.Ytmdjhdpgbpfedaa.PBeamTellsc
set_option linter.unusedVariables false
set_option linter.unusedSimpArgs false
open Go.RowKit Go.Proofs.Ytmdjhdpgbpfedaa.PBeamTells Go.Proofs.YtmdjhdpgbpfedaaW.PrintWords Go.Proofs.YtmdjhdpgbpfedaaW.PrintLast Go.Proofs.Ytmdjhdpgbpfedaa.Bt

theorem land_pow_zero (n i : Nat) (h : n / 2 ^ i % 2 = 0) : n &&& 2 ^ i = 0 := by
  apply Nat.eq_of_testBit_eq
  intro j
  simp only [Nat.testBit_and, Nat.testBit_two_pow, Nat.zero_testBit]
  by_cases e : i = j
  · subst e
    have : n.testBit i = false := by rw [Nat.testBit_eq_decide_div_mod_eq]; simp; omega
    simp [this]
  · simp [e]
theorem or_pow {x : Int} (i : Nat) (hi : i < 16) (h0 : 0 ≤ x) (h1 : x < 65536) (h : x.toNat / 2 ^ i % 2 = 0) : Go.bits .or .u16 x ((2 ^ i : Nat) : Int) = x + ((2 ^ i : Nat) : Int) := by
  obtain ⟨n, rfl⟩ := Int.eq_ofNat_of_zero_le h0
  rw [or_nat .u16 ws_u16 n (2 ^ i) (by simp only [IntKind.bits]; omega) (by simp only [IntKind.bits]; exact Nat.pow_lt_pow_right (by decide) hi)]
  rw [lor_add _ _ (land_pow_zero n i (by simpa using h))]
  simp
theorem or1 {x : Int} (h0 : 0 ≤ x) (h1 : x < 65536) (h : x % 2 = 0) : Go.bits .or .u16 x 1 = x + 1 := or_pow 0 (by decide) h0 h1 (by simp; omega)
theorem or2 {x : Int} (h0 : 0 ≤ x) (h1 : x < 65536) (h : x / 2 % 2 = 0) : Go.bits .or .u16 x 2 = x + 2 := or_pow 1 (by decide) h0 h1 (by simp; omega)
theorem or4 {x : Int} (h0 : 0 ≤ x) (h1 : x < 65536) (h : x / 4 % 2 = 0) : Go.bits .or .u16 x 4 = x + 4 := or_pow 2 (by decide) h0 h1 (by simp; omega)
theorem and1 {x : Int} (h0 : 0 ≤ x) (h1 : x < 65536) : Go.bits .and .u16 x 1 = x % 2 := by
  obtain ⟨n, rfl⟩ := Int.eq_ofNat_of_zero_le h0
  rw [show (1 : Int) = ((1 : Nat) : Int) from rfl, and_nat .u16 ws_u16 n 1 (by simp only [IntKind.bits]; omega) (by simp only [IntKind.bits]; decide), Nat.and_one_is_mod]
  simp
theorem low_and : ∀ b : Fin 256, b.val &&& 56 = b.val / 8 % 8 * 8 := by decide +kernel
theorem high_and : ∀ b : Fin 256, b.val &&& 255 = b.val := by decide +kernel
theorem and_ff38 {x : Int} (h0 : 0 ≤ x) (h1 : x < 65536) : Go.bits .and .u16 x 65336 = x / 256 * 256 + x / 8 % 8 * 8 := by
  obtain ⟨n, rfl⟩ := Int.eq_ofNat_of_zero_le h0
  rw [show (65336 : Int) = ((65336 : Nat) : Int) from rfl, and_nat .u16 ws_u16 n 65336 (by simp only [IntKind.bits]; omega) (by simp only [IntKind.bits]; decide), land_split 8]
  have e1 := high_and ⟨n / 256, by omega⟩
  have e2 := low_and ⟨n % 256, by omega⟩
  simp only at e1 e2
  rw [show n / 2 ^ 8 &&& 65336 / 2 ^ 8 = n / 256 &&& 255 from rfl, show (n % 2 ^ 8) &&& (65336 % 2 ^ 8) = (n % 256) &&& 56 from rfl, e1, e2]
  simp only [Nat.reducePow]
  omega

/-- Never below zero. -/
def pos (a : Int) : Int := if a < 0 then 0 else a
theorem mx_pos (a : Int) : mx a 0 = pos a := rfl
theorem pos_lo (a : Int) : 0 ≤ pos a := by unfold pos; split <;> omega
theorem pos_hi {a b : Int} (h : a ≤ b) (hb : 0 ≤ b) : pos a ≤ b := by unfold pos; split <;> omega
theorem pos_of {a : Int} (h : 0 ≤ a) : pos a = a := by unfold pos; rw [if_neg (by omega)]

def nxt (n : Int) : Int := if n % 1232 < 960 then n - n % 1232 + 960 else n - n % 1232 + 1232
def stx (w : Int) : Int := w / 256 * 256 + w / 8 % 8 * 8
def stv (n w : Int) : Int := stx w + (if 160 ≤ n / 1232 % 228 ∧ n / 1232 % 228 < 227 then 1 else 0) + (if 960 ≤ n % 1232 then 2 else 0) + (if n / 1232 % 228 = w / 256 then 4 else 0)
def asv (n w : Int) : Int :=
  if n % 1232 = 0 then (if n / 1232 % 228 = 160 ∧ w / 8 % 2 = 1 then 1 else 0) + (if n / 1232 % 228 = w / 256 ∧ w / 32 % 2 = 1 then 4 else 0)
  else if n % 1232 = 960 ∧ w / 16 % 2 = 1 then 2 else 0

theorem at_eq (a : Int) (h : a ≤ 2251799813685248) : beam_At.f a = some (pos a / 1232 % 228, pos a % 1232) := by
  unfold beam_At.f
  rw [mx_pos]
  have h0 := pos_lo a
  have h1 := pos_hi h (by decide)
  rw [Int.tdiv_eq_ediv_of_nonneg h0, wrap64_id (by omega) (by omega), Int.tmod_eq_emod_of_nonneg (by omega)]
theorem next_eq (a : Int) (h : a ≤ 2251799813685248) : beam_Next.f a = some (nxt (pos a)) := by
  unfold beam_Next.f nxt
  rw [at_eq a h, mx_pos]
  have h0 := pos_lo a
  have h1 := pos_hi h (by decide)
  simp only [Option.bind_some]
  split
  · rw [wrap64_id (n := pos a - _) (by omega) (by omega), wrap64_id (by omega) (by omega)]
  · rw [wrap64_id (n := pos a - _) (by omega) (by omega), wrap64_id (by omega) (by omega)]
theorem asks_eq (k : Nat) (a w : Int) (h : a ≤ 2251799813685248) (w0 : 0 ≤ w) (w1 : w < 65536) : beam_Asks.f (k + 1) a w = some (asv (pos a) w) := by
  unfold beam_Asks.f asv
  rw [at_eq a h]
  have h0 := pos_lo a
  generalize pos a = n at *
  simp only [Option.bind_some]
  rw [and1 (by omega) (by omega), and1 (by omega) (by omega)]
  by_cases c1 : n % 1232 = 0
  · rw [if_pos c1, if_pos c1]
    have e : wrap64 (w / 256) = w / 256 := wrap64_id (by omega) (by omega)
    simp only [beam_Asks.j0]
    rw [e, and1 (x := w / 32) (by omega) (by omega), or1 (x := 0) (by omega) (by omega) (by omega), or4 (x := 0) (by omega) (by omega) (by omega)]
    rw [or4 (x := 0 + 1) (by omega) (by omega) (by omega)]
    have hb : ((w / 8 % 2 == 1) = true) ↔ w / 8 % 2 = 1 := by simp
    simp only [hb, Bool.false_eq_true, if_false]
    repeat' split
    all_goals first | rfl | (exfalso; omega)
  · rw [if_neg c1, if_neg c1, or2 (x := 0) (by omega) (by omega) (by omega)]
    repeat' split
    all_goals first | rfl | (exfalso; omega)
theorem awake_eq (k : Nat) : cameolaw18_awake.f (k + 1) = some true := by
  unfold cameolaw18_awake.f
  rw [at_eq _ (by decide), next_eq _ (by decide), asks_eq _ _ _ (by decide) (by decide) (by decide)]
  decide
end Go.Proofs.Ytmdjhdpgbpfedaa.PBeamTellsc
