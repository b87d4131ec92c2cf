/- TimerPeriod and TimerChain, walked. -/
import Derived.Test.YtkbjjkolhhmafaaTb
namespace Go.Proofs.Ytkbjjkolhhmafaa.Tc
set_option linter.unusedVariables false
set_option linter.unusedSimpArgs false
open Go.RowKit Go.Proofs.Ytkbjjkolhhmafaa.Bt Go.Proofs.Ytkbjjkolhhmafaa.Wk Go.Proofs.Ytkbjjkolhhmafaa.Sg Go.Proofs.Ytkbjjkolhhmafaa.Ta Go.Proofs.Ytkbjjkolhhmafaa.Tb

/-! ### one timer that goes by itself -/
def S1 (o : One) : Nat → One := upd Z 0 o
theorem free_S1 (o : One) (h : runsB o = true) : freeB (S1 o) 0 = true ∧ freeB (S1 o) 1 = false ∧ freeB (S1 o) 2 = false ∧ freeB (S1 o) 3 = false ∧ runsB (S1 o 1) = false ∧ runsB (S1 o 2) = false ∧ runsB (S1 o 3) = false := by
  refine ⟨?_, rfl, rfl, rfl, rfl, rfl, rfl⟩
  unfold freeB
  rw [show S1 o 0 = o from rfl, h]
  rfl
theorem next_S1 (o : One) (h : runsB o = true) : nextF (S1 o) 4 = (Ta.due o, true) := by
  obtain ⟨a, b, c, d, _⟩ := free_S1 o h
  simp only [nextF, a, b, c, d]
  simp [S1, upd]
theorem fire_S1 (o : One) (h : runsB o = true) (at_ : Int) (hd : Ta.due o = at_) : fireF (S1 o) at_ 4 = (S1 { o with co := o.re, si := at_ }, 1) := by
  obtain ⟨a, b, c, d, e, f, g⟩ := free_S1 o h
  have u : Ta.due (S1 o 0) = at_ := hd
  simp only [fireF, a, b, c, d, e, f, g, u]
  simp [S1, upd_upd, upd]
theorem ctl_bits (x : Int) (h0 : 0 ≤ x) (h1 : x < 65536) : ∃ xx y, Go.bits .or .u16 (Go.bits .and .u16 x 195) 128 = xx ∧ 0 ≤ xx ∧ xx < 65536 ∧ Go.bits .and .u16 xx 199 = y ∧ 0 ≤ y ∧ y < 65536 ∧ y / 128 % 2 = 1 ∧ Go.bits .and .u16 xx 3 = y % 4 := by
  obtain ⟨n, rfl⟩ := Int.eq_ofNat_of_zero_le h0
  have b195 : n &&& 195 < 65536 := Nat.and_lt_two_pow (n := 16) _ (by decide)
  have e1 : Go.bits .and .u16 (n : Int) 195 = ((n &&& 195 : Nat) : Int) := and_nat .u16 ws_u16 n 195 (by simp [IntKind.bits]; omega) (by decide)
  have e2 : Go.bits .or .u16 ((n &&& 195 : Nat) : Int) 128 = (((n &&& 195) ||| 128 : Nat) : Int) := or_nat .u16 ws_u16 _ 128 b195 (by decide)
  have b2 : (n &&& 195) ||| 128 < 65536 := Nat.or_lt_two_pow (n := 16) b195 (by decide)
  have e3 : Go.bits .and .u16 (((n &&& 195) ||| 128 : Nat) : Int) 199 = ((((n &&& 195) ||| 128) &&& 199 : Nat) : Int) := and_nat .u16 ws_u16 _ 199 b2 (by decide)
  have b3 : ((n &&& 195) ||| 128) &&& 199 < 65536 := Nat.and_lt_two_pow (n := 16) _ (by decide)
  have e4 : Go.bits .and .u16 (((n &&& 195) ||| 128 : Nat) : Int) 3 = ((((n &&& 195) ||| 128) &&& 3 : Nat) : Int) := and_nat .u16 ws_u16 _ 3 b2 (by decide)
  refine ⟨_, _, by rw [e1, e2], by omega, by omega, e3, by omega, by omega, ?_, ?_⟩
  · have : (((n &&& 195) ||| 128) &&& 199) / 128 % 2 = 1 := by
      have := Nat.toNat_testBit (((n &&& 195) ||| 128) &&& 199) 7
      rw [show (2 : Nat) ^ 7 = 128 from rfl] at this
      rw [← this]
      simp only [Nat.testBit_and, Nat.testBit_or]
      rw [show Nat.testBit 128 7 = true from rfl, show Nat.testBit 199 7 = true from rfl]
      simp
    omega
  · rw [e4]
    have : (((n &&& 195) ||| 128) &&& 199) % 4 = ((n &&& 195) ||| 128) &&& 3 := by
      rw [show (4 : Nat) = 2 ^ 2 from rfl]
      apply Nat.eq_of_testBit_eq
      intro i
      rw [Nat.testBit_mod_two_pow, Nat.testBit_and, Nat.testBit_and]
      by_cases c : i < 2
      · have : i = 0 ∨ i = 1 := by omega
        rcases this with rfl | rfl <;> simp [show Nat.testBit 199 0 = true from rfl, show Nat.testBit 199 1 = true from rfl, show Nat.testBit 3 0 = true from rfl, show Nat.testBit 3 1 = true from rfl]
      · have : Nat.testBit 3 i = false := Nat.testBit_lt_two_pow (Nat.lt_of_lt_of_le (show 3 < 2 ^ 2 by decide) (Nat.pow_le_pow_right (by decide) (by omega)))
        rw [this]
        simp [c]
    omega
set_option maxRecDepth 100000 in
set_option maxHeartbeats 4000000 in
theorem period_law (r x n : Int) (h1 : (Lit.int .u16 r).wf = true) (h2 : (Lit.int .u16 x).wf = true) (h3 : (Lit.int .i64 n).wf = true) (w : World) :
    Calls Try.prog 4 #[.int .u16 r, .int .u16 x, .int .i64 n] w fun e w' => e = .returned (.bool true) ∧ Below w.heap.size w w' := by
  obtain ⟨r0, r1⟩ := bounds_u16 h1
  obtain ⟨x0, x1⟩ := bounds_u16 h2
  obtain ⟨xx, y, hxx, xx0, xx1, hy, y0, y1, hyr, hz⟩ := ctl_bits x x0 (by omega)
  obtain ⟨m, hm, m0, m1⟩ : ∃ m, (wrap64 (n.tmod 50 + 50)).tmod 50 = m ∧ 0 ≤ m ∧ m < 50 := by
    have a := Int.tmod_lt_of_pos n (show (0 : Int) < 50 by decide)
    have b : -50 < n.tmod 50 := by have := Int.lt_tmod_of_pos n (show (0 : Int) < 50 by decide); omega
    refine ⟨_, rfl, ?_, ?_⟩
    · rw [wrap64_id (by omega) (by omega)]; exact Int.tmod_nonneg _ (by omega)
    · exact Int.tmod_lt_of_pos _ (by decide)
  obtain ⟨N, rfl⟩ := Int.eq_ofNat_of_zero_le m0
  have spd : ∃ sp, stp ⟨r, y, r, 7⟩ = sp := ⟨_, rfl⟩
  obtain ⟨sp, hsp⟩ := spd
  have spb := stp_pos ⟨r, y, r, 7⟩
  rw [hsp] at spb
  have idx : ∀ w, (Instr.index 43 (.agg #[.int .i64 1, .int .i64 64, .int .i64 256, .int .i64 1024]) (.int .u16 (y % 4))).run Try.prog w = .ok (.int .i64 sp) w := fun w => by
    rw [at4 _ (by omega) (by omega) w, ← hsp]; rfl
  have st0 : 0 ≤ (65536 - r) * sp := Int.mul_nonneg (by omega) (by omega)
  have st1 : (65536 - r) * sp ≤ 65536 * 1024 := Int.mul_le_mul (by omega) (by omega) (by omega) (by omega)
  have sw : wrap64 ((65536 - r) * sp) = (65536 - r) * sp := wrap64_id (by omega) (by omega)
  have rn : ∀ si, runsB ⟨r, y, r, si⟩ = true := fun si => by unfold runsB; simp [hyr]
  have du : ∀ si, Ta.due ⟨r, y, r, si⟩ = si + (65536 - r) * sp := fun si => by unfold Ta.due; rw [show stp ⟨r, y, r, si⟩ = sp from hsp]
  have ok : ∀ si, 0 ≤ si → si ≤ 1099511627776 → ∀ i, i < 4 → Ok (S1 ⟨r, y, r, si⟩ i) ∧ (S1 ⟨r, y, r, si⟩ i).co ≤ 65535 := fun si a b => by
    refine all_ok ?_
    have z : okB zero = true := by decide
    have o : okB ⟨r, y, r, si⟩ = true := by unfold okB; simp; omega
    rw [show S1 ⟨r, y, r, si⟩ 0 = ⟨r, y, r, si⟩ from rfl, show S1 ⟨r, y, r, si⟩ 1 = zero from rfl, show S1 ⟨r, y, r, si⟩ 2 = zero from rfl, show S1 ⟨r, y, r, si⟩ 3 = zero from rfl, o, z]; rfl
  have P1 : ∀ b w, w.heap[b]? = some (tim Z) → Calls Try.prog 13 #[.pointer (some ⟨b, 0, none⟩), .int .i64 0, .int .u16 r] w fun e w' => e = .returned (.tuple #[]) ∧ Only b (tim (S1 { Z 0 with re := r })) w w' := fun b w h => setReload_any b 0 Z (by decide) r r0 (by omega) w h
  have P2 : ∀ b w, w.heap[b]? = some (tim (S1 { Z 0 with re := r })) → Calls Try.prog 14 #[.pointer (some ⟨b, 0, none⟩), .int .i64 0, .int .i64 7, .int .u16 xx] w fun e w' => e = .returned (.tuple #[]) ∧ Only b (tim (S1 ⟨r, y, r, 7⟩)) w w' := fun b w h => by
    have o : Ok (S1 { Z 0 with re := r } 0) := ⟨r0, by show r ≤ 65535; omega, Int.le_refl 0, (by decide : (0 : Int) < 65536), Int.le_refl 0, (by decide : (0 : Int) ≤ 65536), Int.le_refl 0, (by decide : (0 : Int) ≤ 1099511627776)⟩
    refine (setControl_any b 0 _ (by decide) o 7 xx (by decide) (by decide) y hy y0 y1 w h).mono fun e w' hh => ⟨hh.1, hh.2.to ?_⟩
    have : setC (S1 { Z 0 with re := r }) 0 7 xx = ⟨r, y, r, 7⟩ := by
      unfold setC
      rw [hy, if_pos]
      · rfl
      · simp only [hyr]; rfl
    rw [this]
    unfold S1
    rw [upd_upd]
  have P3 : ∀ si b w, 0 ≤ si → si ≤ 1099511627776 → w.heap[b]? = some (tim (S1 ⟨r, y, r, si⟩)) → Calls Try.prog 10 #[.pointer (some ⟨b, 0, none⟩)] w fun e w' => e = .returned (.tuple #[.int .i64 (si + (65536 - r) * sp), .bool true]) ∧ ∃ n, w' = w.drewN n := fun si b w a c h => by
    have := next_any b _ (fun i hi => (ok si a c i hi).1) w h
    rwa [next_S1 _ (rn si), du si] at this
  have P4 : ∀ si b w now, 0 ≤ si → si ≤ 1099511627776 → now < si + (65536 - r) * sp → w.heap[b]? = some (tim (S1 ⟨r, y, r, si⟩)) → Calls Try.prog 12 #[.pointer (some ⟨b, 0, none⟩), .int .i64 now] w fun e w' => e = .returned (.tuple #[.int .i64 0, .int .i64 0]) ∧ ∃ n, w' = w.drewN n := fun si b w now a c l h => by
    refine fire_no b _ (fun i hi => (ok si a c i hi).1) now (.inr ?_) w h
    rw [next_S1 _ (rn si), du si]; exact l
  have P5 : ∀ si b w at_, 0 ≤ si → si ≤ 1099511627776 → si + (65536 - r) * sp = at_ → w.heap[b]? = some (tim (S1 ⟨r, y, r, si⟩)) → Calls Try.prog 12 #[.pointer (some ⟨b, 0, none⟩), .int .i64 at_] w fun e w' => e = .returned (.tuple #[.int .i64 at_, .int .i64 1]) ∧ Only b (tim (S1 ⟨r, y, r, at_⟩)) w w' := fun si b w at_ a c l h => by
    have hd : Ta.due ⟨r, y, r, si⟩ = at_ := (du si).trans l
    have := fire_any b _ (fun i hi => (ok si a c i hi).1) (fun i hi => (ok si a c i hi).2) at_ (by rw [next_S1 _ (rn si)]) (by rw [next_S1 _ (rn si), hd]; exact Int.le_refl _) w h
    rw [next_S1 _ (rn si)] at this
    simp only [hd, fire_S1 _ (rn si) at_ hd] at this
    exact this
  have P6 : ∀ at_ b w, 0 ≤ at_ → at_ ≤ 1099511627776 → w.heap[b]? = some (tim (S1 ⟨r, y, r, at_⟩)) → Calls Try.prog 16 #[.pointer (some ⟨b, 0, none⟩), .int .i64 0, .int .i64 at_] w fun e w' => e = .returned (.int .u16 r) ∧ ∃ n, w' = w.drewN n := fun at_ b w a c h => by
    have := read_any b 0 _ (by decide) ((ok at_ a c 0 (by decide)).1) at_ a c w h
    have v : valueV (S1 ⟨r, y, r, at_⟩) 0 at_ % 65536 = r := by
      have : valueV (S1 ⟨r, y, r, at_⟩) 0 at_ = r := by
        unfold valueV
        rw [show (S1 ⟨r, y, r, at_⟩ 0) = ⟨r, y, r, at_⟩ from rfl]
        have : max 0 (at_ - at_) = 0 := by omega
        simp [this]
      rw [this]; omega
    rw [v] at this
    exact this
  have H1 := Lib.hid P1
  have H2 := Lib.hid P2
  have H3 := Lib.hid P3
  have H4 := Lib.hid P4
  have H5 := Lib.hid P5
  have H6 := Lib.hid P6
  clear P1 P2 P3 P4 P5 P6 rn du ok hy hyr hsp h1 h2 h3
  generalize hst : (65536 - r) * sp = st at *
  have HST := Lib.hid hst
  go_enter Try.func4, Try.ntmps4
  go_wp2_with fail
  refine (awake_any _).mono ?_
  rintro e w0 ⟨rfl, hb⟩
  have HB := Lib.hid hb
  clear hb
  go_wp2_with fail
  refine (new_any _).mono ?_
  rintro e w' ⟨rfl, rfl⟩
  go_wp2_with fail
  refine (H1.out _ _ (alloc_new _ _)).mono ?_
  rintro e w1 ⟨rfl, o1⟩
  have O1 := Lib.hid o1
  clear o1
  go_wp2_with fail
  refine (H2.out _ _ O1.out.at_).mono ?_
  rintro e w2 ⟨rfl, o2⟩
  have O2 := Lib.hid (O1.out.trans o2)
  clear o2 O1
  have hB2 : Below w.heap.size w w2 := below_only (HB.out.alloc HB.out.size _) O2.out HB.out.size (by have := HB.out.size; simp; omega)
  have hz0 := HB.out.size
  have hs2 := Lib.hid O2.out.at_
  clear O2
  go_wp2_with fail
  generalize hBB : w0.heap.size = BB at *
  clear hBB HST idx hxx hm H1 H2
  have hs0 : w2.heap[BB]? = some (tim (S1 ⟨r, y, r, 7 + ((0 : Nat) : Int) * st⟩)) := by rw [show (7 : Int) + ((0 : Nat) : Int) * st = 7 by simp]; exact hs2.out
  have hs0H := Lib.hid hs0
  clear hs0 hs2
  go_loopw [42] (fun i wr => ∃ k : Nat, k ≤ N + 2 ∧ i = .int .i64 k ∧ Below w.heap.size w wr ∧ Hid (wr.heap[BB]? = some (tim (S1 ⟨r, y, r, 7 + (k : Int) * st⟩)))) (fun i _ => N + 2 - (intOf i).toNat)
  case atStart => exact ⟨0, by omega, rfl, hB2, hs0H⟩
  case round =>
    clear hB2 hs0H
    obtain ⟨k, hk, rfl, hb, hs⟩ := hrel
    by_cases hkn : k < N + 2
    · have q0 : 0 ≤ (k : Int) * st := Int.mul_nonneg (by omega) st0
      have q1 : (k : Int) * st ≤ 52 * (65536 * 1024) := Int.mul_le_mul (by omega) st1 st0 (by omega)
      have q2 : ((k : Int) + 1) * st = (k : Int) * st + st := by rw [Int.add_mul, Int.one_mul]
      have q3 : 7 + ((k + 1 : Nat) : Int) * st = 7 + (k : Int) * st + st := by rw [Int.natCast_add, show ((1 : Nat) : Int) = 1 from rfl, q2]; omega
      obtain ⟨at_, hat⟩ : ∃ at_, 7 + (k : Int) * st + st = at_ := ⟨_, rfl⟩
      have f1 : wrap64 (((k : Int) + 1) * st) = ((k : Int) + 1) * st := wrap64_id (by omega) (by omega)
      have f2 : wrap64 (7 + ((k : Int) + 1) * st) = at_ := by rw [wrap64_id (by omega) (by omega)]; omega
      have f3 : wrap64 (at_ - 1) = at_ - 1 := wrap64_id (by omega) (by omega)
      have l0 : decide ((k : Int) < (N : Int) + 2) = true := decide_eq_true (by omega)
      have G3 := H3.out (7 + (k : Int) * st) BB
      rw [hat] at G3
      have p0 : 0 ≤ 7 + (k : Int) * st := by omega
      have p1 : 7 + (k : Int) * st ≤ 1099511627776 := by omega
      have a0 : 0 ≤ at_ := by omega
      have a1 : at_ ≤ 1099511627776 := by omega
      have lt : at_ - 1 < 7 + (k : Int) * st + st := by omega
      have G3H := Lib.hid G3
      have HAT := Lib.hid hat
      have Q3 := Lib.hid q3
      clear G3 hat q2 q3
      generalize 7 + (k : Int) * st = si at *
      go_wp2_with fail
      refine (G3H.out _ p0 p1 hs.out).mono ?_
      rintro e w3 ⟨rfl, n3, rfl⟩
      go_wp2_with fail
      refine (H4.out si BB _ _ p0 p1 lt (drewN_heap n3 hs.out)).mono ?_
      rintro e w4 ⟨rfl, n4, rfl⟩
      go_wp2_with fail
      refine (H5.out si BB _ at_ p0 p1 HAT.out (drewN_heap _ hs.out)).mono ?_
      rintro e w5 ⟨rfl, o5⟩
      have O5 := Lib.hid o5
      clear o5
      go_wp2_with (go_at_call 16; refine (H6.out at_ BB _ a0 a1 O5.out.at_).mono ?_; rintro e w6 ⟨rfl, n6, rfl⟩)
      go_roundw
      case rel =>
        refine ⟨k + 1, by omega, by go_num, below_dn (below_only (below_dn hb _) O5.out hz0 hb.size) _, Lib.hid ?_⟩
        rw [Q3.out, HAT.out]
        exact O5.out.at_
      case measure => simp [intOf]; omega
    · obtain rfl : k = N + 2 := by omega
      go_wp2
      go_ret
      exact ⟨rfl, hb⟩
end Go.Proofs.Ytkbjjkolhhmafaa.Tc
