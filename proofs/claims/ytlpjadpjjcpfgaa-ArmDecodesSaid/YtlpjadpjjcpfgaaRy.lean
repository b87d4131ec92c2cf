/- The document's patterns, walked: Fits, Field, flag. -/
import Derived.Test.YtlpjadpjjcpfgaaRa
import Derived.Test.YtlpjadpjjcpfgaaRx
namespace Go.Proofs.Ytlpjadpjjcpfgaa.Ry
set_option linter.unusedVariables false
set_option linter.unusedSimpArgs false
open Go.RowKit Go.Proofs.Ytlpjadpjjcpfgaa.Bt Go.Proofs.Ytlpjadpjjcpfgaa.Wk Go.Proofs.Ytlpjadpjjcpfgaa.Ra Go.Proofs.Ytlpjadpjjcpfgaa.Rp Go.Proofs.Ytlpjadpjjcpfgaa.Rx

theorem drop_cons (s : ByteArray) (k : Nat) (h : k < s.size) : s.data.toList.drop k = s[k] :: s.data.toList.drop (k + 1) := by
  rw [List.drop_eq_getElem_cons (by simpa using h)]; rfl
theorem drop_len (s : ByteArray) (k : Nat) : (s.data.toList.drop k).length = s.size - k := by simp
theorem u8_ne {c : UInt8} {d : UInt8} (h : c ≠ d) : ((c.toNat : Int) == (d.toNat : Int)) = false := by
  have : c.toNat ≠ d.toNat := fun e => h (UInt8.toNat_inj.1 e)
  have : (c.toNat : Int) ≠ (d.toNat : Int) := by omega
  simp only [beq_eq_false_iff_ne]; exact this
set_option maxHeartbeats 1000000 in
theorem fits_any (s : ByteArray) (hs : s.size ≤ 32) (x : Int) (h0 : 0 ≤ x) (h1 : x < 4294967296) (w : World) :
    Calls Try.prog 17 #[.string s, .int .u32 x] w fun e w' => e = .returned (.bool (fitsL s.data.toList x)) ∧ w = w' := by
  generalize hB : fitsL s.data.toList x = B
  have HB := Lib.hid hB
  clear hB
  go_enter Try.func17, Try.ntmps17
  go_wp2
  go_loop [6] (fun i => ∃ k : Nat, k ≤ s.size ∧ i = .int .i64 k ∧ fitsL (s.data.toList.drop k) x = B) (fun i => s.size - (intOf i).toNat)
  case atStart => exact ⟨0, Nat.zero_le _, rfl, HB.out⟩
  case round =>
    obtain ⟨k, hk, rfl, hr⟩ := hrel
    by_cases hlt : k < s.size
    · rw [drop_cons s k hlt] at hr
      unfold fitsL at hr
      rw [drop_len] at hr
      obtain ⟨j, hj⟩ : ∃ j, s.size - (k + 1) = j := ⟨_, rfl⟩
      rw [hj] at hr
      have e1 : ((s.size : Int) - 1 - (k : Int)) = (j : Int) := by omega
      have j0 : (0 : Int) ≤ (j : Int) := by omega
      have bb := bt01 x j
      have eb : x / 2 ^ j % 2 = bt x j := rfl
      obtain ⟨d0, d1⟩ := div_in x j h0 h1
      have HR := Lib.hid hr
      have HJ := Lib.hid hj
      clear hr hj
      rcases (by omega : bt x j = 0 ∨ bt x j = 1) with b | b
      all_goals
        have HBt := Lib.hid b
        by_cases c48 : s[k] = 48
        · have q1 : 48 ≤ (s[k].toNat : Int) := by rw [c48]; decide
          have q2 : (s[k].toNat : Int) ≤ 48 := by rw [c48]; decide
          have HC := Lib.hid c48
          clear c48 bb
          go_wp2
          all_goals first
            | (exfalso; omega)
            | (go_round
               case rel => exact ⟨k + 1, by omega, by go_num, by have := HR.out; simpa [HBt.out, HC.out] using this⟩
               case measure => simp [intOf]; omega)
            | (go_ret
               exact ⟨ret_b (by have := HR.out; simpa [HBt.out, HC.out] using this), rfl⟩)
        · by_cases c49 : s[k] = 49
          · have q1 : 49 ≤ (s[k].toNat : Int) := by rw [c49]; decide
            have q2 : (s[k].toNat : Int) ≤ 49 := by rw [c49]; decide
            have HC := Lib.hid c49
            clear bb c48 c49
            go_wp2
            all_goals first
              | (exfalso; omega)
              | (go_round
                 case rel => exact ⟨k + 1, by omega, by go_num, by have := HR.out; simpa [HBt.out, HC.out] using this⟩
                 case measure => simp [intOf]; omega)
              | (go_ret
                 exact ⟨ret_b (by have := HR.out; simpa [HBt.out, HC.out] using this), rfl⟩)
          · have q1 : ((s[k].toNat : Int) == 48) = false := u8_ne (d := 48) c48
            have q2 : ((s[k].toNat : Int) == 49) = false := u8_ne (d := 49) c49
            have HR' := Lib.hid (show fitsL (s.data.toList.drop (k + 1)) x = B by have := HR.out; rw [if_neg c48, if_neg c49] at this; exact this)
            clear bb c48 c49 HR
            go_wp2
            go_round
            case rel => exact ⟨k + 1, by omega, by go_num, HR'.out⟩
            case measure => simp [intOf]; omega
    · have hk' : k = s.size := by omega
      subst hk'
      rw [List.drop_of_length_le (by simp)] at hr
      have : B = true := by rw [← hr]; rfl
      subst this
      go_wp2
      go_ret
      exact ⟨rfl, rfl⟩
theorem pow_le (k : Nat) (h : k ≤ 32) : (2 : Int) ^ k ≤ 4294967296 := by
  have h1 : 2 ^ k ≤ 2 ^ 32 := Nat.pow_le_pow_right (n := 2) (by decide) h
  have h2 : ((2 ^ k : Nat) : Int) = 2 ^ k := Int.natCast_pow 2 k
  have h3 : (2 : Nat) ^ 32 = 4294967296 := by decide
  rw [h3] at h1
  omega
set_option maxHeartbeats 1000000 in
theorem field_ref (s : ByteArray) (c : UInt8) (hs : s.size ≤ 32) (x : Int) (h0 : 0 ≤ x) (h1 : x < 4294967296) (w : World) :
    Calls Try.prog 19 #[.string s, .int .u32 x, .int .u8 (c.toNat : Int)] w fun e w' => e = .returned (.int .i64 (F s.data.toList x c)) ∧ w = w' := by
  unfold F
  generalize hB : fieldL x c s.data.toList 0 = B
  have HB := Lib.hid hB
  clear hB
  go_enter Try.func19, Try.ntmps19
  go_wp2
  go_loop [7, 9] (fun a i => ∃ (k : Nat) (n : Int), k ≤ s.size ∧ i = .int .i64 k ∧ a = .int .i64 n ∧ 0 ≤ n ∧ n < 2 ^ k ∧ fieldL x c (s.data.toList.drop k) n = B) (fun _ i => s.size - (intOf i).toNat)
  case atStart => exact ⟨0, 0, Nat.zero_le _, rfl, rfl, by decide, by decide, HB.out⟩
  case round =>
    obtain ⟨k, n, hk, rfl, rfl, n0, n1, hr⟩ := hrel
    by_cases hlt : k < s.size
    · rw [drop_cons s k hlt] at hr
      unfold fieldL at hr
      rw [drop_len] at hr
      obtain ⟨j, hj⟩ : ∃ j, s.size - (k + 1) = j := ⟨_, rfl⟩
      rw [hj] at hr
      have e1 : ((s.size : Int) - 1 - (k : Int)) = (j : Int) := by omega
      have j0 : (0 : Int) ≤ (j : Int) := by omega
      have bb := bt01 x j
      have eb : x / 2 ^ j % 2 = bt x j := rfl
      obtain ⟨d0, d1⟩ := div_in x j h0 h1
      have pl := pow_le k (by omega)
      have ps : (2 : Int) ^ (k + 1) = 2 * 2 ^ k := by rw [Int.pow_succ, Int.mul_comm]
      have PS := Lib.hid ps
      have HN := Lib.hid n1
      have n2 : n < 4294967296 := by omega
      have HR := Lib.hid hr
      have HJ := Lib.hid hj
      clear hr hj ps n1 pl
      by_cases hc : s[k] = c
      · have HC := Lib.hid hc
        have q : ((s[k].toNat : Int) == (c.toNat : Int)) = true := by rw [hc]; simp
        clear hc
        go_wp2
        go_round
        case rel => exact ⟨k + 1, 2 * n + bt x j, by omega, by go_num, by go_num, by omega, by have := HN.out; have e := PS.out; omega, by have := HR.out; rw [if_pos HC.out] at this; exact this⟩
        case measure => simp [intOf]; omega
      · have HR' := Lib.hid (show fieldL x c (s.data.toList.drop (k + 1)) n = B by have := HR.out; rw [if_neg hc] at this; exact this)
        have q : ((s[k].toNat : Int) == (c.toNat : Int)) = false := u8_ne hc
        clear hc bb HR
        go_wp2
        go_round
        case rel => exact ⟨k + 1, n, by omega, by go_num, rfl, by omega, by have := HN.out; have e := PS.out; omega, HR'.out⟩
        case measure => simp [intOf]; omega
    · have hk' : k = s.size := by omega
      subst hk'
      rw [List.drop_of_length_le (by simp)] at hr
      have : B = n := by rw [← hr]; rfl
      subst this
      clear hr HB
      go_wp2
      go_ret
      exact ⟨rfl, rfl⟩
set_option maxHeartbeats 1000000 in
theorem flag_ref (s : ByteArray) (c : UInt8) (hs : s.size ≤ 32) (x : Int) (h0 : 0 ≤ x) (h1 : x < 4294967296) (w : World) :
    Calls Try.prog 20 #[.string s, .int .u32 x, .int .u8 (c.toNat : Int)] w fun e w' => e = .returned (.bool (Rx.flag s.data.toList x c)) ∧ w = w' := by
  have HF := Lib.hid (field_ref s c hs x h0 h1)
  unfold Rx.flag
  go_enter Try.func20, Try.ntmps20
  go_wp2_with (go_at_call 19; ((with_reducible refine (HF.out _).mono ?_); rintro e w' ⟨rfl, rfl⟩))
  go_ret
  exact ⟨rfl, rfl⟩
end Go.Proofs.Ytlpjadpjjcpfgaa.Ry
