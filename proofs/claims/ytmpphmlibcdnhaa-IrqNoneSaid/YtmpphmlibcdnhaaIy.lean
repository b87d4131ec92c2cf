/- IrqNone and IrqKeypad, walked. -/
import Derived.Test.YtmpphmlibcdnhaaIx
namespace Go.Proofs.Ytmpphmlibcdnhaa.Iy
set_option linter.unusedVariables false
set_option linter.unusedSimpArgs false
open Go.RowKit Go.Proofs.Ytmpphmlibcdnhaa.Bt Go.Proofs.Ytmpphmlibcdnhaa.Wk Go.Proofs.Ytmpphmlibcdnhaa.Iw Go.Proofs.Ytmpphmlibcdnhaa.Ix

set_option maxHeartbeats 1000000 in
theorem none_law (at_ x : Int) (h1 : (Lit.int .i64 at_).wf = true) (h2 : (Lit.int .u16 x).wf = true) (w : World) :
    Calls Try.prog 5 #[.int .i64 at_, .int .u16 x] w fun e w' => e = .returned (.bool true) ∧ Below w.heap.size w w' := by
  clear h1 h2
  go_enter Try.func5, Try.ntmps5
  go_wp2_with fail
  refine (awake_any _).mono ?_
  rintro e w1 ⟨rfl, hb⟩
  have R1 := Lib.hid (wakes_none w1)
  have R2 := Lib.hid (fun n => fires_none (w1.drewN n))
  have R3 := Lib.hid (fun i n => read_none i (w1.drewN n))
  have HB := Lib.hid hb
  clear hb
  go_wp2_with (first | (go_at_call 10; refine (raise_none _ _).mono ?_; rintro e w' ⟨rfl, rfl⟩) | (go_at_call 14; refine (keys_none _ _).mono ?_; rintro e w' ⟨rfl, rfl⟩) | (go_at_call 9; refine (write_none _ _ _).mono ?_; rintro e w' ⟨rfl, rfl⟩) | (go_at_call 16; refine R1.out.mono ?_; rintro e w' ⟨rfl, n, rfl⟩) | (go_at_call 18; refine (R2.out _).mono ?_; rintro e w' ⟨rfl, n, rfl⟩) | (go_at_call 11; (with_reducible refine (R3.out _ _).mono ?_); rintro e w' ⟨rfl, rfl⟩))
  go_ret
  exact ⟨rfl, below_dn HB.out _⟩

/-! ### the keypad's bits -/
theorem andNot_nat (k : IntKind) (hk : ∀ n : Nat, n < 2 ^ k.bits → k.wrap n = n) (a b : Nat) (ha : a < 2 ^ k.bits) (hb : b < 2 ^ k.bits) : Go.bits .andNot k a b = ((a ^^^ (a &&& b) : Nat) : Int) := by
  have e : (BitVec.ofInt k.bits (a : Int) &&& ~~~(BitVec.ofInt k.bits (b : Int))) = BitVec.ofNat k.bits (a ^^^ (a &&& b)) := by
    rw [BitVec.ofInt_natCast, BitVec.ofInt_natCast]
    apply BitVec.eq_of_getLsbD_eq
    intro i hi
    simp only [BitVec.getLsbD_and, BitVec.getLsbD_not, BitVec.getLsbD_ofNat, Nat.testBit_xor, Nat.testBit_and, hi, decide_true, Bool.true_and]
    cases a.testBit i <;> cases b.testBit i <;> rfl
  have h : a ^^^ (a &&& b) < 2 ^ k.bits := Nat.xor_lt_two_pow ha (Nat.and_lt_two_pow _ hb)
  simp only [Go.bits]
  rw [e, BitVec.toNat_ofNat, Nat.mod_eq_of_lt h]
  exact hk _ h
theorem andNot16 (a b : Nat) (ha : a < 65536) (hb : b < 65536) : Go.bits .andNot .u16 a b = ((a ^^^ (a &&& b) : Nat) : Int) := andNot_nat .u16 ws_u16 a b ha hb
theorem and16 (a b : Nat) (ha : a < 65536) (hb : b < 65536) : Go.bits .and .u16 a b = ((a &&& b : Nat) : Int) := and_nat .u16 ws_u16 a b ha hb
theorem or16 (a b : Nat) (ha : a < 65536) (hb : b < 65536) : Go.bits .or .u16 a b = ((a ||| b : Nat) : Int) := or_nat .u16 ws_u16 a b ha hb
theorem xor16 (a b : Nat) (ha : a < 65536) (hb : b < 65536) : Go.bits .xor .u16 a b = ((a ^^^ b : Nat) : Int) := xor_nat .u16 ws_u16 a b ha hb
theorem bit14 (x : Nat) : (x / 16384) &&& 1 = (x.testBit 14).toNat := by rw [Nat.and_one_is_mod, Nat.toNat_testBit]
theorem clear14 (n : Nat) : ((n ^^^ (n &&& 16384)) &&& 50175) / 16384 &&& 1 = 0 := by
  rw [bit14]
  simp only [Nat.testBit_and, Nat.testBit_xor]
  have : Nat.testBit 16384 14 = true := by decide
  rw [this]
  cases n.testBit 14 <;> rfl
theorem set14 (n : Nat) : ((n ||| 16384) &&& 50175) / 16384 &&& 1 = 1 := by
  rw [bit14]
  simp only [Nat.testBit_and, Nat.testBit_or]
  have : Nat.testBit 16384 14 = true := by decide
  rw [this]
  have : Nat.testBit 50175 14 = true := by decide
  rw [this]
  cases n.testBit 14 <;> rfl
theorem top15 (n : Nat) (h : n < 65536) : ((n ||| 16384) &&& 50175) / 32768 = n / 32768 := by
  have e : ((n ||| 16384) &&& 50175) / 32768 % 2 = n / 32768 % 2 := by
    have := Nat.toNat_testBit ((n ||| 16384) &&& 50175) 15
    have h2 := Nat.toNat_testBit n 15
    simp only [Nat.testBit_and, Nat.testBit_or] at this
    have a : Nat.testBit 16384 15 = false := by decide
    have b : Nat.testBit 50175 15 = true := by decide
    rw [a, b] at this
    simp only [Bool.or_false, Bool.and_true] at this
    rw [← h2, this]
  have : (n ||| 16384) &&& 50175 < 65536 := Nat.and_lt_two_pow (n := 16) _ (by decide)
  omega
theorem low10 (n : Nat) : ((n ||| 16384) &&& 50175) &&& 1023 = n &&& 1023 := by
  rw [Nat.and_assoc, Nat.and_or_distrib_right]
  simp
theorem notkeys (k : Nat) : (65535 ^^^ (k &&& 1023)) &&& 1023 = (65535 ^^^ k) &&& 1023 := by
  apply Nat.eq_of_testBit_eq
  intro i
  simp only [Nat.testBit_and, Nat.testBit_xor]
  cases k.testBit i <;> cases Nat.testBit 1023 i <;> cases Nat.testBit 65535 i <;> rfl
theorem all_iff (a b : Nat) : (b &&& a = a) ↔ (a ^^^ (a &&& b) = 0) := by
  constructor
  · intro h
    rw [Nat.and_comm a b, h, Nat.xor_self]
  · intro h
    have := congrArg (fun t => t ^^^ (a &&& b)) h
    simp only [Nat.xor_assoc, Nat.xor_self, Nat.xor_zero, Nat.zero_xor] at this
    rw [Nat.and_comm]; exact this.symm
/-- What the law expects. -/
def asks (want keys : Int) : Bool := if (want / 32768 == 1) = true then Go.bits .andNot .u16 (Go.bits .and .u16 want 1023) (Go.bits .and .u16 keys 1023) == 0 else Go.bits .and .u16 (Go.bits .and .u16 want 1023) (Go.bits .and .u16 keys 1023) != 0
theorem press_clear (ke want : Int) (h0 : 0 ≤ want) (h1 : want < 65536) : pressS 0 ke (Go.bits .and .u16 (Go.bits .andNot .u16 want 16384) 50175) = 0 := by
  obtain ⟨n, rfl⟩ := Int.eq_ofNat_of_zero_le h0
  have hn : n < 65536 := by omega
  have e1 : Go.bits .andNot .u16 (n : Int) 16384 = ((n ^^^ (n &&& 16384) : Nat) : Int) := andNot16 n 16384 hn (by decide)
  have l1 : n ^^^ (n &&& 16384) < 65536 := Nat.xor_lt_two_pow (n := 16) hn (Nat.and_lt_two_pow (n := 16) _ (by decide))
  have e2 : Go.bits .and .u16 ((n ^^^ (n &&& 16384) : Nat) : Int) 50175 = (((n ^^^ (n &&& 16384)) &&& 50175 : Nat) : Int) := and16 _ 50175 l1 (by decide)
  have l2 : (n ^^^ (n &&& 16384)) &&& 50175 < 65536 := Nat.and_lt_two_pow (n := 16) _ (by decide)
  have e3 : Go.bits .and .u16 ((((n ^^^ (n &&& 16384)) &&& 50175 : Nat) : Int) / 16384) 1 = 0 := by
    have := and16 (((n ^^^ (n &&& 16384)) &&& 50175) / 16384) 1 (by omega) (by decide)
    rw [clear14] at this
    simpa using this
  unfold pressS
  rw [e1, e2, e3]
  rfl
theorem press_set (keys want : Int) (h0 : 0 ≤ want) (h1 : want < 65536) (k0 : 0 ≤ keys) (k1 : keys < 65536) :
    pressS 0 (Go.bits .and .u16 keys 1023) (Go.bits .and .u16 (Go.bits .or .u16 want 16384) 50175) = if asks want keys then 4096 else 0 := by
  obtain ⟨n, rfl⟩ := Int.eq_ofNat_of_zero_le h0
  obtain ⟨k, rfl⟩ := Int.eq_ofNat_of_zero_le k0
  have hn : n < 65536 := by omega
  have hk : k < 65536 := by omega
  have e1 : Go.bits .or .u16 (n : Int) 16384 = ((n ||| 16384 : Nat) : Int) := or16 n 16384 hn (by decide)
  have l1 : n ||| 16384 < 65536 := Nat.or_lt_two_pow (n := 16) hn (by decide)
  have e2 : Go.bits .and .u16 ((n ||| 16384 : Nat) : Int) 50175 = (((n ||| 16384) &&& 50175 : Nat) : Int) := and16 _ 50175 l1 (by decide)
  have l2 : (n ||| 16384) &&& 50175 < 65536 := Nat.and_lt_two_pow (n := 16) _ (by decide)
  have e3 : Go.bits .and .u16 ((((n ||| 16384) &&& 50175 : Nat) : Int) / 16384) 1 = 1 := by
    have := and16 (((n ||| 16384) &&& 50175) / 16384) 1 (by omega) (by decide)
    rw [set14] at this
    simpa using this
  have e4 : ((((n ||| 16384) &&& 50175 : Nat) : Int) / 32768) = (n : Int) / 32768 := by
    have := top15 n hn
    omega
  have e5 : Go.bits .and .u16 (((n ||| 16384) &&& 50175 : Nat) : Int) 1023 = ((n &&& 1023 : Nat) : Int) := by
    have := and16 ((n ||| 16384) &&& 50175) 1023 l2 (by decide)
    rw [low10] at this
    exact this
  have e6 : Go.bits .and .u16 (k : Int) 1023 = ((k &&& 1023 : Nat) : Int) := and16 k 1023 hk (by decide)
  have e7 : Go.bits .and .u16 (n : Int) 1023 = ((n &&& 1023 : Nat) : Int) := and16 n 1023 hn (by decide)
  have l3 : n &&& 1023 < 65536 := Nat.and_lt_two_pow (n := 16) _ (by decide)
  have l4 : k &&& 1023 < 65536 := Nat.and_lt_two_pow (n := 16) _ (by decide)
  have e8 : Go.bits .and .u16 ((k &&& 1023 : Nat) : Int) ((n &&& 1023 : Nat) : Int) = (((k &&& 1023) &&& (n &&& 1023) : Nat) : Int) := and16 _ _ l4 l3
  have e9 : Go.bits .and .u16 ((n &&& 1023 : Nat) : Int) ((k &&& 1023 : Nat) : Int) = (((k &&& 1023) &&& (n &&& 1023) : Nat) : Int) := by rw [and16 _ _ l3 l4, Nat.and_comm]
  have e10 := andNot16 _ _ l3 l4
  unfold pressS asks
  rw [e1, e2, e3, e4, e5, e6, e7, e8, e9, e10]
  have o12 : Go.bits .or .u16 0 (bitI 12) = 4096 := by decide
  rw [o12]
  have A := all_iff (n &&& 1023) (k &&& 1023)
  rw [if_neg (by decide)]
  by_cases c : ((n : Int) / 32768 == 1) = true
  · rw [if_pos c, if_pos c]
    by_cases d : (k &&& 1023) &&& (n &&& 1023) = n &&& 1023
    · have d' := A.1 d
      rw [d, d']
      simp
    · have d' : ¬ _ := fun t => d (A.2 t)
      have x1 : ((((k &&& 1023) &&& (n &&& 1023) : Nat) : Int) == ((n &&& 1023 : Nat) : Int)) = false := by
        rw [beq_eq_false_iff_ne]; intro t; exact d (Int.ofNat.inj t)
      have x2 : ((((n &&& 1023) ^^^ ((n &&& 1023) &&& (k &&& 1023)) : Nat) : Int) == 0) = false := by
        rw [beq_eq_false_iff_ne]; intro t; exact d' (Int.ofNat.inj t)
      rw [x1, x2]
  · rw [if_neg c, if_neg c]
theorem keys_back (keys : Int) (k0 : 0 ≤ keys) (k1 : keys < 65536) :
    Go.bits .and .u16 (Go.bits .xor .u16 IntKind.u16.max (Go.bits .and .u16 keys 1023)) 1023 = Go.bits .and .u16 (Go.bits .xor .u16 IntKind.u16.max keys) 1023 := by
  obtain ⟨k, rfl⟩ := Int.eq_ofNat_of_zero_le k0
  have hk : k < 65536 := by omega
  have hm : IntKind.u16.max = ((65535 : Nat) : Int) := by decide
  have e6 : Go.bits .and .u16 (k : Int) 1023 = ((k &&& 1023 : Nat) : Int) := and16 k 1023 hk (by decide)
  have l4 : k &&& 1023 < 65536 := Nat.and_lt_two_pow (n := 16) _ (by decide)
  rw [e6, hm, xor16 _ _ (by decide) l4, xor16 _ _ (by decide) hk]
  have l5 : 65535 ^^^ (k &&& 1023) < 65536 := Nat.xor_lt_two_pow (n := 16) (by decide) l4
  have l6 : 65535 ^^^ k < 65536 := Nat.xor_lt_two_pow (n := 16) (by decide) hk
  have a := and16 _ 1023 l5 (by decide)
  have b := and16 _ 1023 l6 (by decide)
  rw [notkeys, ← b] at a
  exact a
set_option maxHeartbeats 1000000 in
theorem keypad_law (want keys : Int) (h1 : (Lit.int .u16 want).wf = true) (h2 : (Lit.int .u16 keys).wf = true) (w : World) :
    Calls Try.prog 6 #[.int .u16 want, .int .u16 keys] w fun e w' => e = .returned (.bool true) ∧ Below w.heap.size w w' := by
  obtain ⟨p0, p1⟩ := bounds_u16 h1
  obtain ⟨k0, k1⟩ := bounds_u16 h2
  have P1 := Lib.hid (fun ke => press_clear ke want p0 (by omega))
  have P2 := Lib.hid (press_set keys want p0 (by omega) k0 (by omega))
  have P3 := Lib.hid (keys_back keys k0 (by omega))
  clear h1 h2 p0 p1 k0 k1
  unfold asks at P2
  go_enter Try.func6, Try.ntmps6
  go_wp2_with fail
  refine (awake_any _).mono ?_
  rintro e w0 ⟨rfl, hb⟩
  have HB := Lib.hid hb
  clear hb
  go_wp2_with fail
  refine (new_any _).mono ?_
  rintro e w1 ⟨rfl, o1⟩
  have O1 := Lib.hid o1
  clear o1
  generalize hB : w0.heap.size = B at *
  go_wp2_with fail
  refine (write_306 B _ _ _ _ _ _ _ O1.out.at_).mono ?_
  rintro e w2 ⟨rfl, o2⟩
  rw [P1.out] at o2
  have O2 := Lib.hid o2
  clear o2
  go_wp2_with fail
  refine (keys_any B _ _ _ _ _ _ _ O2.out.at_).mono ?_
  rintro e w3 ⟨rfl, o3⟩
  rw [P1.out] at o3
  have O3 := Lib.hid o3
  clear o3
  have R5 := read_any B _ _ _ _ _ 514 _ O3.out.at_
  have R6 := read_any B _ _ _ _ _ 304 _ O3.out.at_
  have q5 : ∀ ke wa, readS 0 0 false ke wa 514 = 0 := fun _ _ => rfl
  have q6 : ∀ ke wa, readS 0 0 false ke wa 304 = Go.bits .and .u16 (Go.bits .xor .u16 IntKind.u16.max ke) 1023 := fun _ _ => rfl
  rw [q5] at R5
  rw [q6, P3.out] at R6
  clear q5 q6
  obtain ⟨K, hK⟩ : ∃ K, Go.bits .and .u16 (Go.bits .xor .u16 IntKind.u16.max keys) 1023 = K := ⟨_, rfl⟩
  rw [hK] at R6
  have z : (K != Go.bits .and .u16 (Go.bits .xor .u16 (if IntKind.u16.signed = true then -1 else IntKind.u16.max) keys) 1023) = false := by
    rw [if_neg (by decide), hK]; exact bne_self_eq_false K
  have zH := Lib.hid hK
  clear hK
  have R5h := Lib.hid R5
  have R6h := Lib.hid R6
  clear R5 R6
  go_wp2_with fail
  refine R5h.out.mono ?_
  rintro e w' ⟨rfl, rfl⟩
  go_wp2_with fail
  refine R6h.out.mono ?_
  rintro e w' ⟨rfl, rfl⟩
  clear R5h R6h
  go_wp2_with fail
  refine (write_306 B _ _ _ _ _ _ _ O3.out.at_).mono ?_
  rintro e w4 ⟨rfl, o4⟩
  rw [P2.out] at o4
  have O4 := Lib.hid o4
  clear o4
  have q7 : ∀ fl ke wa, readS 0 fl false ke wa 514 = fl := fun _ _ _ => rfl
  have R7 := read_any B _ _ _ _ _ 514 _ O4.out.at_
  rw [q7] at R7
  have Z : Below w.heap.size w w4 := below_only HB.out (((O1.out.trans O2.out).trans O3.out).trans O4.out) (by have := HB.out.size; omega) (by have := HB.out.size; omega)
  have ZH := Lib.hid Z
  clear Z P1 P2 P3 O1 O2 O3 O4 HB q7
  by_cases c : (want / 32768 == 1) = true
  · rw [if_pos c] at R7
    cases d : (Go.bits .andNot .u16 (Go.bits .and .u16 want 1023) (Go.bits .and .u16 keys 1023) == 0)
    all_goals
      rw [d] at R7
      have R7h := Lib.hid R7
      clear R7
      go_wp2_with (go_at_call 11; refine R7h.out.mono ?_; rintro e w' ⟨rfl, rfl⟩)
      go_ret
      exact ⟨rfl, ZH.out⟩
  · rw [if_neg c] at R7
    have c' : (want / 32768 == 1) = false := by simpa using c
    clear c
    cases d : (Go.bits .and .u16 (Go.bits .and .u16 want 1023) (Go.bits .and .u16 keys 1023) != 0)
    all_goals
      rw [d] at R7
      have R7h := Lib.hid R7
      clear R7
      go_wp2_with (go_at_call 11; refine R7h.out.mono ?_; rintro e w' ⟨rfl, rfl⟩)
      go_ret
      exact ⟨rfl, ZH.out⟩
end Go.Proofs.Ytmpphmlibcdnhaa.Iy
