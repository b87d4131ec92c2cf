/- The controller and the document's, side by side: what each call makes of both. -/
import Derived.Test.YtmpphmlibcdnhaaIs
namespace Go.Proofs.Ytmpphmlibcdnhaa.It
set_option linter.unusedVariables false
set_option linter.unusedSimpArgs false
open Go.RowKit Go.Proofs.Ytmpphmlibcdnhaa.Bt Go.Proofs.Ytmpphmlibcdnhaa.Wk Go.Proofs.Ytmpphmlibcdnhaa.Sg Go.Proofs.Ytmpphmlibcdnhaa.Ir Go.Proofs.Ytmpphmlibcdnhaa.Is
open Go.Proofs.Ytmpphmlibcdnhaa.Iw (ctl pressS bitI raiseS readS)

/-! ### bits -/
theorem tb_nat (n i : Nat) : tb n i = n.testBit i := by
  unfold tb
  rw [Nat.testBit_eq_decide_div_mod_eq]
  have e : ((2 : Int) ^ i) = ((2 ^ i : Nat) : Int) := (Int.natCast_pow 2 i).symm
  rw [e]
  by_cases c : n / 2 ^ i % 2 = 1
  · have : ((n : Int) / ((2 ^ i : Nat) : Int)) % 2 = 1 := by rw [← Int.natCast_ediv]; omega
    rw [this, decide_eq_true c]; rfl
  · have h : ((n : Int) / ((2 ^ i : Nat) : Int)) % 2 = 0 := by rw [← Int.natCast_ediv]; omega
    rw [h, decide_eq_false c]; rfl
theorem num_bits (f : Nat → Bool) (n k : Nat) (h : ∀ i, i < k → f i = n.testBit i) : num f k = n % 2 ^ k := by
  induction k with
  | zero => simp [num, Nat.mod_one]
  | succ k ih =>
    unfold num
    rw [ih (fun i hi => h i (by omega)), h k (by omega), Nat.mod_pow_succ, Nat.testBit_eq_decide_div_mod_eq]
    have : n / 2 ^ k % 2 = 0 ∨ n / 2 ^ k % 2 = 1 := by omega
    rcases this with e | e <;> simp [e]
theorem and16 (a b : Nat) (ha : a < 65536) (hb : b < 65536) : Go.bits .and .u16 a b = ((a &&& b : Nat) : Int) := and_nat .u16 ws_u16 a b ha hb
theorem or16 (a b : Nat) (ha : a < 65536) (hb : b < 65536) : Go.bits .or .u16 a b = ((a ||| b : Nat) : Int) := or_nat .u16 ws_u16 a b ha hb
theorem xor16 (a b : Nat) (ha : a < 65536) (hb : b < 65536) : Go.bits .xor .u16 a b = ((a ^^^ b : Nat) : Int) := xor_nat .u16 ws_u16 a b ha hb
theorem andNot16 (a b : Nat) (ha : a < 65536) (hb : b < 65536) : Go.bits .andNot .u16 a b = ((a ^^^ (a &&& b) : Nat) : Int) := andNot_nat .u16 ws_u16 a b ha hb
theorem and_lt (a b k : Nat) (h : b < 2 ^ k) : a &&& b < 2 ^ k := Nat.and_lt_two_pow _ h
/-- A word is none just where none of its lowest k bits is set. -/
theorem nz_any (n k : Nat) (h : n < 2 ^ k) : (n != 0) = (List.range k).any (fun i => n.testBit i) := by
  rw [Bool.eq_iff_iff, List.any_eq_true, bne_iff_ne]
  constructor
  · intro hn
    obtain ⟨i, hi⟩ := Nat.exists_testBit_of_ne_zero hn
    refine ⟨i, List.mem_range.2 ?_, hi⟩
    rcases Nat.lt_or_ge i k with l | l
    · exact l
    · have : n < 2 ^ i := Nat.lt_of_lt_of_le h (Nat.pow_le_pow_right (by decide) l)
      rw [Nat.testBit_lt_two_pow this] at hi
      exact absurd hi (by decide)
  · rintro ⟨i, _, hi⟩ rfl
    simp at hi

/-- What a controller holds. -/
structure St where
  en : Nat
  fl : Nat
  ke : Nat
  wa : Nat
  ms : Bool
  he : en < 2 ^ 14
  hf : fl < 2 ^ 14
  hk : ke < 2 ^ 10
  hw : wa < 65536
def St.c (s : St) : Obj := ctl s.en s.fl s.ms s.ke s.wa
def St.r (s : St) : Obj := rc (tb s.en) (tb s.fl) (tb s.ke) s.wa s.ms
def St.new : St := ⟨0, 0, 0, 0, false, by decide, by decide, by decide, by decide⟩

theorem wakes_both (s : St) : ∃ v, (∀ b w, w.heap[b]? = some s.c → Calls Try.prog 16 #[.pointer (some ⟨b, 0, none⟩)] w fun e w' => e = .returned (.bool v) ∧ ∃ n, w' = w.drewN n) ∧
    (∀ b w, w.heap[b]? = some s.r → Calls Try.prog 17 #[.pointer (some ⟨b, 0, none⟩)] w fun e w' => e = .returned (.bool v) ∧ w = w') := by
  have hl : s.en &&& s.fl < 2 ^ 14 := and_lt _ _ _ s.hf
  have e : (Go.bits .and .u16 s.en s.fl != 0) = wakesR (tb s.en) (tb s.fl) := by
    have h1 := s.he
    have h2 := s.hf
    rw [and16 _ _ (by omega) (by omega)]
    have : (((s.en &&& s.fl : Nat) : Int) != 0) = ((s.en &&& s.fl) != 0) := by
      rw [Bool.eq_iff_iff, bne_iff_ne, bne_iff_ne]; omega
    rw [this, nz_any _ 14 hl]
    unfold wakesR
    congr 1
    funext i
    rw [Nat.testBit_and, tb_nat, tb_nat]
  refine ⟨_, fun b w h => Ix.wakes_any b _ _ _ _ _ w h, fun b w h => ?_⟩
  rw [e]
  exact wakes_any b _ _ _ _ _ w h
theorem fires_both (s : St) : ∃ v, (∀ b w, w.heap[b]? = some s.c → Calls Try.prog 18 #[.pointer (some ⟨b, 0, none⟩)] w fun e w' => e = .returned (.bool v) ∧ ∃ n, w' = w.drewN n) ∧
    (∀ b w, w.heap[b]? = some s.r → Calls Try.prog 19 #[.pointer (some ⟨b, 0, none⟩)] w fun e w' => e = .returned (.bool v) ∧ ∃ n, w' = w.drewN n) := by
  have hl : s.en &&& s.fl < 2 ^ 14 := and_lt _ _ _ s.hf
  have e : ((Go.bits .and .u16 s.en s.fl != 0) && s.ms) = (s.ms && wakesR (tb s.en) (tb s.fl)) := by
    have h1 := s.he
    have h2 := s.hf
    rw [and16 _ _ (by omega) (by omega)]
    have : (((s.en &&& s.fl : Nat) : Int) != 0) = ((s.en &&& s.fl) != 0) := by
      rw [Bool.eq_iff_iff, bne_iff_ne, bne_iff_ne]; omega
    rw [this, nz_any _ 14 hl, Bool.and_comm]
    unfold wakesR
    congr 2
    funext i
    rw [Nat.testBit_and, tb_nat, tb_nat]
  refine ⟨_, fun b w h => Ix.fires_any b _ _ _ _ _ w h, fun b w h => ?_⟩
  rw [e]
  exact fires_any b _ _ _ _ _ w h
theorem keys_left (k : Nat) (h : k < 2 ^ 10) : Go.bits .and .u16 (Go.bits .xor .u16 IntKind.u16.max k) 1023 = ((num (fun j => !tb k j) 10 : Nat) : Int) := by
  have hm : IntKind.u16.max = ((65535 : Nat) : Int) := by decide
  have l : 65535 ^^^ k < 65536 := Nat.xor_lt_two_pow (n := 16) (by decide) (by omega)
  rw [hm, xor16 _ _ (by decide) (by omega), show (1023 : Int) = ((1023 : Nat) : Int) from rfl, and16 _ _ l (by decide), num_bits _ (65535 ^^^ k) 10]
  · rw [show 1023 = 2 ^ 10 - 1 from rfl, Nat.and_two_pow_sub_one_eq_mod]
  · intro i hi
    rw [tb_nat, Nat.testBit_xor]
    have : Nat.testBit 65535 i = true := by
      rw [show 65535 = 2 ^ 16 - 1 from rfl, Nat.testBit_two_pow_sub_one]
      exact decide_eq_true (by omega)
    rw [this]; simp
theorem read_both (s : St) (at_ : Int) : ∃ v, (∀ b w, w.heap[b]? = some s.c → Calls Try.prog 11 #[.pointer (some ⟨b, 0, none⟩), .int .i64 at_] w fun e w' => e = .returned (.int .u16 v) ∧ w = w') ∧
    (∀ b w, w.heap[b]? = some s.r → Calls Try.prog 20 #[.pointer (some ⟨b, 0, none⟩), .int .i64 at_] w fun e w' => e = .returned (.int .u16 v) ∧ w = w') := by
  refine ⟨readS s.en s.fl s.ms s.ke s.wa at_, fun b w h => Iw.read_any b _ _ _ _ _ _ w h, fun b w h => ?_⟩
  unfold readS
  by_cases a0 : at_ = 304
  · subst a0
    rw [if_pos rfl, keys_left _ s.hk]
    exact read_304 b _ _ _ _ _ w h
  rw [if_neg a0]
  by_cases a1 : at_ = 306
  · subst a1
    rw [if_pos rfl]
    exact read_306 b _ _ _ _ _ w h
  rw [if_neg a1]
  by_cases a2 : at_ = 512
  · subst a2
    rw [if_pos rfl]
    have := read_512 b _ _ _ _ _ w h
    rw [num_bits _ s.en 14 (fun i _ => tb_nat _ _), Nat.mod_eq_of_lt s.he] at this
    exact this
  rw [if_neg a2]
  by_cases a3 : at_ = 514
  · subst a3
    rw [if_pos rfl]
    have := read_514 b _ _ _ _ _ w h
    rw [num_bits _ s.fl 14 (fun i _ => tb_nat _ _), Nat.mod_eq_of_lt s.hf] at this
    exact this
  rw [if_neg a3]
  by_cases a4 : at_ = 520
  · subst a4
    rw [if_pos rfl]
    exact read_520 b _ _ _ _ _ w h
  rw [if_neg a4]
  exact read_else b at_ w a0 a1 a2 a3 a4
/-! ### what changes -/
theorem tb_lor (n m i : Nat) : tb ((n ||| m : Nat) : Int) i = (tb n i || tb m i) := by rw [tb_nat, tb_nat, tb_nat, Nat.testBit_or]
theorem bitI_eq (i : Nat) (hi : i < 14) : bitI (i : Int) = ((2 ^ i : Nat) : Int) := by
  have l2 : 2 ^ i ≤ 2 ^ 13 := Nat.pow_le_pow_right (by decide) (by omega)
  unfold bitI
  rw [Int.toNat_natCast, wrap_u16, show ((2 : Int) ^ i) = ((2 ^ i : Nat) : Int) from (Int.natCast_pow 2 i).symm]
  generalize 2 ^ i = p at *
  omega
theorem upd_bit (n i j : Nat) : tb ((n ||| 2 ^ i : Nat) : Int) j = upd (tb n) i true j := by
  rw [tb_lor, tb_nat, tb_nat, Nat.testBit_two_pow]
  unfold upd
  by_cases e : j = i
  · subst e; simp
  · rw [if_neg e, tb_nat]
    have : ¬ i = j := fun x => e x.symm
    simp [this]
theorem lor_lt14 (n i : Nat) (h : n < 2 ^ 14) (hi : i < 14) : n ||| 2 ^ i < 2 ^ 14 := Nat.or_lt_two_pow h (Nat.pow_lt_pow_right (by decide) hi)
theorem raise_both (s : St) (i : Int) : ∃ s' : St, (∀ b w, w.heap[b]? = some s.c → Calls Try.prog 10 #[.pointer (some ⟨b, 0, none⟩), .int .i64 i] w fun e w' => e = .returned (.tuple #[]) ∧ Only b s'.c w w') ∧
    (∀ b w, w.heap[b]? = some s.r → Calls Try.prog 12 #[.pointer (some ⟨b, 0, none⟩), .int .i64 i] w fun e w' => e = .returned (.tuple #[]) ∧ Only b s'.r w w') := by
  by_cases c : 0 ≤ i ∧ i < 14
  · obtain ⟨n, rfl⟩ := Int.eq_ofNat_of_zero_le c.1
    have hn : n < 14 := by omega
    have l2 : 2 ^ n ≤ 2 ^ 13 := Nat.pow_le_pow_right (by decide) (by omega)
    have e : raiseS (s.fl : Int) (n : Int) = ((s.fl ||| 2 ^ n : Nat) : Int) := by
      unfold raiseS
      have := s.hf
      rw [if_pos c, bitI_eq n hn, or16 _ _ (by omega) (by omega)]
    refine ⟨⟨s.en, s.fl ||| 2 ^ n, s.ke, s.wa, s.ms, s.he, lor_lt14 _ _ s.hf hn, s.hk, s.hw⟩, fun b w h => ?_, fun b w h => ?_⟩
    · have := Iw.raise_any b (n : Int) _ _ _ _ _ w h
      rw [e] at this
      exact this
    · refine (raise_yes b n _ _ _ _ _ w hn h).mono fun e w' hh => ⟨hh.1, hh.2.to ?_⟩
      exact rc_congr (fun _ _ => rfl) (fun j _ => (upd_bit _ _ _).symm) (fun _ _ => rfl) rfl rfl
  · refine ⟨s, fun b w h => ?_, fun b w h => (raise_no b i w c).mono fun e w' hh => ⟨hh.1, hh.2 ▸ Only.refl h⟩⟩
    have := Iw.raise_any b i _ _ _ _ _ w h
    have e : raiseS (s.fl : Int) i = s.fl := if_neg c
    rw [e] at this
    exact this
/-- Does the keypad ask? Both have the same. -/
theorem some_eq (ke wa : Nat) (hk : ke < 2 ^ 10) (hw : wa < 65536) : (Go.bits .and .u16 ke (Go.bits .and .u16 wa 1023) != 0) = someK wa (tb ke) 10 := by
  rw [show (1023 : Int) = ((1023 : Nat) : Int) from rfl, and16 wa 1023 hw (by decide), and16 ke _ (by omega) (Nat.and_lt_two_pow (n := 16) _ (by decide))]
  have l : ke &&& (wa &&& 1023) < 2 ^ 10 := Nat.and_lt_two_pow _ (Nat.and_lt_two_pow _ (by decide))
  have : (((ke &&& (wa &&& 1023) : Nat) : Int) != 0) = ((ke &&& (wa &&& 1023)) != 0) := by
    rw [Bool.eq_iff_iff, bne_iff_ne, bne_iff_ne]; omega
  rw [this, nz_any _ 10 l]
  unfold someK
  rw [Bool.eq_iff_iff, List.any_eq_true, List.any_eq_true]
  refine exists_congr fun i => and_congr_right fun hi => ?_
  have hi := List.mem_range.1 hi
  rw [tb_nat, tb_nat, Nat.testBit_and, Nat.testBit_and, show 1023 = 2 ^ 10 - 1 from rfl, Nat.testBit_two_pow_sub_one, decide_eq_true hi]
  simp [and_comm]
theorem all_eq (ke wa : Nat) (hk : ke < 2 ^ 10) (hw : wa < 65536) : (Go.bits .and .u16 ke (Go.bits .and .u16 wa 1023) == Go.bits .and .u16 wa 1023) = allK wa (tb ke) 10 := by
  rw [show (1023 : Int) = ((1023 : Nat) : Int) from rfl, and16 wa 1023 hw (by decide), and16 ke _ (by omega) (Nat.and_lt_two_pow (n := 16) _ (by decide))]
  rw [Bool.eq_iff_iff, beq_iff_eq, Int.natCast_inj]
  unfold allK
  rw [List.all_eq_true]
  constructor
  · intro h i hi
    have hi := List.mem_range.1 hi
    have := congrArg (fun n => n.testBit i) h
    simp only [Nat.testBit_and] at this
    have t : Nat.testBit 1023 i = true := by rw [show 1023 = 2 ^ 10 - 1 from rfl, Nat.testBit_two_pow_sub_one]; exact decide_eq_true hi
    rw [t] at this
    rw [tb_nat, tb_nat]
    revert this
    cases ke.testBit i <;> cases wa.testBit i <;> simp
  · intro h
    apply Nat.eq_of_testBit_eq
    intro i
    simp only [Nat.testBit_and]
    by_cases hi : i < 10
    · have := h i (List.mem_range.2 hi)
      rw [tb_nat, tb_nat] at this
      revert this
      cases ke.testBit i <;> cases wa.testBit i <;> simp
    · have t : Nat.testBit 1023 i = false := by rw [show 1023 = 2 ^ 10 - 1 from rfl, Nat.testBit_two_pow_sub_one]; exact decide_eq_false hi
      rw [t]; simp
theorem bit_eq (wa i : Nat) (p : Int) (hw : wa < 65536) (hp : ((2 ^ i : Nat) : Int) = p) : (Go.bits .and .u16 ((wa : Int) / p) 1 == 0) = !tb wa i := by
  have l : wa / 2 ^ i < 65536 := Nat.lt_of_le_of_lt (Nat.div_le_self _ _) hw
  rw [← hp, ← Int.natCast_ediv, show (1 : Int) = ((1 : Nat) : Int) from rfl, and16 _ 1 l (by decide), Nat.and_one_is_mod, tb_nat, Nat.testBit_eq_decide_div_mod_eq]
  have : wa / 2 ^ i % 2 = 0 ∨ wa / 2 ^ i % 2 = 1 := by omega
  rcases this with e | e <;> rw [e] <;> rfl
theorem top_eq (wa : Nat) (hw : wa < 65536) : ((wa : Int) / 32768 == 1) = tb wa 15 := by
  rw [tb_nat, Nat.testBit_eq_decide_div_mod_eq]
  have : wa / 2 ^ 15 = 0 ∨ wa / 2 ^ 15 = 1 := by omega
  rcases this with e | e
  · have e2 : (wa : Int) / 32768 = 0 := by omega
    rw [e, e2]; rfl
  · have e2 : (wa : Int) / 32768 = 1 := by omega
    rw [e, e2]; rfl
theorem press_eq (fl ke wa : Nat) (hf : fl < 2 ^ 14) (hk : ke < 2 ^ 10) (hw : wa < 65536) : pressS fl ke wa = ((if asksR wa (tb ke) then fl ||| 2 ^ 12 else fl : Nat) : Int) := by
  have b12 : Go.bits .or .u16 (fl : Int) (bitI 12) = ((fl ||| 2 ^ 12 : Nat) : Int) := by
    have := bitI_eq 12 (by decide)
    rw [show bitI 12 = bitI ((12 : Nat) : Int) from rfl, this, or16 _ _ (by omega) (by decide)]
  unfold pressS asksR
  rw [bit_eq wa 14 16384 hw rfl, top_eq wa hw, all_eq ke wa hk hw, some_eq ke wa hk hw, b12]
  cases tb wa 14 <;> cases tb wa 15 <;> cases allK wa (tb ke) 10 <;> cases someK wa (tb ke) 10 <;> rfl
theorem pad_bits (fl : Nat) (x : Bool) (j : Nat) : padA (tb fl) x j = tb ((if x then fl ||| 2 ^ 12 else fl : Nat) : Int) j := by
  cases x
  · rfl
  · exact (upd_bit fl 12 j).symm
theorem pad_lt (fl : Nat) (x : Bool) (h : fl < 2 ^ 14) : (if x then fl ||| 2 ^ 12 else fl) < 2 ^ 14 := by
  cases x
  · exact h
  · exact lor_lt14 fl 12 h (by decide)
theorem press_both (s : St) (x : Int) (x0 : 0 ≤ x) (x1 : x < 65536) : ∃ s' : St, (∀ b w, w.heap[b]? = some s.c → Calls Try.prog 14 #[.pointer (some ⟨b, 0, none⟩), .int .u16 x] w fun e w' => e = .returned (.tuple #[]) ∧ Only b s'.c w w') ∧
    (∀ b w, w.heap[b]? = some s.r → Calls Try.prog 15 #[.pointer (some ⟨b, 0, none⟩), .int .u16 x] w fun e w' => e = .returned (.tuple #[]) ∧ Only b s'.r w w') := by
  obtain ⟨n, rfl⟩ := Int.eq_ofNat_of_zero_le x0
  have hn : n < 65536 := by omega
  have e : Go.bits .and .u16 (n : Int) 1023 = ((n &&& 1023 : Nat) : Int) := and16 n 1023 hn (by decide)
  have lk : n &&& 1023 < 2 ^ 10 := Nat.and_lt_two_pow _ (by decide)
  have same : ∀ j, j < 10 → tb ((n &&& 1023 : Nat) : Int) j = tb n j := fun j hj => by
    rw [tb_nat, tb_nat, Nat.testBit_and, show 1023 = 2 ^ 10 - 1 from rfl, Nat.testBit_two_pow_sub_one, decide_eq_true hj]; simp
  have asks : asksR s.wa (tb n) = asksR s.wa (tb ((n &&& 1023 : Nat) : Int)) := by
    unfold asksR
    have h1 : someK s.wa (tb n) 10 = someK s.wa (tb ((n &&& 1023 : Nat) : Int)) 10 := by
      unfold someK
      rw [Bool.eq_iff_iff, List.any_eq_true, List.any_eq_true]
      exact exists_congr fun i => and_congr_right fun hi => by rw [same i (List.mem_range.1 hi)]
    have h2 : allK s.wa (tb n) 10 = allK s.wa (tb ((n &&& 1023 : Nat) : Int)) 10 := by
      unfold allK
      rw [Bool.eq_iff_iff, List.all_eq_true, List.all_eq_true]
      exact forall_congr' fun i => imp_congr_right fun hi => by rw [same i (List.mem_range.1 hi)]
    rw [h1, h2]
  refine ⟨⟨s.en, _, n &&& 1023, s.wa, s.ms, s.he, pad_lt s.fl (asksR s.wa (tb ((n &&& 1023 : Nat) : Int))) s.hf, lk, s.hw⟩, fun b w h => ?_, fun b w h => ?_⟩
  · have := Iw.keys_any b _ _ _ _ _ (n : Int) w h
    rw [e, press_eq _ _ _ s.hf lk s.hw] at this
    exact this
  · refine (press_any b _ _ _ _ (n : Int) _ w (by omega) (by have := s.hw; omega) x0 x1 h).mono fun e w' hh => ⟨hh.1, hh.2.to ?_⟩
    rw [asks]
    exact rc_congr (fun _ _ => rfl) (fun j _ => pad_bits _ _ j) (fun j hj => (same j hj).symm) rfl rfl
theorem write_both (s : St) (at_ x : Int) (x0 : 0 ≤ x) (x1 : x < 65536) : ∃ s' : St, (∀ b w, w.heap[b]? = some s.c → Calls Try.prog 9 #[.pointer (some ⟨b, 0, none⟩), .int .i64 at_, .int .u16 x] w fun e w' => e = .returned (.tuple #[]) ∧ Only b s'.c w w') ∧
    (∀ b w, w.heap[b]? = some s.r → Calls Try.prog 13 #[.pointer (some ⟨b, 0, none⟩), .int .i64 at_, .int .u16 x] w fun e w' => e = .returned (.tuple #[]) ∧ Only b s'.r w w') := by
  by_cases a1 : at_ = 306
  · subst a1
    obtain ⟨n, rfl⟩ := Int.eq_ofNat_of_zero_le x0
    have hn : n < 65536 := by omega
    have e : Go.bits .and .u16 (n : Int) 50175 = ((n &&& 50175 : Nat) : Int) := and16 n 50175 hn (by decide)
    have lw : n &&& 50175 < 65536 := Nat.and_lt_two_pow (n := 16) _ (by decide)
    refine ⟨⟨s.en, _, s.ke, n &&& 50175, s.ms, s.he, pad_lt s.fl (asksR ((n &&& 50175 : Nat) : Int) (tb s.ke)) s.hf, s.hk, lw⟩, fun b w h => ?_, fun b w h => ?_⟩
    · have := Ix.write_306 b _ _ _ _ _ (n : Int) w h
      rw [e, press_eq _ _ _ s.hf s.hk lw] at this
      exact this
    · have := write_306 b _ _ _ _ (n : Int) _ w x0 x1 h
      rw [e] at this
      refine this.mono fun e w' hh => ⟨hh.1, hh.2.to ?_⟩
      exact rc_congr (fun _ _ => rfl) (fun j _ => pad_bits _ _ j) (fun j hj => rfl) rfl rfl
  by_cases a2 : at_ = 512
  · subst a2
    obtain ⟨n, rfl⟩ := Int.eq_ofNat_of_zero_le x0
    have hn : n < 65536 := by omega
    have e : Go.bits .and .u16 (n : Int) 16383 = ((n &&& 16383 : Nat) : Int) := and16 n 16383 hn (by decide)
    refine ⟨⟨n &&& 16383, s.fl, s.ke, s.wa, s.ms, Nat.and_lt_two_pow _ (by decide), s.hf, s.hk, s.hw⟩, fun b w h => ?_, fun b w h => ?_⟩
    · have := Ix.write_512 b _ _ _ _ _ (n : Int) w h
      rw [e] at this
      exact this
    · refine (write_512 b _ _ _ _ (n : Int) _ w x0 x1 h).mono fun e w' hh => ⟨hh.1, hh.2.to ?_⟩
      refine rc_congr (fun j hj => ?_) (fun j _ => rfl) (fun j hj => rfl) rfl rfl
      rw [tb_nat, tb_nat, Nat.testBit_and, show 16383 = 2 ^ 14 - 1 from rfl, Nat.testBit_two_pow_sub_one, decide_eq_true hj]; simp
  by_cases a3 : at_ = 514
  · subst a3
    obtain ⟨n, rfl⟩ := Int.eq_ofNat_of_zero_le x0
    have hn : n < 65536 := by omega
    have e : Go.bits .andNot .u16 (s.fl : Int) (n : Int) = ((s.fl ^^^ (s.fl &&& n) : Nat) : Int) := andNot16 _ n (by have := s.hf; omega) hn
    have l : s.fl ^^^ (s.fl &&& n) < 2 ^ 14 := Nat.xor_lt_two_pow s.hf (Nat.lt_of_le_of_lt Nat.and_le_left s.hf)
    refine ⟨⟨s.en, s.fl ^^^ (s.fl &&& n), s.ke, s.wa, s.ms, s.he, l, s.hk, s.hw⟩, fun b w h => ?_, fun b w h => ?_⟩
    · have := Ix.write_514 b _ _ _ _ _ (n : Int) w h
      rw [e] at this
      exact this
    · refine (write_514 b _ _ _ _ (n : Int) _ w x0 x1 h).mono fun e w' hh => ⟨hh.1, hh.2.to ?_⟩
      refine rc_congr (fun j hj => rfl) (fun j _ => ?_) (fun j hj => rfl) rfl rfl
      unfold strike
      rw [tb_nat, tb_nat, tb_nat, Nat.testBit_xor, Nat.testBit_and]
      cases s.fl.testBit j <;> cases n.testBit j <;> rfl
  by_cases a4 : at_ = 520
  · subst a4
    obtain ⟨n, rfl⟩ := Int.eq_ofNat_of_zero_le x0
    have hn : n < 65536 := by omega
    have e : (Go.bits .and .u16 (n : Int) 1 == 1) = tb n 0 := by
      rw [show (1 : Int) = ((1 : Nat) : Int) from rfl, and16 n 1 hn (by decide), Nat.and_one_is_mod, tb_nat, Nat.testBit_eq_decide_div_mod_eq]
      have : n % 2 = 0 ∨ n % 2 = 1 := by omega
      rw [Nat.pow_zero, Nat.div_one]
      rcases this with e | e <;> rw [e] <;> rfl
    refine ⟨⟨s.en, s.fl, s.ke, s.wa, tb n 0, s.he, s.hf, s.hk, s.hw⟩, fun b w h => ?_, fun b w h => write_520 b _ _ _ _ (n : Int) _ w x0 x1 h⟩
    have := Ix.write_520 b _ _ _ _ _ (n : Int) w h
    rw [e] at this
    exact this
  exact ⟨s, fun b w h => Ix.write_else b _ _ _ _ _ _ _ w a1 a2 a3 a4 h, fun b w h => (write_else b at_ x w a1 a2 a3 a4).mono fun e w' hh => ⟨hh.1, hh.2 ▸ Only.refl h⟩⟩
end Go.Proofs.Ytmpphmlibcdnhaa.It
