/- BankEnters, walked. -/
import Derived.Test.YtajbankfnnlocaaBh
import Derived.ChangeKeysEq
import Derived.Laws.StructEq
namespace Go.Proofs.Ytajbankfnnlocaa.Bi
set_option linter.unusedVariables false
set_option linter.unusedSimpArgs false
open Go.RowKit Go.Proofs.Ytajbankfnnlocaa.Bt Go.Proofs.Ytajbankfnnlocaa.Wk Go.Proofs.Ytajbankfnnlocaa.Sg Go.Proofs.Ytajbankfnnlocaa.Ba Go.Proofs.Ytajbankfnnlocaa.Bb Go.Proofs.Ytajbankfnnlocaa.Bc Go.Proofs.Ytajbankfnnlocaa.Bd Go.Proofs.Ytajbankfnnlocaa.Be Go.Proofs.Ytajbankfnnlocaa.Bf Go.Proofs.Ytajbankfnnlocaa.Bg Go.Proofs.Ytajbankfnnlocaa.Bh

/-! ### an exception's status word -/
theorem tb_div (n k : Nat) : ((n : Int) / 2 ^ k % 2 == 1) = n.testBit k := by
  rw [Nat.testBit_eq_decide_div_mod_eq, show ((2 : Int) ^ k) = ((2 ^ k : Nat) : Int) from (Int.natCast_pow 2 k).symm, ← Int.natCast_ediv]
  have : n / 2 ^ k % 2 = 0 ∨ n / 2 ^ k % 2 = 1 := by omega
  rcases this with h | h
  · have : ((n / 2 ^ k : Nat) : Int) % 2 = 0 := by omega
    rw [h, this]; rfl
  · have : ((n / 2 ^ k : Nat) : Int) % 2 = 1 := by omega
    rw [h, this]; rfl
theorem ent_bit (a b k : Nat) : (((a ^^^ (a &&& 191)) ||| (b &&& 31)) ||| 128).testBit k = ((a.testBit k && !Nat.testBit 191 k) || (b.testBit k && Nat.testBit 31 k) || Nat.testBit 128 k) := by
  simp only [Nat.testBit_or, Nat.testBit_and, Nat.testBit_xor]
  cases a.testBit k <;> cases Nat.testBit 191 k <;> simp
theorem ent_low (a b : Nat) : (((a ^^^ (a &&& 191)) ||| (b &&& 31)) ||| 128) % 32 = b % 32 := by
  rw [show 32 = 2 ^ 5 from rfl]
  apply Nat.eq_of_testBit_eq
  intro i
  rw [Nat.testBit_mod_two_pow, Nat.testBit_mod_two_pow, ent_bit]
  by_cases c : i < 5
  · have : i = 0 ∨ i = 1 ∨ i = 2 ∨ i = 3 ∨ i = 4 := by omega
    rcases this with rfl | rfl | rfl | rfl | rfl <;> simp [show Nat.testBit 191 0 = true from rfl, show Nat.testBit 191 1 = true from rfl, show Nat.testBit 191 2 = true from rfl, show Nat.testBit 191 3 = true from rfl, show Nat.testBit 191 4 = true from rfl, show Nat.testBit 31 0 = true from rfl, show Nat.testBit 31 1 = true from rfl, show Nat.testBit 31 2 = true from rfl, show Nat.testBit 31 3 = true from rfl, show Nat.testBit 31 4 = true from rfl, show Nat.testBit 128 0 = false from rfl, show Nat.testBit 128 1 = false from rfl, show Nat.testBit 128 2 = false from rfl, show Nat.testBit 128 3 = false from rfl, show Nat.testBit 128 4 = false from rfl]
  · simp [c]
theorem ent_top (a b k : Nat) (hk : 28 ≤ k) : (((a ^^^ (a &&& 191)) ||| (b &&& 31)) ||| 128).testBit k = a.testBit k := by
  rw [ent_bit]
  have z : ∀ m, m < 2 ^ 8 → Nat.testBit m k = false := fun m h => Nat.testBit_lt_two_pow (Nat.lt_of_lt_of_le h (Nat.pow_le_pow_right (by decide) (by omega)))
  rw [z 191 (by decide), z 31 (by decide), z 128 (by decide)]; simp
/-- All that the law asks of it. -/
theorem ent_facts (old m : Int) (h0 : 0 ≤ old) (h1 : old < 4294967296) (m0 : 0 ≤ m) (m1 : m < 4294967296) :
    entW old m % 32 = m % 32 ∧ entW old m / 32 % 2 = 0 ∧ entW old m / 128 % 2 = 1 ∧ flagsV (entW old m) = flagsV old := by
  obtain ⟨_, _, a, b, rfl, rfl, e⟩ := entW_in old m h0 h1 m0 m1
  rw [e]
  have l := ent_low a b
  have t5 : (((a ^^^ (a &&& 191)) ||| (b &&& 31)) ||| 128).testBit 5 = false := by
    rw [ent_bit, show Nat.testBit 191 5 = true from rfl, show Nat.testBit 31 5 = false from rfl, show Nat.testBit 128 5 = false from rfl]; simp
  have t7 : (((a ^^^ (a &&& 191)) ||| (b &&& 31)) ||| 128).testBit 7 = true := by
    rw [ent_bit, show Nat.testBit 128 7 = true from rfl]; simp
  have f28 := ent_top a b 28 (by decide)
  have f29 := ent_top a b 29 (by decide)
  have f30 := ent_top a b 30 (by decide)
  have f31 := ent_top a b 31 (by decide)
  generalize ((a ^^^ (a &&& 191)) ||| (b &&& 31)) ||| 128 = n at *
  rw [← tb_div] at t5 t7
  refine ⟨by omega, ?_, ?_, ?_⟩
  · have : (n : Int) / 2 ^ 5 % 2 = 0 ∨ (n : Int) / 2 ^ 5 % 2 = 1 := by omega
    rcases this with h | h
    · exact h
    · rw [h] at t5; exact absurd t5 (by decide)
  · exact eq_of_beq t7
  · unfold flagsV
    rw [← tb_div, ← tb_div] at f28 f29 f30 f31
    rw [show (2147483648 : Int) = 2 ^ 31 from rfl, show (1073741824 : Int) = 2 ^ 30 from rfl, show (536870912 : Int) = 2 ^ 29 from rfl, show (268435456 : Int) = 2 ^ 28 from rfl, f28, f29, f30, f31]
theorem sl_mod (x y : Int) (h : x % 32 = y % 32) : sl x = sl y := by unfold sl; rw [h]
theorem ent_st (A : Ab) (m to : Int) : (enterA A m to).st = entW A.st m := by
  unfold enterA setAb setSavedA setStA
  split <;> rfl
theorem ent_get (A : Ab) (m to : Int) : getA (enterA A m to) 14 = to := by
  unfold getA
  rw [ent_st]
  unfold enterA setAb upd2
  have : (setSavedA (setStA A (entW A.st m)) A.st).st = entW A.st m := by unfold setSavedA setStA; split <;> rfl
  simp only [this]
  rw [if_pos (by simp)]
theorem ent_saved (A : Ab) (m to : Int) (h : sl (entW A.st m) ≠ 0) : savedA (enterA A m to) = A.st := by
  unfold savedA
  rw [ent_st, if_neg h]
  unfold enterA setAb setSavedA
  rw [show (setStA A (entW A.st m)).st = entW A.st m from rfl, if_neg h]
  exact upd_same _ _ _
theorem ent_user (A : Ab) (m to : Int) (k : Nat) (h : k ≠ 14 ∨ sl (entW A.st m) ≠ 0) : (enterA A m to).R 0 k = A.R 0 k := by
  have hs : (setSavedA (setStA A (entW A.st m)) A.st).st = entW A.st m := by unfold setSavedA setStA; split <;> rfl
  have hr : (setSavedA (setStA A (entW A.st m)) A.st).R = A.R := by unfold setSavedA setStA; split <;> rfl
  unfold enterA setAb upd2
  simp only [hs, hr]
  rw [if_neg]
  rintro ⟨a, b⟩
  subst b
  rcases h with h | h
  · exact h rfl
  · exact h a.symm
theorem flags_same (a b c d : Bool) (w : World) : (Op.equalIn 10000 49 (.agg #[.bool a, .bool b, .bool c, .bool d]) (.agg #[.bool a, .bool b, .bool c, .bool d])).run Try.prog w = .ok true w := by
  rw [run_equalIn_agg (P := Try.prog) w 9999 49 _ _ (by kernel_rfl) (by kernel_rfl)]
  go_simp
def upto (f : Nat → Int) (k : Nat) : Nat → Int := fun j => if j < k then f j else 0
theorem upto_succ (f : Nat → Int) (k : Nat) : upd (upto f k) k (f k) = upto f (k + 1) := by
  funext j
  unfold upd upto
  by_cases e : j = k
  · subst e; rw [if_pos rfl, if_pos (by omega)]
  · rw [if_neg e]
    by_cases l : j < k
    · rw [if_pos l, if_pos (by omega)]
    · rw [if_neg l, if_neg (by omega)]
theorem nb_nat (k : Nat) (h : k < 16) : nb (k : Int) = k := by unfold nb; omega
set_option maxRecDepth 100000 in
set_option maxHeartbeats 8000000 in
theorem enters_law (AA : Option Addr) (n cap : Nat) (f0 f1 f2 : Nat → Int) (m to : Int) (w : World) (hc : n ≤ cap) (hm : cap ≤ maxLen)
    (he : Elts w AA n 3 (fun i => [.int .i64 (f0 i), .int .i64 (f1 i), .int .u32 (f2 i)]))
    (hf : ∀ i, i < n → (Lit.int .i64 (f0 i)).wf = true ∧ (Lit.int .i64 (f1 i)).wf = true ∧ (Lit.int .u32 (f2 i)).wf = true ∧ True) (h1 : (Lit.int .u32 m).wf = true) (h2 : (Lit.int .u32 to).wf = true) :
    Calls Try.prog 6 #[.slice AA n cap, .int .u32 m, .int .u32 to] w fun e w' => e = .returned (.bool true) ∧ Below w.heap.size w w' := by
  unfold maxLen at hm
  obtain ⟨m0, m1⟩ := bounds_u32 h1
  obtain ⟨t0, t1⟩ := bounds_u32 h2
  have HE := Lib.hid he
  have HF := Lib.hid hf
  clear he hf h1 h2
  by_cases h300 : 300 < n
  · have d : decide (300 < (n : Int)) = true := decide_eq_true (by omega)
    go_enter Try.func6, Try.ntmps6
    go_wp2_with fail
    refine (awake_any _).mono ?_
    rintro e w0 ⟨rfl, hb0⟩
    go_wp2
    go_ret
    exact ⟨rfl, hb0⟩
  have d : decide (300 < (n : Int)) = false := decide_eq_false (by omega)
  go_enter Try.func6, Try.ntmps6
  go_wp2_with fail
  refine (awake_any _).mono ?_
  rintro e w0 ⟨rfl, hb0⟩
  go_wp2_with fail
  refine (new_abs _).mono ?_
  rintro e w1 ⟨rfl, rfl⟩
  go_wp2_with fail
  have hz0 := hb0.size
  have hA := Lib.hid (new_at w0)
  have hb : Below w.heap.size w (w0.alloc (bk newP)) := hb0.alloc hz0 _
  clear hb0
  generalize w0.alloc (bk newP) = w1 at *
  generalize hBC : w0.heap.size = BB at *
  clear hBC
  go_loopw [22] (fun i wr => ∃ (k : Nat) (A : Ab) (P : Bk), k ≤ n ∧ i = .int .i64 k ∧ Below w.heap.size w wr ∧ Hid (At BB A P wr)) (fun i _ => n - (intOf i).toNat)
  case atStart => exact ⟨0, newA, newP, by omega, rfl, hb, hA⟩
  case round =>
    clear hb hA
    obtain ⟨k, A, P, hk, rfl, hb, hA⟩ := hrel
    by_cases hkn : k < n
    · obtain ⟨a, rfl, hal, hcell⟩ := HE.out.cells hb hkn
      obtain ⟨_, _, hx, _⟩ := HF.out k hkn
      obtain ⟨x0, x1⟩ := bounds_u32 hx
      have ha : (a.add (k * 3)).block < wr.heap.size := Nat.lt_of_lt_of_le hal hb.size
      have g0 : wr.cell? (a.add (k * 3)) = some (.int .i64 (f0 k)) := hcell 0 (by decide)
      have g1 : wr.cell? ⟨(a.add (k * 3)).block, (a.add (k * 3)).off + 1, none⟩ = some (.int .i64 (f1 k)) := hcell 1 (by decide)
      have g2 : wr.cell? ⟨(a.add (k * 3)).block, (a.add (k * 3)).off + 2, none⟩ = some (.int .u32 (f2 k)) := hcell 2 (by decide)
      clear hcell hx
      generalize f0 k = y0 at *
      generalize f1 k = y1 at *
      generalize f2 k = y2 at *
      have D := Lib.hid (do_abs BB y0 y1 y2 x0 (by omega) A P _ (at_alloc hA.out (.cells #[.int .i64 y0, .int .i64 y1, .int .u32 y2] 36)))
      have hb' := Lib.hid (hb.alloc hb.size (.cells #[.int .i64 y0, .int .i64 y1, .int .u32 y2] 36))
      go_wp2_with fail
      refine D.out.mono ?_
      rintro e w2 ⟨rfl, g⟩
      obtain ⟨Q, q⟩ := g.at_
      have qH := Lib.hid q
      have gH := Lib.hid g
      clear q g
      go_wp2
      go_roundw
      case rel => exact ⟨k + 1, _, Q, by omega, by go_num, Got.below hb'.out gH.out hz0 hb'.out.size, qH⟩
      case measure => simp [intOf]; omega
    · obtain rfl : k = n := by omega
      have SA := Lib.hid (status_abs BB A P wr hA.out)
      go_wp2_with (go_at_call 22; refine SA.out.mono ?_; rintro e w' ⟨rfl, rfl⟩)
      have hz : w.heap.size ≤ wr.heap.size := hb.size
      have bb : BB < wr.heap.size := sizeAt hA.out.hs
      have hb2 : Below w.heap.size w (wr.alloc (.cells (seg 16 (u (upto (A.R 0) 0))).toArray 38)) := hb.alloc hb.size _
      have a2 := Lib.hid (at_alloc hA.out (.cells (seg 16 (u (upto (A.R 0) 0))).toArray 38))
      have u2 : (wr.alloc (.cells (seg 16 (u (upto (A.R 0) 0))).toArray 38)).heap[wr.heap.size]? = some (.cells (seg 16 (u (upto (A.R 0) 0))).toArray 38) := alloc_new _ _
      have u2H := Lib.hid u2
      clear u2 SA
      change Code.wp _ _ _ _ (wr.alloc (.cells (seg 16 (u (upto (A.R 0) 0))).toArray 38))
      generalize wr.alloc (.cells (seg 16 (u (upto (A.R 0) 0))).toArray 38) = w3 at *
      generalize hBU : wr.heap.size = BU at *
      clear hBU hA hb
      go_loopw [32] (fun i wr => ∃ k : Nat, k ≤ 16 ∧ i = .int .i64 k ∧ Below w.heap.size w wr ∧ Hid (At BB A P wr) ∧ Hid (wr.heap[BU]? = some (.cells (seg 16 (u (upto (A.R 0) k))).toArray 38))) (fun i _ => 16 - (intOf i).toNat)
      case atStart => exact ⟨0, by omega, rfl, hb2, a2, u2H⟩
      case round =>
        clear hb2 a2 u2H
        obtain ⟨j, hj, rfl, hb, hA, hU⟩ := hrel
        by_cases hj16 : j < 16
        · have U := user_abs BB (j : Int) A P wr hA.out
          rw [nb_nat j hj16] at U
          have UH := Lib.hid U
          have c : wr.cell? ⟨BU, j, none⟩ = some (.int .u32 (upto (A.R 0) j j)) := (cellsAt hU.out _).trans (by rw [toArray_at]; exact seg_at _ hj16)
          have F := freeAt hU.out
          have hn : BU ≠ BB := by omega
          have nx : (wr.setCell ⟨BU, j, none⟩ (.int .u32 (A.R 0 j))).heap[BU]? = some (.cells (seg 16 (u (upto (A.R 0) (j + 1)))).toArray 38) := by
            have := set_at (j := j) (.int .u32 (A.R 0 j)) hU.out
            rw [toArray_set, seg_set, updu, upto_succ] at this
            exact this
          have ax : At BB A P (wr.setCell ⟨BU, j, none⟩ (.int .u32 (A.R 0 j))) := ⟨set_ne _ (fun e => hn e.symm) hA.out.hs, hA.out.rep, hA.out.c0, hA.out.c1⟩
          have nxH := Lib.hid nx
          have axH := Lib.hid ax
          clear U nx ax
          go_wp2_with (go_at_call 15; refine UH.out.mono ?_; rintro e w' ⟨rfl, rfl⟩)
          go_roundw
          case rel => exact ⟨j + 1, by omega, by go_num, hb.setCell hz _, axH, nxH⟩
          case measure => simp [intOf]; omega
        · obtain rfl : j = 16 := by omega
          have E := Lib.hid (enter_abs BB m to m0 (by omega) A P wr hA.out)
          obtain ⟨q1, q2, q3, q4⟩ := ent_facts A.st m hA.out.c0 hA.out.c1 m0 (by omega)
          obtain ⟨E0, E1, _⟩ := entW_in A.st m hA.out.c0 hA.out.c1 m0 (by omega)
          have b1 : Go.bits .and .u32 (entW A.st m) 31 = m % 32 := by rw [and_u E0 E1 5 (by decide) 31 (by decide) 32 (by decide), q1]
          have b2 : Go.bits .and .u32 m 31 = m % 32 := and_u m0 (by omega) 5 (by decide) 31 (by decide) 32 (by decide)
          have b3 : Go.bits .and .u32 (entW A.st m / 32) 1 = 0 := by rw [and_u (by omega) (by omega) 1 (by decide) 1 (by decide) 2 (by decide), q2]
          have b4 : Go.bits .and .u32 (entW A.st m / 128) 1 = 1 := by rw [and_u (by omega) (by omega) 1 (by decide) 1 (by decide) 2 (by decide), q3]
          have hsl : sl (entW A.st m) = sl m := sl_mod _ _ q1
          have FE : ∀ w, Calls Try.prog 28 #[.int .u32 (entW A.st m)] w fun e w' => e = .returned (.agg (flagsV A.st)) ∧ Below w.heap.size w w' := fun w => by rw [← q4]; exact flags_any _ E0 E1 w
          have FO : ∀ w, Calls Try.prog 28 #[.int .u32 A.st] w fun e w' => e = .returned (.agg (flagsV A.st)) ∧ Below w.heap.size w w' := fun w => flags_any _ hA.out.c0 hA.out.c1 w
          unfold flagsV at FE FO
          have FEH := Lib.hid FE
          have FOH := Lib.hid FO
          have KH := Lib.hid (fun w => kind_any m m0 (by omega) w)
          have UU := Lib.hid hU
          have es := Lib.hid (ent_st A m to)
          have eg := Lib.hid (ent_get A m to)
          have ev := Lib.hid (ent_saved A m to)
          have eu := Lib.hid (ent_user A m to)
          have KS := Lib.hid (kd_sl m 0)
          have SL := Lib.hid hsl
          clear FE FO q1 q2 q3 q4 E0 E1 hsl
          go_wp2_with fail
          refine E.out.mono ?_
          rintro e w4 ⟨rfl, g⟩
          have hb4 := Got.below hb g hz0 hb.size
          have hU4 := Lib.hid (g.keep hU.out (by omega))
          obtain ⟨Q, q⟩ := g.at_
          have G14 := get_abs BB 14 _ Q w4 q
          rw [show nb 14 = 14 from rfl, eg.out] at G14
          have ST := status_abs BB _ Q w4 q
          rw [es.out] at ST
          have qH := Lib.hid q
          have G14H := Lib.hid G14
          have STH := Lib.hid ST
          clear q g G14 ST
          have hs4 := sizeAt qH.out.hs
          have nU := sizeAt hU4.out
          have EQ := fun a b c d w => flags_same a b c d w
          generalize (A.st / 2147483648 % 2 == 1) = fn at *
          generalize (A.st / 1073741824 % 2 == 1) = fz at *
          generalize (A.st / 536870912 % 2 == 1) = fc at *
          generalize (A.st / 268435456 % 2 == 1) = fv at *
          go_wp2_with (first | (go_at_call 13; (with_reducible refine G14H.out.mono ?_); rintro e w' ⟨rfl, rfl⟩) | (go_at_call 22; (with_reducible refine STH.out.mono ?_); rintro e w' ⟨rfl, rfl⟩))
          refine (FEH.out _).mono ?_
          rintro e w5 ⟨rfl, hb5⟩
          go_wp2_with fail
          refine (FOH.out _).mono ?_
          rintro e w6 ⟨rfl, hb6⟩
          have q6 : At BB (enterA A m to) Q w6 := ⟨keep hb6 (keep hb5 qH.out.hs), qH.out.rep, qH.out.c0, qH.out.c1⟩
          have hU6 := Lib.hid (keep hb6 (keep hb5 hU4.out))
          have hb6' := Lib.hid (below_then (below_then hb4 hb5 hb4.size) hb6 (Nat.le_trans hb4.size hb5.size))
          have V := saved_abs BB _ Q w6 q6
          have qH6 := Lib.hid q6
          clear q6 hb5 hb6 hb4
          have KHq := Lib.hid (fun w => flip (KH.out w))
          by_cases hk0 : kd m = 0
          · have hk' : (kd m != 0) = false := by simpa using hk0
            have KH0 := KH.out
            rw [hk0] at KH0
            have KH0H := Lib.hid KH0
            have KHq := Lib.hid (fun w => flip (KH0 w))
            clear KH0 V
            go_wp2_with (go_at_call 26; refine (KH0H.out _).mono ?_; rintro e w' ⟨rfl, rfl⟩)
            go_loopw [88] (fun i wr => ∃ k n : Nat, k ≤ 16 ∧ i = .int .i64 k ∧ wr = w6.drewN n) (fun i _ => 16 - (intOf i).toNat)
            case atStart => exact ⟨0, 0, by omega, rfl, rfl⟩
            case round =>
              obtain ⟨j, nn, hj, rfl, rfl⟩ := hrel
              have jz : 0 ≤ (j : Int) := by omega
              by_cases hj16 : j < 16
              · have c : w6.cell? ⟨BU, j, none⟩ = some (.int .u32 (A.R 0 j)) := (cellsAt hU6.out _).trans (by rw [toArray_at, seg_at _ hj16]; show some (Value.int .u32 (upto (A.R 0) 16 j)) = _; rw [show upto (A.R 0) 16 j = A.R 0 j from if_pos hj16])
                have jl : (j : Int) < 16 := by omega
                have U := fun nn => user_abs BB (j : Int) _ Q (w6.drewN nn) (At.drewN qH6.out nn)
                rw [nb_nat j hj16] at U
                by_cases h14 : j = 14
                · subst h14
                  generalize (enterA A m to).R 0 14 = v2 at *
                  generalize A.R 0 14 = v1 at *
                  by_cases hv : v2 = v1
                  · subst hv
                    have UH := Lib.hid (fun nn => flip (U nn))
                    clear U
                    go_wp2_with fail
                    go_quiet ((first | (go_at_call 15; exact quiet_add_same (UH.out _)) | (go_at_call 26; exact quiet_add_same (KHq.out _))))
                    go_wp2
                    go_roundw
                    case rel => exact ⟨15, _, by omega, rfl, rfl⟩
                    case measure => simp [intOf]
                  · have hv' : (v2 != v1) = true := by simpa using hv
                    have UH := Lib.hid (fun nn => flip (U nn))
                    clear U
                    go_wp2_with fail
                    go_quiet ((first | (go_at_call 15; exact quiet_add_same (UH.out _)) | (go_at_call 26; exact quiet_add_same (KHq.out _))))
                    go_wp2
                    go_roundw
                    case rel => exact ⟨15, _, by omega, rfl, rfl⟩
                    case measure => simp [intOf]
                · rw [eu.out j (.inl h14)] at U
                  have UH := Lib.hid (fun nn => flip (U nn))
                  clear U
                  go_wp2_with fail
                  go_quiet ((first | (go_at_call 15; exact quiet_add_same (UH.out _)) | (go_at_call 26; exact quiet_add_same (KHq.out _))))
                  go_wp2
                  go_roundw
                  case rel => exact ⟨j + 1, _, by omega, by go_num, rfl⟩
                  case measure => simp [intOf]; omega
              · obtain rfl : j = 16 := by omega
                go_wp2
                go_ret
                exact ⟨rfl, below_dn hb6'.out _⟩
          · have hk' : (kd m != 0) = true := by simpa using hk0
            have hsn : sl (entW A.st m) ≠ 0 := by rw [SL.out]; exact fun e => hk0 ((kd_sl m 0).2.2 e)
            rw [ev.out hsn] at V
            have VH := Lib.hid V
            clear V
            go_wp2_with (first | (go_at_call 26; refine (KH.out _).mono ?_; rintro e w' ⟨rfl, rfl⟩) | (go_at_call 14; refine VH.out.mono ?_; rintro e w' ⟨rfl, rfl⟩))
            go_loopw [88] (fun i wr => ∃ k n : Nat, k ≤ 16 ∧ i = .int .i64 k ∧ wr = w6.drewN n) (fun i _ => 16 - (intOf i).toNat)
            case atStart => exact ⟨0, 0, by omega, rfl, rfl⟩
            case round =>
              obtain ⟨j, nn, hj, rfl, rfl⟩ := hrel
              have jz : 0 ≤ (j : Int) := by omega
              by_cases hj16 : j < 16
              · have c : w6.cell? ⟨BU, j, none⟩ = some (.int .u32 (A.R 0 j)) := (cellsAt hU6.out _).trans (by rw [toArray_at, seg_at _ hj16]; show some (Value.int .u32 (upto (A.R 0) 16 j)) = _; rw [show upto (A.R 0) 16 j = A.R 0 j from if_pos hj16])
                have jl : (j : Int) < 16 := by omega
                have U := fun nn => user_abs BB (j : Int) _ Q (w6.drewN nn) (At.drewN qH6.out nn)
                rw [nb_nat j hj16] at U
                rw [eu.out j (.inr hsn)] at U
                have UH := Lib.hid (fun nn => flip (U nn))
                clear U
                go_wp2_with fail
                go_quiet ((first | (go_at_call 15; exact quiet_add_same (UH.out _)) | (go_at_call 26; exact quiet_add_same (KHq.out _))))
                go_wp2
                go_roundw
                case rel => exact ⟨j + 1, _, by omega, by go_num, rfl⟩
                case measure => simp [intOf]; omega
              · obtain rfl : j = 16 := by omega
                go_wp2
                go_ret
                exact ⟨rfl, below_dn hb6'.out _⟩
end Go.Proofs.Ytajbankfnnlocaa.Bi
