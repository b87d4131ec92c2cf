/- BankKeeps, walked. -/
import Derived.Test.YtajbankfnnlocaaBh
namespace Go.Proofs.Ytajbankfnnlocaa.Bj
set_option linter.unusedVariables false
set_option linter.unusedSimpArgs false
open Go.RowKit Go.Proofs.Ytajbankfnnlocaa.Bt Go.Proofs.Ytajbankfnnlocaa.Wk Go.Proofs.Ytajbankfnnlocaa.Sg Go.Proofs.Ytajbankfnnlocaa.Ba Go.Proofs.Ytajbankfnnlocaa.Bb Go.Proofs.Ytajbankfnnlocaa.Bc Go.Proofs.Ytajbankfnnlocaa.Bd Go.Proofs.Ytajbankfnnlocaa.Be Go.Proofs.Ytajbankfnnlocaa.Bf Go.Proofs.Ytajbankfnnlocaa.Bg Go.Proofs.Ytajbankfnnlocaa.Bh

/-- What a mode's own registers and its saved status are. -/
structure Kept (s : Nat) (a b c : Int) (A : Ab) : Prop where
  r3 : A.R s 13 = a
  r4 : A.R s 14 = b
  sv : s ≠ 0 → A.S s = c
theorem kept_st {s : Nat} {a b c : Int} {A : Ab} (h : Kept s a b c A) (x : Int) : Kept s a b c (setStA A x) := ⟨h.r3, h.r4, h.sv⟩
theorem kept_do {s : Nat} {a b c : Int} {A : Ab} (h : Kept s a b c A) (k i x : Int) (h1 : sl A.st ≠ s) (h2 : sl A.st ≠ 0) (k3 : k ≠ 3) (k4 : k ≠ 4) : Kept s a b c (doA A k i x) := by
  unfold doA
  by_cases c0 : k = 0
  · rw [if_pos c0]
    have ne : ∀ j, j = 13 ∨ j = 14 → ¬ (s = pm (sl A.st) (nb i) ∧ j = nb i) := by
      rintro j hj ⟨p, q⟩
      unfold pm at p
      rw [← q, if_pos (by omega)] at p
      exact h1 p.symm
    refine ⟨?_, ?_, h.sv⟩
    · show upd2 A.R (pm (sl A.st) (nb i)) (nb i) x s 13 = a
      unfold upd2; rw [if_neg (ne 13 (.inl rfl))]; exact h.r3
    · show upd2 A.R (pm (sl A.st) (nb i)) (nb i) x s 14 = b
      unfold upd2; rw [if_neg (ne 14 (.inr rfl))]; exact h.r4
  rw [if_neg c0]
  by_cases c1 : k = 1
  · rw [if_pos c1]; exact kept_st h x
  rw [if_neg c1]
  by_cases c2 : k = 2
  · rw [if_pos c2]
    unfold setSavedA
    rw [if_neg h2]
    refine ⟨h.r3, h.r4, fun hs => ?_⟩
    show upd A.S (sl A.st) x s = c
    rw [upd_ne _ _ (fun e => h1 e.symm)]
    exact h.sv hs
  rw [if_neg c2, if_neg k3, if_neg k4]
  exact h
theorem kept_of (A : Ab) (x : Int) : Kept (sl x) (getA (setStA A x) 13) (getA (setStA A x) 14) (savedA (setStA A x)) (setStA A x) :=
  ⟨rfl, rfl, fun h => by
    unfold savedA
    rw [show (setStA A x).st = x from rfl, if_neg h]⟩
theorem kept_back {A : Ab} {x a b c : Int} (h : Kept (sl x) a b c A) : getA (setStA A x) 13 = a ∧ getA (setStA A x) 14 = b ∧ (sl x ≠ 0 → savedA (setStA A x) = c) :=
  ⟨h.r3, h.r4, fun hs => by
    unfold savedA
    rw [show (setStA A x).st = x from rfl, if_neg hs]
    exact h.sv hs⟩
set_option maxRecDepth 100000 in
set_option maxHeartbeats 8000000 in
theorem keeps_law (AA : Option Addr) (n cap : Nat) (f0 f1 f2 : Nat → Int) (x : Int) (AB : Option Addr) (n' cap' : Nat) (e0 e1 e2 : Nat → Int) (w : World) (hc : n ≤ cap) (hm : cap ≤ maxLen)
    (he : Elts w AA n 3 (fun i => [.int .i64 (f0 i), .int .i64 (f1 i), .int .u32 (f2 i)]))
    (hf : ∀ i, i < n → (Lit.int .i64 (f0 i)).wf = true ∧ (Lit.int .i64 (f1 i)).wf = true ∧ (Lit.int .u32 (f2 i)).wf = true ∧ True) (hx : (Lit.int .u32 x).wf = true)
    (hc' : n' ≤ cap') (hm' : cap' ≤ maxLen)
    (he' : Elts w AB n' 3 (fun i => [.int .i64 (e0 i), .int .i64 (e1 i), .int .u32 (e2 i)]))
    (hf' : ∀ i, i < n' → (Lit.int .i64 (e0 i)).wf = true ∧ (Lit.int .i64 (e1 i)).wf = true ∧ (Lit.int .u32 (e2 i)).wf = true ∧ True) :
    Calls Try.prog 5 #[.slice AA n cap, .int .u32 x, .slice AB n' cap'] w fun e w' => e = .returned (.bool true) ∧ Below w.heap.size w w' := by
  unfold maxLen at hm hm'
  obtain ⟨x0, x1⟩ := bounds_u32 hx
  have HE := Lib.hid he
  have HF := Lib.hid hf
  have HE' := Lib.hid he'
  have HF' := Lib.hid hf'
  clear he hf he' hf' hx
  by_cases h300 : 300 < n'
  · have d : decide (300 < (n' : Int)) = true := decide_eq_true (by omega)
    go_enter Try.func5, Try.ntmps5
    go_wp2_with fail
    refine (awake_any _).mono ?_
    rintro e w0 ⟨rfl, hb0⟩
    go_wp2
    go_ret
    exact ⟨rfl, hb0⟩
  have d : decide (300 < (n' : Int)) = false := decide_eq_false (by omega)
  go_enter Try.func5, Try.ntmps5
  go_wp2_with fail
  refine (awake_any _).mono ?_
  rintro e w0 ⟨rfl, hb0⟩
  go_wp2_with fail
  refine (new_abs _).mono ?_
  rintro e w1 ⟨rfl, rfl⟩
  go_wp2_with fail
  have hz0 := hb0.size
  have hA := Lib.hid (new_at w0)
  have hb : Below w.heap.size w (w0.alloc (bk newP)) := hb0.alloc hz0 _
  clear hb0
  generalize w0.alloc (bk newP) = w1 at *
  generalize hBC : w0.heap.size = BB at *
  clear hBC
  go_loopw [23] (fun i wr => ∃ (k : Nat) (A : Ab) (P : Bk), k ≤ n ∧ i = .int .i64 k ∧ Below w.heap.size w wr ∧ Hid (At BB A P wr)) (fun i _ => n - (intOf i).toNat)
  case atStart => exact ⟨0, newA, newP, by omega, rfl, hb, hA⟩
  case round =>
    clear hb hA
    obtain ⟨k, A, P, hk, rfl, hb, hA⟩ := hrel
    by_cases hkn : k < n
    · obtain ⟨a, rfl, hal, hcell⟩ := HE.out.cells hb hkn
      obtain ⟨_, _, hx, _⟩ := HF.out k hkn
      obtain ⟨z0, z1⟩ := bounds_u32 hx
      have ha : (a.add (k * 3)).block < wr.heap.size := Nat.lt_of_lt_of_le hal hb.size
      have g0 : wr.cell? (a.add (k * 3)) = some (.int .i64 (f0 k)) := hcell 0 (by decide)
      have g1 : wr.cell? ⟨(a.add (k * 3)).block, (a.add (k * 3)).off + 1, none⟩ = some (.int .i64 (f1 k)) := hcell 1 (by decide)
      have g2 : wr.cell? ⟨(a.add (k * 3)).block, (a.add (k * 3)).off + 2, none⟩ = some (.int .u32 (f2 k)) := hcell 2 (by decide)
      clear hcell hx
      generalize f0 k = y0 at *
      generalize f1 k = y1 at *
      generalize f2 k = y2 at *
      have D := Lib.hid (do_abs BB y0 y1 y2 z0 (by omega) A P _ (at_alloc hA.out (.cells #[.int .i64 y0, .int .i64 y1, .int .u32 y2] 36)))
      have hb' := Lib.hid (hb.alloc hb.size (.cells #[.int .i64 y0, .int .i64 y1, .int .u32 y2] 36))
      go_wp2_with fail
      refine D.out.mono ?_
      rintro e w2 ⟨rfl, g⟩
      obtain ⟨Q, q⟩ := g.at_
      have qH := Lib.hid q
      have gH := Lib.hid g
      clear q g
      go_wp2
      go_roundw
      case rel => exact ⟨k + 1, _, Q, by omega, by go_num, Got.below hb'.out gH.out hz0 hb'.out.size, qH⟩
      case measure => simp [intOf]; omega
    · obtain rfl : k = n := by omega
      have S1 := Lib.hid (setStatus_abs BB x x0 (by omega) A P wr hA.out)
      go_wp2_with fail
      refine S1.out.mono ?_
      rintro e w2 ⟨rfl, g⟩
      obtain ⟨Q, q⟩ := g.at_
      have hb2 := Got.below hb g hz0 hb.size
      have G3 := Lib.hid (get_abs BB 13 _ Q w2 q)
      have G4 := Lib.hid (get_abs BB 14 _ Q w2 q)
      have GS := Lib.hid (saved_abs BB _ Q w2 q)
      have KK := Lib.hid (kept_of A x)
      have qH := Lib.hid q
      rw [show nb 13 = 13 from rfl] at G3
      rw [show nb 14 = 14 from rfl] at G4
      clear q g hb hA S1
      have SX : (setStA A x).st = x := rfl
      generalize getA (setStA A x) 13 = r13 at *
      generalize getA (setStA A x) 14 = r14 at *
      generalize savedA (setStA A x) = rsv at *
      generalize setStA A x = B at *
      go_wp2_with fail
      refine G3.out.mono ?_
      rintro e w' ⟨rfl, rfl⟩
      go_wp2_with fail
      refine G4.out.mono ?_
      rintro e w' ⟨rfl, rfl⟩
      go_wp2_with fail
      refine GS.out.mono ?_
      rintro e w' ⟨rfl, rfl⟩
      go_wp2_with fail
      clear G3 G4 GS SX
      go_loopw [42] (fun i wr => ∃ (k : Nat) (A : Ab) (P : Bk), k ≤ n' ∧ i = .int .i64 k ∧ Below w.heap.size w wr ∧ Hid (At BB A P wr) ∧ Hid (Kept (sl x) r13 r14 rsv A)) (fun i _ => n' - (intOf i).toNat)
      case atStart => exact ⟨0, B, Q, by omega, rfl, hb2, qH, KK⟩
      case round =>
        clear hb2 qH KK
        obtain ⟨j, A, P, hj, rfl, hb, hA, hK⟩ := hrel
        by_cases hjn : j < n'
        · obtain ⟨a, rfl, hal, hcell⟩ := HE'.out.cells hb hjn
          obtain ⟨_, _, hy, _⟩ := HF'.out j hjn
          obtain ⟨z0, z1⟩ := bounds_u32 hy
          have ha : (a.add (j * 3)).block < wr.heap.size := Nat.lt_of_lt_of_le hal hb.size
          have g0 : wr.cell? (a.add (j * 3)) = some (.int .i64 (e0 j)) := hcell 0 (by decide)
          have g1 : wr.cell? ⟨(a.add (j * 3)).block, (a.add (j * 3)).off + 1, none⟩ = some (.int .i64 (e1 j)) := hcell 1 (by decide)
          have g2 : wr.cell? ⟨(a.add (j * 3)).block, (a.add (j * 3)).off + 2, none⟩ = some (.int .u32 (e2 j)) := hcell 2 (by decide)
          clear hcell hy
          generalize e0 j = y0 at *
          generalize e1 j = y1 at *
          generalize e2 j = y2 at *
          have hAa := Lib.hid (at_alloc hA.out (.cells #[.int .i64 y0, .int .i64 y1, .int .u32 y2] 36))
          have hba := Lib.hid (hb.alloc hb.size (.cells #[.int .i64 y0, .int .i64 y1, .int .u32 y2] 36))
          have hxa := Lib.hid (alloc_new wr (.cells #[.int .i64 y0, .int .i64 y1, .int .u32 y2] 36))
          have bx : BB < wr.heap.size := sizeAt hA.out.hs
          by_cases hy1 : y0 = 1
          · have dy : (y0 == 1) = true := by simpa using hy1
            have hl1 : y0 ≤ 1 := by omega
            clear hy1
            have S2 := Lib.hid (setStatus_abs BB y2 z0 (by omega) A P _ hAa.out)
            go_wp2_with fail
            refine S2.out.mono ?_
            rintro e W1 ⟨rfl, g⟩
            obtain ⟨P1, q⟩ := g.at_
            have hb1 := Got.below hba.out g hz0 hba.out.size
            have hx1 := Lib.hid (g.keep hxa.out (by omega))
            have a1 := Lib.hid q
            have k1 := Lib.hid (kept_st hK.out y2)
            clear q g S2 hAa hba hxa hK hA hb g0 g1 g2 ha hal
            generalize setStA A y2 = A1 at *
            have X1 := cellsAt hx1.out
            have ST := Lib.hid (status_abs BB A1 P1 W1 a1.out)
            have KX := Lib.hid (fun w => kind_any x x0 (by omega) w)
            have KA := Lib.hid (fun w => kind_any A1.st a1.out.c0 a1.out.c1 w)
            have KS := Lib.hid (kd_sl A1.st x)
            have DO := Lib.hid (do_abs BB y0 y1 y2 z0 (by omega) A1 P1 W1 a1.out)
            have KD := Lib.hid (fun h1 h2 h3 h4 => kept_do k1.out y0 y1 y2 h1 h2 h3 h4)
            generalize kd A1.st = ka at *
            generalize kd x = kx at *
            by_cases q1 : ka = kx
            · have d1 : (ka != kx) = false := by simpa using q1
              clear q1
              go_wp2_with (first | (go_at_call 22; (with_reducible refine ST.out.mono ?_); rintro e w' ⟨rfl, rfl⟩) | (go_at_call 26; (with_reducible refine (KA.out _).mono ?_); rintro e w' ⟨rfl, rfl⟩) | (go_at_call 26; (with_reducible refine (KX.out _).mono ?_); rintro e w' ⟨rfl, rfl⟩))
              go_roundw
              case rel => exact ⟨j + 1, A1, P1, by omega, by go_num, hb1, a1, k1⟩
              case measure => simp [intOf]; omega
            have d1 : (ka != kx) = true := by simpa using q1
            by_cases q2 : ka = 0
            · have d2 : (ka != 0) = false := by simpa using q2
              clear q2 q1
              go_wp2_with (first | (go_at_call 22; (with_reducible refine ST.out.mono ?_); rintro e w' ⟨rfl, rfl⟩) | (go_at_call 26; (with_reducible refine (KA.out _).mono ?_); rintro e w' ⟨rfl, rfl⟩) | (go_at_call 26; (with_reducible refine (KX.out _).mono ?_); rintro e w' ⟨rfl, rfl⟩))
              go_roundw
              case rel => exact ⟨j + 1, A1, P1, by omega, by go_num, hb1, a1, k1⟩
              case measure => simp [intOf]; omega
            have d2 : (ka != 0) = true := by simpa using q2
            have q3 : y0 ≠ 3 := by omega
            have q4 : y0 ≠ 4 := by omega
            have d3 : (y0 != 3) = true := by simpa using q3
            have d4 : (y0 != 4) = true := by simpa using q4
            have kk := Lib.hid (KD.out (fun e => q1 (KS.out.1.2 e)) (fun e => q2 (KS.out.2.2 e)) q3 q4)
            clear q1 q2 q3 q4 KS KD
            go_wp2_with (first | (go_at_call 22; (with_reducible refine ST.out.mono ?_); rintro e w' ⟨rfl, rfl⟩) | (go_at_call 26; (with_reducible refine (KA.out _).mono ?_); rintro e w' ⟨rfl, rfl⟩) | (go_at_call 26; (with_reducible refine (KX.out _).mono ?_); rintro e w' ⟨rfl, rfl⟩))
            refine DO.out.mono ?_
            rintro e w5 ⟨rfl, g5⟩
            obtain ⟨Q5, q5⟩ := g5.at_
            have qH5 := Lib.hid q5
            have gH5 := Lib.hid g5
            clear q5 g5
            go_wp2
            go_roundw
            case rel => exact ⟨j + 1, _, Q5, by omega, by go_num, Got.below hb1 gH5.out hz0 hb1.size, qH5, kk⟩
            case measure => simp [intOf]; omega
          · have dy : (y0 == 1) = false := by simpa using hy1
            obtain ⟨A1, hA1⟩ : ∃ A1, A1 = A := ⟨_, rfl⟩
            obtain ⟨P1, hP1⟩ : ∃ P1, P1 = P := ⟨_, rfl⟩
            subst hA1
            subst hP1
            go_wp2_with fail
            generalize wr.alloc (.cells #[.int .i64 y0, .int .i64 y1, .int .u32 y2] 36) = W1 at *
            have hb1 := hba.out
            have a1 := hAa
            have k1 := hK
            have X1 := cellsAt hxa.out
            clear hAa hba hK hA hb g0 g1 g2 ha hal
            have ST := Lib.hid (status_abs BB A1 P1 W1 a1.out)
            have KX := Lib.hid (fun w => kind_any x x0 (by omega) w)
            have KA := Lib.hid (fun w => kind_any A1.st a1.out.c0 a1.out.c1 w)
            have KS := Lib.hid (kd_sl A1.st x)
            have DO := Lib.hid (do_abs BB y0 y1 y2 z0 (by omega) A1 P1 W1 a1.out)
            have KD := Lib.hid (fun h1 h2 h3 h4 => kept_do k1.out y0 y1 y2 h1 h2 h3 h4)
            generalize kd A1.st = ka at *
            generalize kd x = kx at *
            by_cases q1 : ka = kx
            · have d1 : (ka != kx) = false := by simpa using q1
              clear q1
              go_wp2_with (first | (go_at_call 22; (with_reducible refine ST.out.mono ?_); rintro e w' ⟨rfl, rfl⟩) | (go_at_call 26; (with_reducible refine (KA.out _).mono ?_); rintro e w' ⟨rfl, rfl⟩) | (go_at_call 26; (with_reducible refine (KX.out _).mono ?_); rintro e w' ⟨rfl, rfl⟩))
              go_roundw
              case rel => exact ⟨j + 1, A1, P1, by omega, by go_num, hb1, a1, k1⟩
              case measure => simp [intOf]; omega
            have d1 : (ka != kx) = true := by simpa using q1
            by_cases q2 : ka = 0
            · have d2 : (ka != 0) = false := by simpa using q2
              clear q2 q1
              go_wp2_with (first | (go_at_call 22; (with_reducible refine ST.out.mono ?_); rintro e w' ⟨rfl, rfl⟩) | (go_at_call 26; (with_reducible refine (KA.out _).mono ?_); rintro e w' ⟨rfl, rfl⟩) | (go_at_call 26; (with_reducible refine (KX.out _).mono ?_); rintro e w' ⟨rfl, rfl⟩))
              go_roundw
              case rel => exact ⟨j + 1, A1, P1, by omega, by go_num, hb1, a1, k1⟩
              case measure => simp [intOf]; omega
            have d2 : (ka != 0) = true := by simpa using q2
            by_cases q3 : y0 = 3
            · have d3 : (y0 != 3) = false := by simpa using q3
              clear q1 q2 q3
              go_wp2_with (first | (go_at_call 22; (with_reducible refine ST.out.mono ?_); rintro e w' ⟨rfl, rfl⟩) | (go_at_call 26; (with_reducible refine (KA.out _).mono ?_); rintro e w' ⟨rfl, rfl⟩) | (go_at_call 26; (with_reducible refine (KX.out _).mono ?_); rintro e w' ⟨rfl, rfl⟩))
              go_roundw
              case rel => exact ⟨j + 1, A1, P1, by omega, by go_num, hb1, a1, k1⟩
              case measure => simp [intOf]; omega
            have d3 : (y0 != 3) = true := by simpa using q3
            by_cases q4 : y0 = 4
            · have d4 : (y0 != 4) = false := by simpa using q4
              clear q1 q2 q3 q4
              go_wp2_with (first | (go_at_call 22; (with_reducible refine ST.out.mono ?_); rintro e w' ⟨rfl, rfl⟩) | (go_at_call 26; (with_reducible refine (KA.out _).mono ?_); rintro e w' ⟨rfl, rfl⟩) | (go_at_call 26; (with_reducible refine (KX.out _).mono ?_); rintro e w' ⟨rfl, rfl⟩))
              go_roundw
              case rel => exact ⟨j + 1, A1, P1, by omega, by go_num, hb1, a1, k1⟩
              case measure => simp [intOf]; omega
            have d4 : (y0 != 4) = true := by simpa using q4
            have kk := Lib.hid (KD.out (fun e => q1 (KS.out.1.2 e)) (fun e => q2 (KS.out.2.2 e)) q3 q4)
            clear q1 q2 q3 q4 KS KD
            go_wp2_with (first | (go_at_call 22; (with_reducible refine ST.out.mono ?_); rintro e w' ⟨rfl, rfl⟩) | (go_at_call 26; (with_reducible refine (KA.out _).mono ?_); rintro e w' ⟨rfl, rfl⟩) | (go_at_call 26; (with_reducible refine (KX.out _).mono ?_); rintro e w' ⟨rfl, rfl⟩))
            refine DO.out.mono ?_
            rintro e w5 ⟨rfl, g5⟩
            obtain ⟨Q5, q5⟩ := g5.at_
            have qH5 := Lib.hid q5
            have gH5 := Lib.hid g5
            clear q5 g5
            go_wp2
            go_roundw
            case rel => exact ⟨j + 1, _, Q5, by omega, by go_num, Got.below hb1 gH5.out hz0 hb1.size, qH5, kk⟩
            case measure => simp [intOf]; omega
        · obtain rfl : j = n' := by omega
          have S3 := Lib.hid (setStatus_abs BB x x0 (by omega) A P wr hA.out)
          have KB := kept_back hK.out
          have KX := Lib.hid (fun w => kind_any x x0 (by omega) w)
          have KS := kd_sl x x
          go_wp2_with fail
          refine S3.out.mono ?_
          rintro e w3 ⟨rfl, g⟩
          obtain ⟨Q3, q⟩ := g.at_
          have hb3 := Got.below hb g hz0 hb.size
          have E3 := get_abs BB 13 _ Q3 w3 q
          have E4 := get_abs BB 14 _ Q3 w3 q
          have ES := saved_abs BB _ Q3 w3 q
          rw [show nb 13 = 13 from rfl, KB.1] at E3
          rw [show nb 14 = 14 from rfl, KB.2.1] at E4
          have E3H := Lib.hid E3
          have E4H := Lib.hid E4
          by_cases h0 : kd x = 0
          · have KXr := KX.out
            rw [h0] at KXr
            have KXH := Lib.hid KXr
            clear E3 E4 ES q g KB KS h0 KXr KX
            go_wp2_with (first | (go_at_call 13; (with_reducible refine E3H.out.mono ?_); rintro e w' ⟨rfl, rfl⟩) | (go_at_call 13; (with_reducible refine E4H.out.mono ?_); rintro e w' ⟨rfl, rfl⟩) | (go_at_call 26; (with_reducible refine (KXH.out _).mono ?_); rintro e w' ⟨rfl, rfl⟩))
            go_ret
            exact ⟨rfl, hb3⟩
          · rw [KB.2.2 (fun e => h0 (KS.2.2 e))] at ES
            have ESH := Lib.hid ES
            have d0 : (kd x == 0) = false := by simpa using h0
            clear E3 E4 ES q g KB KS h0
            go_wp2_with (first | (go_at_call 13; (with_reducible refine E3H.out.mono ?_); rintro e w' ⟨rfl, rfl⟩) | (go_at_call 13; (with_reducible refine E4H.out.mono ?_); rintro e w' ⟨rfl, rfl⟩) | (go_at_call 26; (with_reducible refine (KX.out _).mono ?_); rintro e w' ⟨rfl, rfl⟩) | (go_at_call 14; (with_reducible refine ESH.out.mono ?_); rintro e w' ⟨rfl, rfl⟩))
            go_ret
            exact ⟨rfl, hb3⟩
end Go.Proofs.Ytajbankfnnlocaa.Bj
