/- BankRuns, walked. -/
import Derived.Test.YtajbankfnnlocaaBm
namespace Go.Proofs.Ytajbankfnnlocaa.Bn
set_option linter.unusedVariables false
set_option linter.unusedSimpArgs false
open Go.RowKit Go.Proofs.Ytajbankfnnlocaa.Bt Go.Proofs.Ytajbankfnnlocaa.Wk Go.Proofs.Ytajbankfnnlocaa.Sg Go.Proofs.Ytajbankfnnlocaa.Ba Go.Proofs.Ytajbankfnnlocaa.Bb Go.Proofs.Ytajbankfnnlocaa.Bc Go.Proofs.Ytajbankfnnlocaa.Bd Go.Proofs.Ytajbankfnnlocaa.Be Go.Proofs.Ytajbankfnnlocaa.Bf Go.Proofs.Ytajbankfnnlocaa.Bg Go.Proofs.Ytajbankfnnlocaa.Bh Go.Proofs.Ytajbankfnnlocaa.Bm

theorem nb_nat (k : Nat) (h : k < 16) : nb (k : Int) = k := by unfold nb; omega
set_option maxRecDepth 100000 in
set_option maxHeartbeats 1000000 in
theorem rnew_any (w : World) : Calls Try.prog 16 #[] w fun e w' => e = .returned (.pointer (some ⟨w.heap.size, 0, none⟩)) ∧ w' = w.alloc (rb newA) := by
  have e : rb newA = .cells #[Value.int .u32 0, Value.int .u32 0, Value.int .u32 0, Value.int .u32 0, Value.int .u32 0, Value.int .u32 0, Value.int .u32 0, Value.int .u32 0, Value.int .u32 0, Value.int .u32 0, Value.int .u32 0, Value.int .u32 0, Value.int .u32 0, Value.int .u32 0, Value.int .u32 0, Value.int .u32 0, Value.int .u32 0, Value.int .u32 0, Value.int .u32 0, Value.int .u32 0, Value.int .u32 0, Value.int .u32 0, Value.int .u32 0, Value.int .u32 0, Value.int .u32 0, Value.int .u32 0, Value.int .u32 0, Value.int .u32 0, Value.int .u32 0, Value.int .u32 0, Value.int .u32 0, Value.int .u32 0, Value.int .u32 0, Value.int .u32 0, Value.int .u32 0, Value.int .u32 0, Value.int .u32 0, Value.int .u32 0, Value.int .u32 0, Value.int .u32 0, Value.int .u32 0, Value.int .u32 0, Value.int .u32 0, Value.int .u32 0, Value.int .u32 0, Value.int .u32 0, Value.int .u32 0, Value.int .u32 0, Value.int .u32 0, Value.int .u32 0, Value.int .u32 0, Value.int .u32 0, Value.int .u32 0, Value.int .u32 0, Value.int .u32 0, Value.int .u32 0, Value.int .u32 0, Value.int .u32 0, Value.int .u32 0, Value.int .u32 0, Value.int .u32 0, Value.int .u32 0, Value.int .u32 0, Value.int .u32 0, Value.int .u32 0, Value.int .u32 0, Value.int .u32 0, Value.int .u32 0, Value.int .u32 0, Value.int .u32 0, Value.int .u32 0, Value.int .u32 0, Value.int .u32 0, Value.int .u32 0, Value.int .u32 0, Value.int .u32 0, Value.int .u32 0, Value.int .u32 0, Value.int .u32 0, Value.int .u32 0, Value.int .u32 0, Value.int .u32 0, Value.int .u32 0, Value.int .u32 0, Value.int .u32 0, Value.int .u32 0, Value.int .u32 0, Value.int .u32 0, Value.int .u32 0, Value.int .u32 0, Value.int .u32 0, Value.int .u32 0, Value.int .u32 0, Value.int .u32 0, Value.int .u32 0, Value.int .u32 0, Value.int .u32 0, Value.int .u32 0, Value.int .u32 0, Value.int .u32 0, Value.int .u32 0, Value.int .u32 0, Value.int .u32 31] 42 (0, 0) := rfl
  have z : ∀ w, (zeroValue 42).run Try.prog w = .ok (.agg #[Value.int .u32 0, Value.int .u32 0, Value.int .u32 0, Value.int .u32 0, Value.int .u32 0, Value.int .u32 0, Value.int .u32 0, Value.int .u32 0, Value.int .u32 0, Value.int .u32 0, Value.int .u32 0, Value.int .u32 0, Value.int .u32 0, Value.int .u32 0, Value.int .u32 0, Value.int .u32 0, Value.int .u32 0, Value.int .u32 0, Value.int .u32 0, Value.int .u32 0, Value.int .u32 0, Value.int .u32 0, Value.int .u32 0, Value.int .u32 0, Value.int .u32 0, Value.int .u32 0, Value.int .u32 0, Value.int .u32 0, Value.int .u32 0, Value.int .u32 0, Value.int .u32 0, Value.int .u32 0, Value.int .u32 0, Value.int .u32 0, Value.int .u32 0, Value.int .u32 0, Value.int .u32 0, Value.int .u32 0, Value.int .u32 0, Value.int .u32 0, Value.int .u32 0, Value.int .u32 0, Value.int .u32 0, Value.int .u32 0, Value.int .u32 0, Value.int .u32 0, Value.int .u32 0, Value.int .u32 0, Value.int .u32 0, Value.int .u32 0, Value.int .u32 0, Value.int .u32 0, Value.int .u32 0, Value.int .u32 0, Value.int .u32 0, Value.int .u32 0, Value.int .u32 0, Value.int .u32 0, Value.int .u32 0, Value.int .u32 0, Value.int .u32 0, Value.int .u32 0, Value.int .u32 0, Value.int .u32 0, Value.int .u32 0, Value.int .u32 0, Value.int .u32 0, Value.int .u32 0, Value.int .u32 0, Value.int .u32 0, Value.int .u32 0, Value.int .u32 0, Value.int .u32 0, Value.int .u32 0, Value.int .u32 0, Value.int .u32 0, Value.int .u32 0, Value.int .u32 0, Value.int .u32 0, Value.int .u32 0, Value.int .u32 0, Value.int .u32 0, Value.int .u32 0, Value.int .u32 0, Value.int .u32 0, Value.int .u32 0, Value.int .u32 0, Value.int .u32 0, Value.int .u32 0, Value.int .u32 0, Value.int .u32 0, Value.int .u32 0, Value.int .u32 0, Value.int .u32 0, Value.int .u32 0, Value.int .u32 0, Value.int .u32 0, Value.int .u32 0, Value.int .u32 0, Value.int .u32 0, Value.int .u32 0, Value.int .u32 0, Value.int .u32 0]) w := fun _ => by kernel_rfl
  rw [e]
  go_enter Try.func16, Try.ntmps16
  go_wp2
  go_ret
  exact ⟨rfl, rfl⟩
theorem rnew_at (w : World) : RAt w.heap.size newA (w.alloc (rb newA)) := ⟨alloc_new w _, by decide, by decide⟩
/-- Both banks, and the call's own block. -/
structure Duo (w : World) (BB BX : Nat) (A : Ab) (X : Obj) (w' : World) : Prop where
  b : Below w.heap.size w w'
  p : ∃ P, At BB A P w'
  r : RAt (BB + 1) A w'
  x : w'.heap[BX]? = some X
theorem Duo.drewN {w : World} {BB BX : Nat} {A : Ab} {X : Obj} {w' : World} (d : Duo w BB BX A X w') (n : Nat) : Duo w BB BX A X (w'.drewN n) := ⟨below_dn d.b n, by obtain ⟨P, h⟩ := d.p; exact ⟨P, h.drewN n⟩, d.r.drewN n, drewN_heap n d.x⟩
/-- Behind the program's call: the document's is still to come. -/
structure Uno (w : World) (BB BX : Nat) (A A' : Ab) (X : Obj) (w' : World) : Prop where
  b : Below w.heap.size w w'
  p : ∃ P, At BB A' P w'
  r : RAt (BB + 1) A w'
  x : w'.heap[BX]? = some X
theorem Uno.duo {w : World} {BB BX : Nat} {A A' : Ab} {X : Obj} {w1 w2 : World} (t : Uno w BB BX A A' X w1) (g : RGot (BB + 1) A' w1 w2) (h0 : w.heap.size ≤ BB) (h1 : BB + 1 < BX) : Duo w BB BX A' X w2 :=
  ⟨below_only t.b g.1 (by omega) t.b.size, by obtain ⟨P, h⟩ := t.p; exact ⟨P, g.1.keep h.hs (by omega), h.rep, h.c0, h.c1⟩, g.at_, g.1.keep t.x (by omega)⟩
set_option maxRecDepth 100000 in
set_option maxHeartbeats 8000000 in
theorem runs_law (AA : Option Addr) (n cap : Nat) (f0 f1 f2 : Nat → Int) (w : World) (hc : n ≤ cap) (hm : cap ≤ maxLen)
    (he : Elts w AA n 3 (fun i => [.int .i64 (f0 i), .int .i64 (f1 i), .int .u32 (f2 i)]))
    (hf : ∀ i, i < n → (Lit.int .i64 (f0 i)).wf = true ∧ (Lit.int .i64 (f1 i)).wf = true ∧ (Lit.int .u32 (f2 i)).wf = true ∧ True) :
    Calls Try.prog 4 #[.slice AA n cap] w fun e w' => e = .returned (.bool true) ∧ Below w.heap.size w w' := by
  unfold maxLen at hm
  have HE := Lib.hid he
  have HF := Lib.hid hf
  clear he hf
  go_enter Try.func4, Try.ntmps4
  go_wp2_with fail
  refine (awake_any _).mono ?_
  rintro e w0 ⟨rfl, hb0⟩
  go_wp2_with fail
  refine (new_abs _).mono ?_
  rintro e w1 ⟨rfl, rfl⟩
  go_wp2_with fail
  refine (rnew_any _).mono ?_
  rintro e w1 ⟨rfl, rfl⟩
  go_wp2_with fail
  have hz0 := hb0.size
  have hA := at_alloc (new_at w0) (rb newA)
  have hR := rnew_at (w0.alloc (bk newP))
  have hb : Below w.heap.size w ((w0.alloc (bk newP)).alloc (rb newA)) := Below.alloc (Below.alloc hb0 hz0 _) (by simp; omega) _
  rw [show (w0.alloc (bk newP)).heap.size = w0.heap.size + 1 by simp] at hR
  have hAH := Lib.hid hA
  have hRH := Lib.hid hR
  clear hA hR hb0
  try rw [show (w0.alloc (bk newP)).heap.size = w0.heap.size + 1 by simp]
  generalize (w0.alloc (bk newP)).alloc (rb newA) = w1 at *
  generalize w0.heap.size = BB at *
  go_loopw [14] (fun i wr => ∃ (k : Nat) (A : Ab) (P : Bk), k ≤ n ∧ i = .int .i64 k ∧ Below w.heap.size w wr ∧ Hid (At BB A P wr) ∧ Hid (RAt (BB + 1) A wr)) (fun i _ => n - (intOf i).toNat)
  case atStart => exact ⟨0, newA, newP, by omega, rfl, hb, hAH, hRH⟩
  case round =>
    clear hb hAH hRH
    obtain ⟨k, A, P, hk, rfl, hb, hA, hR⟩ := hrel
    by_cases hkn : k < n
    · obtain ⟨a, rfl, hal, hcell⟩ := HE.out.cells hb hkn
      obtain ⟨_, _, hx, _⟩ := HF.out k hkn
      obtain ⟨x0, x1⟩ := bounds_u32 hx
      have ha : (a.add (k * 3)).block < wr.heap.size := Nat.lt_of_lt_of_le hal hb.size
      have g0 : wr.cell? (a.add (k * 3)) = some (.int .i64 (f0 k)) := hcell 0 (by decide)
      have g1 : wr.cell? ⟨(a.add (k * 3)).block, (a.add (k * 3)).off + 1, none⟩ = some (.int .i64 (f1 k)) := hcell 1 (by decide)
      have g2 : wr.cell? ⟨(a.add (k * 3)).block, (a.add (k * 3)).off + 2, none⟩ = some (.int .u32 (f2 k)) := hcell 2 (by decide)
      clear hcell hx
      generalize f0 k = y0 at *
      generalize f1 k = y1 at *
      generalize f2 k = y2 at *
      by_cases k5 : k = 500
      · have d5 : ((k : Int) == 500) = true := by simp; omega
        clear k5
        go_wp2
        go_ret
        exact ⟨rfl, hb.alloc hb.size _⟩
      have d5 : ((k : Int) == 500) = false := by simp; omega
      have D := Lib.hid (do_abs BB y0 y1 y2 x0 (by omega) A P _ (at_alloc hA.out (.cells #[.int .i64 y0, .int .i64 y1, .int .u32 y2] 36)))
      have hb' := Lib.hid (hb.alloc hb.size (.cells #[.int .i64 y0, .int .i64 y1, .int .u32 y2] 36))
      have hR' : RAt (BB + 1) A (wr.alloc (.cells #[.int .i64 y0, .int .i64 y1, .int .u32 y2] 36)) := ⟨alloc_old _ hR.out.hs, hR.out.c0, hR.out.c1⟩
      have hX' : (wr.alloc (.cells #[.int .i64 y0, .int .i64 y1, .int .u32 y2] 36)).heap[wr.heap.size]? = some (.cells #[.int .i64 y0, .int .i64 y1, .int .u32 y2] 36) := alloc_new _ _
      have hBX : BB + 1 < wr.heap.size := sizeAt hR.out.hs
      have hR'H := Lib.hid hR'
      have hX'H := Lib.hid hX'
      clear k5 hR' hX' hA hR
      go_wp2_with fail
      refine D.out.mono ?_
      rintro e w2 ⟨rfl, g⟩
      have u : Uno w BB wr.heap.size A (doA A y0 y1 y2) (.cells #[.int .i64 y0, .int .i64 y1, .int .u32 y2] 36) w2 := ⟨Got.below hb'.out g hz0 hb'.out.size, g.at_, ⟨g.keep hR'H.out.hs (by omega), hR'H.out.c0, hR'H.out.c1⟩, g.keep hX'H.out (by omega)⟩
      have c0 := cellsAt u.x 0
      have c1 := cellsAt u.x 1
      have c2 := cellsAt u.x 2
      simp at c0 c1 c2
      have uH := Lib.hid u
      clear u g D hb' hR'H hX'H g0 g1 g2 ha
      generalize wr.heap.size = BX at *
      have u0 : 0 ≤ IntKind.u32.wrap y1 := by rw [IntKind.wrap_u32]; omega
      have u1 : IntKind.u32.wrap y1 < 4294967296 := by rw [IntKind.wrap_u32]; omega
      have wy : IntKind.u32.wrap y1 = y1 % 4294967296 := IntKind.wrap_u32 _
      have wyH := Lib.hid wy
      clear wy
      by_cases q0 : y0 = 0
      · subst q0
        have ed : doA A 0 y1 y2 = setAb A (nb y1) y2 := rfl
        rw [ed] at uH
        have cH := Lib.hid (rset_any (BB + 1) y1 y2 A w2 uH.out.r)
        clear ed
        go_wp2_with fail
        refine cH.out.mono ?_
        rintro e w3 ⟨rfl, rg⟩
        have dH := Lib.hid (uH.out.duo rg hz0 hBX)
        clear rg cH c0 c1 c2
        have bH : ∃ B, B = setAb A (nb y1) y2 := ⟨_, rfl⟩
        obtain ⟨B, hB⟩ := bH
        rw [← hB] at dH
        obtain ⟨Q, q⟩ := dH.out.p
        have r := dH.out.r
        have C102 : w3.cell? ⟨BB + 1, 102, none⟩ = some (.int .u32 B.st) := (cellsAt r.hs _).trans (ratC B)
        have S1 := Lib.hid (fun n => flip (status_abs BB B Q (w3.drewN n) (q.drewN n)))
        have V1 := Lib.hid (fun n => flip (saved_abs BB B Q (w3.drewN n) (q.drewN n)))
        have V2 := Lib.hid (fun n => flip (rsaved_any (BB + 1) B (w3.drewN n) (r.drewN n)))
        have qH := Lib.hid q
        have rH := Lib.hid r
        have n1 : (B.st != B.st) = false := by simp
        have n2 : (savedA B != savedA B) = false := by simp
        clear hB q r uH
        as_aux_lemma =>
          generalize savedA B = sv at *
          generalize B.st = st at *
          go_wp2_with fail
          go_quiet ((first | (go_at_call 22; (with_reducible exact Calls.quiet_of_same (S1.out _))) | (go_at_call 14; (with_reducible exact Calls.quiet_of_same (V1.out _))) | (go_at_call 23; (with_reducible exact Calls.quiet_of_same (V2.out _)))))
          go_wp2_with fail
          clear C102 S1 V1 V2 n1 n2
          go_loopw [78] (fun j wx => ∃ (p nn : Nat), p ≤ 16 ∧ j = .int .i64 p ∧ wx = w3.drewN nn) (fun j _ => 16 - (intOf j).toNat)
          case atStart => exact ⟨0, _, by omega, rfl, rfl⟩
          case round =>
            obtain ⟨p, nn, hp, rfl, rfl⟩ := hrel
            by_cases hlt : p < 16
            · have G1 := fun n => get_abs BB (p : Int) B Q (w3.drewN n) (qH.out.drewN n)
              have G2 := fun n => rget_any (BB + 1) (p : Int) B (w3.drewN n) (rH.out.drewN n)
              have U1 := fun n => user_abs BB (p : Int) B Q (w3.drewN n) (qH.out.drewN n)
              have U2 := fun n => ruser_any (BB + 1) (p : Int) B (w3.drewN n) (rH.out.drewN n)
              generalize getA B (nb (p : Int)) = v1 at *
              generalize B.R 0 (nb (p : Int)) = v2 at *
              have n1 : (v1 != v1) = false := by simp
              have n2 : (v2 != v2) = false := by simp
              have G1H := Lib.hid G1
              have G2H := Lib.hid G2
              have U1H := Lib.hid U1
              have U2H := Lib.hid U2
              clear G1 G2 U1 U2
              go_wp2_with fail
              go_wp2_with (first | (go_at_call 13; ((with_reducible refine (G1H.out _).mono ?_); rintro e w' ⟨rfl, rfl⟩)) | (go_at_call 24; ((with_reducible refine (G2H.out _).mono ?_); rintro e w' ⟨rfl, rfl⟩)) | (go_at_call 15; ((with_reducible refine (U1H.out _).mono ?_); rintro e w' ⟨rfl, rfl⟩)) | (go_at_call 25; ((with_reducible refine (U2H.out _).mono ?_); rintro e w' ⟨rfl, rfl⟩)))
              go_roundw
              case rel => exact ⟨p + 1, _, by omega, by go_num, rfl⟩
              case measure => simp [intOf]; omega
            · obtain rfl : p = 16 := by omega
              go_wp2
              go_roundw
              case rel => exact ⟨k + 1, B, Q, by omega, by go_num, below_dn dH.out.b _, Lib.hid (qH.out.drewN _), Lib.hid (rH.out.drewN _)⟩
              case measure => simp [intOf]; omega
      have e0 : (y0 == 0) = false := by simpa using q0
      by_cases q1 : y0 = 1
      · subst q1
        have ed : doA A 1 y1 y2 = setStA A y2 := rfl
        have C102 : w2.cell? ⟨BB + 1, 102, none⟩ = some (.int .u32 A.st) := (cellsAt uH.out.r.hs _).trans (ratC A)
        have FR := freeAt uH.out.r.hs
        have rg : RGot (BB + 1) (setStA A y2) w2 (w2.setCell ⟨BB + 1, 102, none⟩ (.int .u32 y2)) := ⟨((Only.refl uH.out.r.hs).set _).to (by rw [rsetC A]; rfl), x0, by show y2 < 4294967296; omega⟩
        rw [ed] at uH
        have dH := Lib.hid (uH.out.duo rg hz0 hBX)
        clear rg ed
        go_wp2_with fail
        generalize w2.setCell ⟨BB + 1, 102, none⟩ (.int .u32 y2) = w3 at *
        clear C102 FR c0 c1 c2
        have bH : ∃ B, B = setStA A y2 := ⟨_, rfl⟩
        obtain ⟨B, hB⟩ := bH
        rw [← hB] at dH
        obtain ⟨Q, q⟩ := dH.out.p
        have r := dH.out.r
        have C102 : w3.cell? ⟨BB + 1, 102, none⟩ = some (.int .u32 B.st) := (cellsAt r.hs _).trans (ratC B)
        have S1 := Lib.hid (fun n => flip (status_abs BB B Q (w3.drewN n) (q.drewN n)))
        have V1 := Lib.hid (fun n => flip (saved_abs BB B Q (w3.drewN n) (q.drewN n)))
        have V2 := Lib.hid (fun n => flip (rsaved_any (BB + 1) B (w3.drewN n) (r.drewN n)))
        have qH := Lib.hid q
        have rH := Lib.hid r
        have n1 : (B.st != B.st) = false := by simp
        have n2 : (savedA B != savedA B) = false := by simp
        clear hB q r uH
        as_aux_lemma =>
          generalize savedA B = sv at *
          generalize B.st = st at *
          go_wp2_with fail
          go_quiet ((first | (go_at_call 22; (with_reducible exact Calls.quiet_of_same (S1.out _))) | (go_at_call 14; (with_reducible exact Calls.quiet_of_same (V1.out _))) | (go_at_call 23; (with_reducible exact Calls.quiet_of_same (V2.out _)))))
          go_wp2_with fail
          clear C102 S1 V1 V2 n1 n2
          go_loopw [78] (fun j wx => ∃ (p nn : Nat), p ≤ 16 ∧ j = .int .i64 p ∧ wx = w3.drewN nn) (fun j _ => 16 - (intOf j).toNat)
          case atStart => exact ⟨0, _, by omega, rfl, rfl⟩
          case round =>
            obtain ⟨p, nn, hp, rfl, rfl⟩ := hrel
            by_cases hlt : p < 16
            · have G1 := fun n => get_abs BB (p : Int) B Q (w3.drewN n) (qH.out.drewN n)
              have G2 := fun n => rget_any (BB + 1) (p : Int) B (w3.drewN n) (rH.out.drewN n)
              have U1 := fun n => user_abs BB (p : Int) B Q (w3.drewN n) (qH.out.drewN n)
              have U2 := fun n => ruser_any (BB + 1) (p : Int) B (w3.drewN n) (rH.out.drewN n)
              generalize getA B (nb (p : Int)) = v1 at *
              generalize B.R 0 (nb (p : Int)) = v2 at *
              have n1 : (v1 != v1) = false := by simp
              have n2 : (v2 != v2) = false := by simp
              have G1H := Lib.hid G1
              have G2H := Lib.hid G2
              have U1H := Lib.hid U1
              have U2H := Lib.hid U2
              clear G1 G2 U1 U2
              go_wp2_with fail
              go_wp2_with (first | (go_at_call 13; ((with_reducible refine (G1H.out _).mono ?_); rintro e w' ⟨rfl, rfl⟩)) | (go_at_call 24; ((with_reducible refine (G2H.out _).mono ?_); rintro e w' ⟨rfl, rfl⟩)) | (go_at_call 15; ((with_reducible refine (U1H.out _).mono ?_); rintro e w' ⟨rfl, rfl⟩)) | (go_at_call 25; ((with_reducible refine (U2H.out _).mono ?_); rintro e w' ⟨rfl, rfl⟩)))
              go_roundw
              case rel => exact ⟨p + 1, _, by omega, by go_num, rfl⟩
              case measure => simp [intOf]; omega
            · obtain rfl : p = 16 := by omega
              go_wp2
              go_roundw
              case rel => exact ⟨k + 1, B, Q, by omega, by go_num, below_dn dH.out.b _, Lib.hid (qH.out.drewN _), Lib.hid (rH.out.drewN _)⟩
              case measure => simp [intOf]; omega
      have e1 : (y0 == 1) = false := by simpa using q1
      by_cases q2 : y0 = 2
      · subst q2
        have ed : doA A 2 y1 y2 = setSavedA A y2 := rfl
        rw [ed] at uH
        have cH := Lib.hid (rsetSaved_any (BB + 1) y2 A w2 uH.out.r)
        clear ed
        go_wp2_with fail
        refine cH.out.mono ?_
        rintro e w3 ⟨rfl, rg⟩
        have dH := Lib.hid (uH.out.duo rg hz0 hBX)
        clear rg cH c0 c1 c2
        have bH : ∃ B, B = setSavedA A y2 := ⟨_, rfl⟩
        obtain ⟨B, hB⟩ := bH
        rw [← hB] at dH
        obtain ⟨Q, q⟩ := dH.out.p
        have r := dH.out.r
        have C102 : w3.cell? ⟨BB + 1, 102, none⟩ = some (.int .u32 B.st) := (cellsAt r.hs _).trans (ratC B)
        have S1 := Lib.hid (fun n => flip (status_abs BB B Q (w3.drewN n) (q.drewN n)))
        have V1 := Lib.hid (fun n => flip (saved_abs BB B Q (w3.drewN n) (q.drewN n)))
        have V2 := Lib.hid (fun n => flip (rsaved_any (BB + 1) B (w3.drewN n) (r.drewN n)))
        have qH := Lib.hid q
        have rH := Lib.hid r
        have n1 : (B.st != B.st) = false := by simp
        have n2 : (savedA B != savedA B) = false := by simp
        clear hB q r uH
        as_aux_lemma =>
          generalize savedA B = sv at *
          generalize B.st = st at *
          go_wp2_with fail
          go_quiet ((first | (go_at_call 22; (with_reducible exact Calls.quiet_of_same (S1.out _))) | (go_at_call 14; (with_reducible exact Calls.quiet_of_same (V1.out _))) | (go_at_call 23; (with_reducible exact Calls.quiet_of_same (V2.out _)))))
          go_wp2_with fail
          clear C102 S1 V1 V2 n1 n2
          go_loopw [78] (fun j wx => ∃ (p nn : Nat), p ≤ 16 ∧ j = .int .i64 p ∧ wx = w3.drewN nn) (fun j _ => 16 - (intOf j).toNat)
          case atStart => exact ⟨0, _, by omega, rfl, rfl⟩
          case round =>
            obtain ⟨p, nn, hp, rfl, rfl⟩ := hrel
            by_cases hlt : p < 16
            · have G1 := fun n => get_abs BB (p : Int) B Q (w3.drewN n) (qH.out.drewN n)
              have G2 := fun n => rget_any (BB + 1) (p : Int) B (w3.drewN n) (rH.out.drewN n)
              have U1 := fun n => user_abs BB (p : Int) B Q (w3.drewN n) (qH.out.drewN n)
              have U2 := fun n => ruser_any (BB + 1) (p : Int) B (w3.drewN n) (rH.out.drewN n)
              generalize getA B (nb (p : Int)) = v1 at *
              generalize B.R 0 (nb (p : Int)) = v2 at *
              have n1 : (v1 != v1) = false := by simp
              have n2 : (v2 != v2) = false := by simp
              have G1H := Lib.hid G1
              have G2H := Lib.hid G2
              have U1H := Lib.hid U1
              have U2H := Lib.hid U2
              clear G1 G2 U1 U2
              go_wp2_with fail
              go_wp2_with (first | (go_at_call 13; ((with_reducible refine (G1H.out _).mono ?_); rintro e w' ⟨rfl, rfl⟩)) | (go_at_call 24; ((with_reducible refine (G2H.out _).mono ?_); rintro e w' ⟨rfl, rfl⟩)) | (go_at_call 15; ((with_reducible refine (U1H.out _).mono ?_); rintro e w' ⟨rfl, rfl⟩)) | (go_at_call 25; ((with_reducible refine (U2H.out _).mono ?_); rintro e w' ⟨rfl, rfl⟩)))
              go_roundw
              case rel => exact ⟨p + 1, _, by omega, by go_num, rfl⟩
              case measure => simp [intOf]; omega
            · obtain rfl : p = 16 := by omega
              go_wp2
              go_roundw
              case rel => exact ⟨k + 1, B, Q, by omega, by go_num, below_dn dH.out.b _, Lib.hid (qH.out.drewN _), Lib.hid (rH.out.drewN _)⟩
              case measure => simp [intOf]; omega
      have e2 : (y0 == 2) = false := by simpa using q2
      by_cases q3 : y0 = 3
      · subst q3
        have ed : doA A 3 y1 y2 = setUserA A (nb y1) y2 := rfl
        rw [ed] at uH
        have cH := Lib.hid (rsetUser_any (BB + 1) y1 y2 A w2 uH.out.r)
        clear ed
        go_wp2_with fail
        refine cH.out.mono ?_
        rintro e w3 ⟨rfl, rg⟩
        have dH := Lib.hid (uH.out.duo rg hz0 hBX)
        clear rg cH c0 c1 c2
        have bH : ∃ B, B = setUserA A (nb y1) y2 := ⟨_, rfl⟩
        obtain ⟨B, hB⟩ := bH
        rw [← hB] at dH
        obtain ⟨Q, q⟩ := dH.out.p
        have r := dH.out.r
        have C102 : w3.cell? ⟨BB + 1, 102, none⟩ = some (.int .u32 B.st) := (cellsAt r.hs _).trans (ratC B)
        have S1 := Lib.hid (fun n => flip (status_abs BB B Q (w3.drewN n) (q.drewN n)))
        have V1 := Lib.hid (fun n => flip (saved_abs BB B Q (w3.drewN n) (q.drewN n)))
        have V2 := Lib.hid (fun n => flip (rsaved_any (BB + 1) B (w3.drewN n) (r.drewN n)))
        have qH := Lib.hid q
        have rH := Lib.hid r
        have n1 : (B.st != B.st) = false := by simp
        have n2 : (savedA B != savedA B) = false := by simp
        clear hB q r uH
        as_aux_lemma =>
          generalize savedA B = sv at *
          generalize B.st = st at *
          go_wp2_with fail
          go_quiet ((first | (go_at_call 22; (with_reducible exact Calls.quiet_of_same (S1.out _))) | (go_at_call 14; (with_reducible exact Calls.quiet_of_same (V1.out _))) | (go_at_call 23; (with_reducible exact Calls.quiet_of_same (V2.out _)))))
          go_wp2_with fail
          clear C102 S1 V1 V2 n1 n2
          go_loopw [78] (fun j wx => ∃ (p nn : Nat), p ≤ 16 ∧ j = .int .i64 p ∧ wx = w3.drewN nn) (fun j _ => 16 - (intOf j).toNat)
          case atStart => exact ⟨0, _, by omega, rfl, rfl⟩
          case round =>
            obtain ⟨p, nn, hp, rfl, rfl⟩ := hrel
            by_cases hlt : p < 16
            · have G1 := fun n => get_abs BB (p : Int) B Q (w3.drewN n) (qH.out.drewN n)
              have G2 := fun n => rget_any (BB + 1) (p : Int) B (w3.drewN n) (rH.out.drewN n)
              have U1 := fun n => user_abs BB (p : Int) B Q (w3.drewN n) (qH.out.drewN n)
              have U2 := fun n => ruser_any (BB + 1) (p : Int) B (w3.drewN n) (rH.out.drewN n)
              generalize getA B (nb (p : Int)) = v1 at *
              generalize B.R 0 (nb (p : Int)) = v2 at *
              have n1 : (v1 != v1) = false := by simp
              have n2 : (v2 != v2) = false := by simp
              have G1H := Lib.hid G1
              have G2H := Lib.hid G2
              have U1H := Lib.hid U1
              have U2H := Lib.hid U2
              clear G1 G2 U1 U2
              go_wp2_with fail
              go_wp2_with (first | (go_at_call 13; ((with_reducible refine (G1H.out _).mono ?_); rintro e w' ⟨rfl, rfl⟩)) | (go_at_call 24; ((with_reducible refine (G2H.out _).mono ?_); rintro e w' ⟨rfl, rfl⟩)) | (go_at_call 15; ((with_reducible refine (U1H.out _).mono ?_); rintro e w' ⟨rfl, rfl⟩)) | (go_at_call 25; ((with_reducible refine (U2H.out _).mono ?_); rintro e w' ⟨rfl, rfl⟩)))
              go_roundw
              case rel => exact ⟨p + 1, _, by omega, by go_num, rfl⟩
              case measure => simp [intOf]; omega
            · obtain rfl : p = 16 := by omega
              go_wp2
              go_roundw
              case rel => exact ⟨k + 1, B, Q, by omega, by go_num, below_dn dH.out.b _, Lib.hid (qH.out.drewN _), Lib.hid (rH.out.drewN _)⟩
              case measure => simp [intOf]; omega
      have e3 : (y0 == 3) = false := by simpa using q3
      by_cases q4 : y0 = 4
      · subst q4
        have ed : doA A 4 y1 y2 = enterA A (IntKind.u32.wrap y1) y2 := rfl
        rw [ed] at uH
        have cH := Lib.hid (renter_any (BB + 1) (IntKind.u32.wrap y1) y2 u0 u1 A w2 uH.out.r)
        clear ed
        rw [wyH.out] at cH
        go_wp2_with fail
        refine cH.out.mono ?_
        rintro e w3 ⟨rfl, rg⟩
        have dH := Lib.hid (uH.out.duo rg hz0 hBX)
        clear rg cH c0 c1 c2
        have bH : ∃ B, B = enterA A (IntKind.u32.wrap y1) y2 := ⟨_, rfl⟩
        obtain ⟨B, hB⟩ := bH
        rw [← hB] at dH
        obtain ⟨Q, q⟩ := dH.out.p
        have r := dH.out.r
        have C102 : w3.cell? ⟨BB + 1, 102, none⟩ = some (.int .u32 B.st) := (cellsAt r.hs _).trans (ratC B)
        have S1 := Lib.hid (fun n => flip (status_abs BB B Q (w3.drewN n) (q.drewN n)))
        have V1 := Lib.hid (fun n => flip (saved_abs BB B Q (w3.drewN n) (q.drewN n)))
        have V2 := Lib.hid (fun n => flip (rsaved_any (BB + 1) B (w3.drewN n) (r.drewN n)))
        have qH := Lib.hid q
        have rH := Lib.hid r
        have n1 : (B.st != B.st) = false := by simp
        have n2 : (savedA B != savedA B) = false := by simp
        clear hB q r uH
        as_aux_lemma =>
          generalize savedA B = sv at *
          generalize B.st = st at *
          go_wp2_with fail
          go_quiet ((first | (go_at_call 22; (with_reducible exact Calls.quiet_of_same (S1.out _))) | (go_at_call 14; (with_reducible exact Calls.quiet_of_same (V1.out _))) | (go_at_call 23; (with_reducible exact Calls.quiet_of_same (V2.out _)))))
          go_wp2_with fail
          clear C102 S1 V1 V2 n1 n2
          go_loopw [78] (fun j wx => ∃ (p nn : Nat), p ≤ 16 ∧ j = .int .i64 p ∧ wx = w3.drewN nn) (fun j _ => 16 - (intOf j).toNat)
          case atStart => exact ⟨0, _, by omega, rfl, rfl⟩
          case round =>
            obtain ⟨p, nn, hp, rfl, rfl⟩ := hrel
            by_cases hlt : p < 16
            · have G1 := fun n => get_abs BB (p : Int) B Q (w3.drewN n) (qH.out.drewN n)
              have G2 := fun n => rget_any (BB + 1) (p : Int) B (w3.drewN n) (rH.out.drewN n)
              have U1 := fun n => user_abs BB (p : Int) B Q (w3.drewN n) (qH.out.drewN n)
              have U2 := fun n => ruser_any (BB + 1) (p : Int) B (w3.drewN n) (rH.out.drewN n)
              generalize getA B (nb (p : Int)) = v1 at *
              generalize B.R 0 (nb (p : Int)) = v2 at *
              have n1 : (v1 != v1) = false := by simp
              have n2 : (v2 != v2) = false := by simp
              have G1H := Lib.hid G1
              have G2H := Lib.hid G2
              have U1H := Lib.hid U1
              have U2H := Lib.hid U2
              clear G1 G2 U1 U2
              go_wp2_with fail
              go_wp2_with (first | (go_at_call 13; ((with_reducible refine (G1H.out _).mono ?_); rintro e w' ⟨rfl, rfl⟩)) | (go_at_call 24; ((with_reducible refine (G2H.out _).mono ?_); rintro e w' ⟨rfl, rfl⟩)) | (go_at_call 15; ((with_reducible refine (U1H.out _).mono ?_); rintro e w' ⟨rfl, rfl⟩)) | (go_at_call 25; ((with_reducible refine (U2H.out _).mono ?_); rintro e w' ⟨rfl, rfl⟩)))
              go_roundw
              case rel => exact ⟨p + 1, _, by omega, by go_num, rfl⟩
              case measure => simp [intOf]; omega
            · obtain rfl : p = 16 := by omega
              go_wp2
              go_roundw
              case rel => exact ⟨k + 1, B, Q, by omega, by go_num, below_dn dH.out.b _, Lib.hid (qH.out.drewN _), Lib.hid (rH.out.drewN _)⟩
              case measure => simp [intOf]; omega
      have e4 : (y0 == 4) = false := by simpa using q4
      have ed : doA A y0 y1 y2 = A := by unfold doA; rw [if_neg q0, if_neg q1, if_neg q2, if_neg q3, if_neg q4]
      rw [ed] at uH
      obtain ⟨w3, rfl⟩ : ∃ v : World, v = w2 := ⟨_, rfl⟩
      have dH : Hid (Duo w BB BX A (.cells #[.int .i64 y0, .int .i64 y1, .int .u32 y2] 36) w3) := Lib.hid ⟨uH.out.b, uH.out.p, uH.out.r, uH.out.x⟩
      clear ed q0 q1 q2 q3 q4
      go_wp2_with fail
      clear c0 c1 c2
      have bH : ∃ B, B = A := ⟨_, rfl⟩
      obtain ⟨B, hB⟩ := bH
      rw [← hB] at dH
      obtain ⟨Q, q⟩ := dH.out.p
      have r := dH.out.r
      have C102 : w3.cell? ⟨BB + 1, 102, none⟩ = some (.int .u32 B.st) := (cellsAt r.hs _).trans (ratC B)
      have S1 := Lib.hid (fun n => flip (status_abs BB B Q (w3.drewN n) (q.drewN n)))
      have V1 := Lib.hid (fun n => flip (saved_abs BB B Q (w3.drewN n) (q.drewN n)))
      have V2 := Lib.hid (fun n => flip (rsaved_any (BB + 1) B (w3.drewN n) (r.drewN n)))
      have qH := Lib.hid q
      have rH := Lib.hid r
      have n1 : (B.st != B.st) = false := by simp
      have n2 : (savedA B != savedA B) = false := by simp
      clear hB q r uH
      as_aux_lemma =>
        generalize savedA B = sv at *
        generalize B.st = st at *
        go_wp2_with fail
        go_quiet ((first | (go_at_call 22; (with_reducible exact Calls.quiet_of_same (S1.out _))) | (go_at_call 14; (with_reducible exact Calls.quiet_of_same (V1.out _))) | (go_at_call 23; (with_reducible exact Calls.quiet_of_same (V2.out _)))))
        go_wp2_with fail
        clear C102 S1 V1 V2 n1 n2
        go_loopw [78] (fun j wx => ∃ (p nn : Nat), p ≤ 16 ∧ j = .int .i64 p ∧ wx = w3.drewN nn) (fun j _ => 16 - (intOf j).toNat)
        case atStart => exact ⟨0, _, by omega, rfl, rfl⟩
        case round =>
          obtain ⟨p, nn, hp, rfl, rfl⟩ := hrel
          by_cases hlt : p < 16
          · have G1 := fun n => get_abs BB (p : Int) B Q (w3.drewN n) (qH.out.drewN n)
            have G2 := fun n => rget_any (BB + 1) (p : Int) B (w3.drewN n) (rH.out.drewN n)
            have U1 := fun n => user_abs BB (p : Int) B Q (w3.drewN n) (qH.out.drewN n)
            have U2 := fun n => ruser_any (BB + 1) (p : Int) B (w3.drewN n) (rH.out.drewN n)
            generalize getA B (nb (p : Int)) = v1 at *
            generalize B.R 0 (nb (p : Int)) = v2 at *
            have n1 : (v1 != v1) = false := by simp
            have n2 : (v2 != v2) = false := by simp
            have G1H := Lib.hid G1
            have G2H := Lib.hid G2
            have U1H := Lib.hid U1
            have U2H := Lib.hid U2
            clear G1 G2 U1 U2
            go_wp2_with fail
            go_wp2_with (first | (go_at_call 13; ((with_reducible refine (G1H.out _).mono ?_); rintro e w' ⟨rfl, rfl⟩)) | (go_at_call 24; ((with_reducible refine (G2H.out _).mono ?_); rintro e w' ⟨rfl, rfl⟩)) | (go_at_call 15; ((with_reducible refine (U1H.out _).mono ?_); rintro e w' ⟨rfl, rfl⟩)) | (go_at_call 25; ((with_reducible refine (U2H.out _).mono ?_); rintro e w' ⟨rfl, rfl⟩)))
            go_roundw
            case rel => exact ⟨p + 1, _, by omega, by go_num, rfl⟩
            case measure => simp [intOf]; omega
          · obtain rfl : p = 16 := by omega
            go_wp2
            go_roundw
            case rel => exact ⟨k + 1, B, Q, by omega, by go_num, below_dn dH.out.b _, Lib.hid (qH.out.drewN _), Lib.hid (rH.out.drewN _)⟩
            case measure => simp [intOf]; omega
    · obtain rfl : k = n := by omega
      go_wp2
      go_ret
      exact ⟨rfl, hb⟩
end Go.Proofs.Ytajbankfnnlocaa.Bn
