/- TimerRuns, walked. -/
import Derived.Test.YtkbjjkolhhmafaaTg
import Derived.Deep.RegionWith
import Derived.Deep.DeepCutAuto
namespace Go.Proofs.Ytkbjjkolhhmafaa.Th
set_option linter.unusedVariables false
set_option linter.unusedSimpArgs false
open Go.RowKit Go.Proofs.Ytkbjjkolhhmafaa.Bt Go.Proofs.Ytkbjjkolhhmafaa.Wk Go.Proofs.Ytkbjjkolhhmafaa.Sg Go.Proofs.Ytkbjjkolhhmafaa.Ta Go.Proofs.Ytkbjjkolhhmafaa.Tb Go.Proofs.Ytkbjjkolhhmafaa.Te Go.Proofs.Ytkbjjkolhhmafaa.Tf Go.Proofs.Ytkbjjkolhhmafaa.Tg

/-- Both sides, and the call's own block. -/
structure Tri (w : World) (BC BR BX : Nat) (T R : Nat → One) (now : Int) (X : Obj) (w' : World) : Prop where
  b : Below w.heap.size w w'
  c : w'.heap[BC]? = some (tim T)
  r : w'.heap[BR]? = some (rt R now)
  x : w'.heap[BX]? = some X
theorem Tri.callC {w : World} {BC BR BX : Nat} {T R T' : Nat → One} {now : Int} {X : Obj} {w1 w2 : World} (t : Tri w BC BR BX T R now X w1) (o : Only BC (tim T') w1 w2) (h0 : w.heap.size ≤ BC) (h1 : BC < BR) (h2 : BC < BX) : Tri w BC BR BX T' R now X w2 :=
  ⟨below_only t.b o h0 t.b.size, o.at_, o.keep t.r (by omega), o.keep t.x (by omega)⟩
theorem Tri.callR {w : World} {BC BR BX : Nat} {T R R' : Nat → One} {now now' : Int} {X : Obj} {w1 w2 : World} (t : Tri w BC BR BX T R now X w1) (o : Only BR (rt R' now') w1 w2) (h0 : w.heap.size ≤ BR) (h1 : BC < BR) (h2 : BR < BX) : Tri w BC BR BX T R' now' X w2 :=
  ⟨below_only t.b o h0 t.b.size, o.keep t.c (by omega), o.at_, o.keep t.x (by omega)⟩
theorem rt_new : rt Z 0 = Obj.cells #[Value.int .i64 0, Value.int .u16 0, Value.int .i64 0, Value.int .i64 0, Value.int .i64 0, Value.int .u16 0, Value.int .i64 0, Value.int .i64 0, Value.int .i64 0, Value.int .u16 0, Value.int .i64 0, Value.int .i64 0, Value.int .i64 0, Value.int .u16 0, Value.int .i64 0, Value.int .i64 0, Value.int .i64 0] 32 := rfl
set_option maxRecDepth 100000 in
set_option maxHeartbeats 4000000 in
theorem runs_law (A : Option Addr) (n cap : Nat) (f0 f1 f2 f3 : Nat → Int) (w : World) (hc : n ≤ cap) (hm : cap ≤ maxLen)
    (he : Elts w A n 4 (fun i => [.int .i64 (f0 i), .int .i64 (f1 i), .int .i64 (f2 i), .int .u16 (f3 i)]))
    (hf : ∀ i, i < n → (Lit.int .i64 (f0 i)).wf = true ∧ (Lit.int .i64 (f1 i)).wf = true ∧ (Lit.int .i64 (f2 i)).wf = true ∧ (Lit.int .u16 (f3 i)).wf = true ∧ True) :
    Calls Try.prog 6 #[.slice A n cap] w fun e w' => e = .returned (.bool true) ∧ Below w.heap.size w w' := by
  unfold maxLen at hm
  have HE := Lib.hid he
  have HF := Lib.hid hf
  clear he hf
  by_cases n60 : 60 < n
  · have d60 : decide (60 < (n : Int)) = true := decide_eq_true (by omega)
    go_enter Try.func6, Try.ntmps6
    go_wp2_with fail
    refine (awake_any _).mono ?_
    rintro e w0 ⟨rfl, hb0⟩
    go_wp2
    go_ret
    exact ⟨rfl, hb0⟩
  have d60 : decide (60 < (n : Int)) = false := decide_eq_false (by omega)
  go_enter Try.func6, Try.ntmps6
  go_wp2_with fail
  refine (awake_any _).mono ?_
  rintro e w0 ⟨rfl, hb0⟩
  go_wp2_with fail
  refine (new_any _).mono ?_
  rintro e w1 ⟨rfl, rfl⟩
  go_wp2_with fail
  have hz0 := hb0.size
  have hC : ((w0.alloc (tim fun _ => zero)).alloc (rt Z 0)).heap[w0.heap.size]? = some (tim Z) := alloc_old _ (alloc_new _ _)
  have hR : ((w0.alloc (tim fun _ => zero)).alloc (rt Z 0)).heap[(w0.alloc (tim fun _ => zero)).heap.size]? = some (rt Z 0) := alloc_new _ _
  have hlt : w0.heap.size < (w0.alloc (tim fun _ => zero)).heap.size := by simp
  have hb : Below w.heap.size w ((w0.alloc (tim fun _ => zero)).alloc (rt Z 0)) := Below.alloc (Below.alloc hb0 hz0 _) (by simp; omega) _
  rw [show (w0.alloc (tim fun _ => zero)).heap.size = w0.heap.size + 1 by simp] at hR
  rw [rt_new] at hC hR hb
  generalize (w0.alloc (tim fun _ => zero)).alloc (Obj.cells #[Value.int .i64 0, Value.int .u16 0, Value.int .i64 0, Value.int .i64 0, Value.int .i64 0, Value.int .u16 0, Value.int .i64 0, Value.int .i64 0, Value.int .i64 0, Value.int .u16 0, Value.int .i64 0, Value.int .i64 0, Value.int .i64 0, Value.int .u16 0, Value.int .i64 0, Value.int .i64 0, Value.int .i64 0] 32) = ww at *
  rw [← rt_new] at hR
  have hCH := Lib.hid hC
  have hRH := Lib.hid hR
  clear hC hR hb0 hlt
  have hB0 : w.heap.size ≤ w0.heap.size := hz0
  generalize w0.heap.size = BC at *
  go_loopw [21] (fun i wr => ∃ (k : Nat) (T R : Nat → One) (now : Int), k ≤ n ∧ i = .int .i64 k ∧ Below w.heap.size w wr ∧ Hid (Rel T R now) ∧ 0 ≤ now ∧ now ≤ 5000 * k ∧ Hid (wr.heap[BC]? = some (tim T)) ∧ Hid (wr.heap[BC + 1]? = some (rt R now))) (fun i _ => n - (intOf i).toNat)
  case atStart => exact ⟨0, Z, Z, 0, by omega, rfl, hb, Lib.hid rel_new, Int.le_refl _, by omega, hCH, hRH⟩
  case round =>
    clear hb hCH hRH
    obtain ⟨k, T, R, now, hk, rfl, hb, hrl, n0, n1, hC, hR⟩ := hrel
    by_cases hkn : k < n
    · obtain ⟨a, rfl, hal, hcell⟩ := HE.out.cells hb hkn
      obtain ⟨q0, q1, q2, hx, _⟩ := HF.out k hkn
      obtain ⟨x0, x1⟩ := bounds_u16 hx
      have ha : (a.add (k * 4)).block < wr.heap.size := Nat.lt_of_lt_of_le hal hb.size
      have g0 : wr.cell? (a.add (k * 4)) = some (.int .i64 (f0 k)) := hcell 0 (by decide)
      have g1 : wr.cell? ⟨(a.add (k * 4)).block, (a.add (k * 4)).off + 1, none⟩ = some (.int .i64 (f1 k)) := hcell 1 (by decide)
      have g2 : wr.cell? ⟨(a.add (k * 4)).block, (a.add (k * 4)).off + 2, none⟩ = some (.int .i64 (f2 k)) := hcell 2 (by decide)
      have g3 : wr.cell? ⟨(a.add (k * 4)).block, (a.add (k * 4)).off + 3, none⟩ = some (.int .u16 (f3 k)) := hcell 3 (by decide)
      clear hcell hx q0 q1 q2
      generalize f0 k = y0 at *
      generalize f1 k = y1 at *
      generalize f2 k = y2 at *
      generalize f3 k = y3 at *
      have hBX : BC + 1 < wr.heap.size := sizeAt hR.out
      have T0 : Tri w BC (BC + 1) wr.heap.size T R now (.cells #[.int .i64 y0, .int .i64 y1, .int .i64 y2, .int .u16 y3] 34) (wr.alloc (.cells #[.int .i64 y0, .int .i64 y1, .int .i64 y2, .int .u16 y3] 34)) := ⟨hb.alloc hb.size _, alloc_old _ hC.out, alloc_old _ hR.out, alloc_new _ _⟩
      have T0H := Lib.hid T0
      clear T0 hC hR
      by_cases c0 : y0 < 0
      · have d0 : decide (y0 < 0) = true := decide_eq_true c0
        clear c0
        go_wp2
        go_roundw
        case rel => exact ⟨k + 1, T, R, now, by omega, by go_num, T0H.out.b, hrl, n0, by omega, Lib.hid T0H.out.c, Lib.hid T0H.out.r⟩
        case measure => simp [intOf]; omega
      by_cases c1 : 5000 < y0
      · have d0 : decide (y0 < 0) = false := decide_eq_false c0
        have d1 : decide (5000 < y0) = true := decide_eq_true c1
        clear c0 c1
        go_wp2
        go_roundw
        case rel => exact ⟨k + 1, T, R, now, by omega, by go_num, T0H.out.b, hrl, n0, by omega, Lib.hid T0H.out.c, Lib.hid T0H.out.r⟩
        case measure => simp [intOf]; omega
      have d0 : decide (y0 < 0) = false := decide_eq_false c0
      have d1 : decide (5000 < y0) = false := decide_eq_false c1
      have y0p : 0 ≤ y0 := by omega
      have y5 : y0 ≤ 5000 := by omega
      go_wp2_with fail
      have hBC : w.heap.size ≤ BC := hB0
      generalize hXX : Obj.cells #[Value.int .i64 y0, Value.int .i64 y1, Value.int .i64 y2, Value.int .u16 y3] 34 = XX at *
      generalize hW1 : wr.alloc XX = w1 at *
      clear hW1 g0 g1 g2 g3 ha
      have hXH := Lib.hid hXX
      clear hXX
      generalize wr.heap.size = BX at *
      go_loopw [35] (fun j wx => ∃ (q : Nat) (T' R' : Nat → One), (q : Int) ≤ y0 ∧ j = .int .i64 q ∧ Hid (Rel T' R' (now + q)) ∧ Hid (Tri w BC (BC + 1) BX T' R' (now + q) XX wx)) (fun j _ => y0.toNat - (intOf j).toNat)
      case atStart => exact ⟨0, T, R, by omega, rfl, by rw [show now + (0 : Nat) = now by omega]; exact hrl, by rw [show now + (0 : Nat) = now by omega]; exact T0H⟩
      case round =>
        obtain ⟨q, T', R', hq, rfl, hrl', tri⟩ := hrel
        by_cases hlt : (q : Int) < y0
        · obtain ⟨T2, R2, m, at_, rel2, hat, P1, P2⟩ := both_tick hrl'.out (by omega) (by omega)
          go_wp2_with fail
          refine (P1 _ _ tri.out.r).mono ?_
          rintro e w2 ⟨rfl, o1⟩
          have t1 := tri.out.callR o1 (by omega) (by omega) hBX
          have t1H := Lib.hid t1
          have C16 : w2.cell? ⟨BC + 1, 16, none⟩ = some (.int .i64 (now + q + 1)) := (cellsAt t1.r _).trans (now_at R2 _)
          clear t1 o1
          go_wp2_with fail
          refine (P2 _ _ t1H.out.c).mono ?_
          rintro e w3 ⟨rfl, o2⟩
          have t2 := t1H.out.callC o2 (by omega) (by omega) (by omega)
          have t2H := Lib.hid t2
          have C17 : w3.cell? ⟨BC + 1, 16, none⟩ = some (.int .i64 (now + q + 1)) := (cellsAt t2.r _).trans (now_at R2 _)
          clear t2 o2 C16 P1 P2
          by_cases m0 : m = 0
          · subst m0
            clear hat
            go_wp2
            go_roundw
            case rel => exact ⟨q + 1, T2, R2, by omega, by go_num, by rw [show now + ((q + 1 : Nat) : Int) = now + q + 1 by omega]; exact Lib.hid rel2, by rw [show now + ((q + 1 : Nat) : Int) = now + q + 1 by omega]; exact t2H⟩
            case measure => simp [intOf]; omega
          · obtain rfl : at_ = now + q + 1 := by rcases hat with h | h; exact absurd h m0; exact h
            have mb : ((m : Int) != 0) = true := by simpa using m0
            clear hat m0
            go_wp2
            go_roundw
            case rel => exact ⟨q + 1, T2, R2, by omega, by go_num, by rw [show now + ((q + 1 : Nat) : Int) = now + q + 1 by omega]; exact Lib.hid rel2, by rw [show now + ((q + 1 : Nat) : Int) = now + q + 1 by omega]; exact t2H⟩
            case measure => simp [intOf]; omega
        · obtain hqe : (q : Int) = y0 := by omega
          rw [hqe] at hrl' tri
          clear hq hlt T0H hrl
          have X := tri.out.x
          rw [← hXH.out] at X
          have X1 := cellsAt X 1
          have X2 := cellsAt X 2
          have X3 := cellsAt X 3
          simp at X1 X2 X3
          clear X
          by_cases k0 : y1 = 0
          · subst k0
            by_cases hi : 0 ≤ y2 ∧ y2 < 4
            · obtain ⟨i, rfl⟩ : ∃ i : Nat, y2 = i := ⟨y2.toNat, by omega⟩
              have hi4 : i < 4 := by omega
              have s1 := setReload_any BC i T' hi4 y3 x0 (by omega) wr tri.out.c
              have rel3 := both_reload hrl'.out i hi4 y3 x0 (by omega)
              have s1H := Lib.hid s1
              have i0 : decide (0 ≤ (i : Int)) = true := decide_eq_true (by omega)
              have i1 : decide ((i : Int) < 4) = true := decide_eq_true (by omega)
              have hiH := Lib.hid hi
              have rel3H := Lib.hid rel3
              clear s1 hi rel3
              go_wp2_with fail
              refine s1H.out.mono ?_
              rintro e w4 ⟨rfl, o4⟩
              have t4 := tri.out.callC o4 hBC (by omega) (by omega)
              have X := t4.x
              rw [← hXH.out] at X
              have X2' := cellsAt X 2
              have X3' := cellsAt X 3
              simp at X2' X3'
              obtain ⟨C0, C1, C2, C3⟩ := four t4.r hi4
              have FR := freeAt t4.r
              have t4H := Lib.hid t4
              clear X t4 o4 s1H
              go_wp2_with fail
              have ib0 : 0 ≤ (i : Int) := hiH.out.1
              have ib1 : (i : Int) < 4 := hiH.out.2
              go_still_tail 10, (by kernel_rfl)
              repeat still_step
              change wpList _ _ _ _ _ (World.drew _)
              go_wp2_with fail
              have o5 : Only (BC + 1) (rt (upd R' i { R' i with re := y3 }) (now + y0)) w4 ((w4.setCell ⟨BC + 1, i * 4, none⟩ (.int .i64 y3)).drew) := (set_re (Only.refl t4H.out.r) hi4 y3).drew
              have t5H := Lib.hid (t4H.out.callR o5 (by omega) (by omega) hBX)
              clear o5 C0 C1 C2 C3 FR X2' X3' t4H
              generalize (w4.setCell ⟨BC + 1, i * 4, none⟩ (.int .i64 y3)).drew = w5 at *
              generalize upd T' i { T' i with re := y3 } = T3 at *
              generalize upd R' i { R' i with re := y3 } = R3 at *
              as_aux_lemma =>
                go_loopw [118] (fun j wx => ∃ (p nn : Nat), p ≤ 4 ∧ j = .int .i64 p ∧ wx = w5.drewN nn) (fun j _ => 4 - (intOf j).toNat)
                case atStart => exact ⟨0, 0, by omega, rfl, rfl⟩
                case round =>
                  obtain ⟨p, nn, hp, rfl, rfl⟩ := hrel
                  by_cases hlt : p < 4
                  · have rq := rel3H.out p hlt
                    have C16 : w5.cell? ⟨BC + 1, 16, none⟩ = some (.int .i64 (now + y0)) := (cellsAt t5H.out.r _).trans (now_at _ _)
                    obtain ⟨C0, C1, C2, C3⟩ := four t5H.out.r hlt
                    have Rd := fun n => read_any BC p T3 hlt (ok_of rq (by omega)) (now + y0) (by omega) (by omega) (w5.drewN n) (drewN_heap n t5H.out.c)
                    rw [value_both rq] at Rd
                    have Ct := fun n => control_any BC p T3 hlt (w5.drewN n) (drewN_heap n t5H.out.c)
                    have As := fun n => asks_any BC p T3 hlt rq.ct0 rq.ct1 (w5.drewN n) (drewN_heap n t5H.out.c)
                    have g : Go.bits .and .u16 ((R3 p).ct / 64) 1 = (R3 p).ct / 64 % 2 := and_h (by have := rq.ct; have := rq.ct0; omega) (by have := rq.ct; have := rq.ct1; omega) 1 (by decide) _ (by decide) _ (by decide)
                    rw [← rq.ct] at Ct As
                    have RdH := Lib.hid Rd
                    have CtH := Lib.hid Ct
                    have AsH := Lib.hid As
                    clear Rd Ct As
                    have pb0 : 0 ≤ (p : Int) := by omega
                    have pb1 : (p : Int) < 4 := by omega
                    have rc0 := rq.rc0
                    have rc1 := rq.rc1
                    have cw : wrap64 (R3 p).co = (R3 p).co := wrap64_id (by omega) (by omega)
                    have cw2 : IntKind.i64.wrap (R3 p).co = (R3 p).co := by rw [IntKind.wrap_i64]; omega
                    have nb : ((R3 p).co != (R3 p).co) = false := by simp
                    have nc : ((R3 p).ct != (R3 p).ct) = false := by simp
                    go_wp2_with fail
                    go_quiet ((first | (go_at_call 16; (with_reducible exact quiet_add (RdH.out _))) | (go_at_call 17; (with_reducible exact quiet_add_same (flip (CtH.out _)))) | (go_at_call 18; (with_reducible exact quiet_add_same (flip (AsH.out _))))))
                    go_wp2
                    go_roundw
                    case rel => exact ⟨p + 1, _, by omega, by go_num, rfl⟩
                    case measure => simp [intOf]; omega
                  · obtain rfl : p = 4 := by omega
                    go_wp2
                    go_roundw
                    case rel => exact ⟨k + 1, T3, R3, now + y0, by omega, by go_num, below_dn t5H.out.b _, rel3H, by omega, by omega, Lib.hid (drewN_heap _ t5H.out.c), Lib.hid (drewN_heap _ t5H.out.r)⟩
                    case measure => simp [intOf]; omega
            · have qn : ¬ (0 ≤ y2 ∧ y2 < 4) := hi
              have qnH := Lib.hid qn
              clear hi qn
              by_cases c : y2 < 0
              · have i0 : decide (0 ≤ y2) = false := decide_eq_false (by omega)
                clear c
                obtain ⟨w5, rfl⟩ : ∃ v : World, v = wr := ⟨_, rfl⟩
                go_wp2_with fail
                refine (setReload_no (.pointer (some ⟨BC, 0, none⟩)) y2 y3 _ (.inr ⟨⟨_, rfl⟩, qnH.out⟩)).mono ?_
                rintro e w' ⟨rfl, rfl⟩
                go_wp2_with fail
                have t5H := tri
                have rel3H := hrl'
                clear X1 X2 X3 tri hrl'
                generalize T' = T3 at *
                generalize R' = R3 at *
                as_aux_lemma =>
                  go_loopw [118] (fun j wx => ∃ (p nn : Nat), p ≤ 4 ∧ j = .int .i64 p ∧ wx = w5.drewN nn) (fun j _ => 4 - (intOf j).toNat)
                  case atStart => exact ⟨0, 0, by omega, rfl, rfl⟩
                  case round =>
                    obtain ⟨p, nn, hp, rfl, rfl⟩ := hrel
                    by_cases hlt : p < 4
                    · have rq := rel3H.out p hlt
                      have C16 : w5.cell? ⟨BC + 1, 16, none⟩ = some (.int .i64 (now + y0)) := (cellsAt t5H.out.r _).trans (now_at _ _)
                      obtain ⟨C0, C1, C2, C3⟩ := four t5H.out.r hlt
                      have Rd := fun n => read_any BC p T3 hlt (ok_of rq (by omega)) (now + y0) (by omega) (by omega) (w5.drewN n) (drewN_heap n t5H.out.c)
                      rw [value_both rq] at Rd
                      have Ct := fun n => control_any BC p T3 hlt (w5.drewN n) (drewN_heap n t5H.out.c)
                      have As := fun n => asks_any BC p T3 hlt rq.ct0 rq.ct1 (w5.drewN n) (drewN_heap n t5H.out.c)
                      have g : Go.bits .and .u16 ((R3 p).ct / 64) 1 = (R3 p).ct / 64 % 2 := and_h (by have := rq.ct; have := rq.ct0; omega) (by have := rq.ct; have := rq.ct1; omega) 1 (by decide) _ (by decide) _ (by decide)
                      rw [← rq.ct] at Ct As
                      have RdH := Lib.hid Rd
                      have CtH := Lib.hid Ct
                      have AsH := Lib.hid As
                      clear Rd Ct As
                      have pb0 : 0 ≤ (p : Int) := by omega
                      have pb1 : (p : Int) < 4 := by omega
                      have rc0 := rq.rc0
                      have rc1 := rq.rc1
                      have cw : wrap64 (R3 p).co = (R3 p).co := wrap64_id (by omega) (by omega)
                      have cw2 : IntKind.i64.wrap (R3 p).co = (R3 p).co := by rw [IntKind.wrap_i64]; omega
                      have nb : ((R3 p).co != (R3 p).co) = false := by simp
                      have nc : ((R3 p).ct != (R3 p).ct) = false := by simp
                      go_wp2_with fail
                      go_quiet ((first | (go_at_call 16; (with_reducible exact quiet_add (RdH.out _))) | (go_at_call 17; (with_reducible exact quiet_add_same (flip (CtH.out _)))) | (go_at_call 18; (with_reducible exact quiet_add_same (flip (AsH.out _))))))
                      go_wp2
                      go_roundw
                      case rel => exact ⟨p + 1, _, by omega, by go_num, rfl⟩
                      case measure => simp [intOf]; omega
                    · obtain rfl : p = 4 := by omega
                      go_wp2
                      go_roundw
                      case rel => exact ⟨k + 1, T3, R3, now + y0, by omega, by go_num, below_dn t5H.out.b _, rel3H, by omega, by omega, Lib.hid (drewN_heap _ t5H.out.c), Lib.hid (drewN_heap _ t5H.out.r)⟩
                      case measure => simp [intOf]; omega
              · have i0 : decide (0 ≤ y2) = true := decide_eq_true (by omega)
                have i1 : decide (y2 < 4) = false := decide_eq_false (by have := qnH.out; omega)
                clear c
                obtain ⟨w5, rfl⟩ : ∃ v : World, v = wr := ⟨_, rfl⟩
                go_wp2_with fail
                refine (setReload_no (.pointer (some ⟨BC, 0, none⟩)) y2 y3 _ (.inr ⟨⟨_, rfl⟩, qnH.out⟩)).mono ?_
                rintro e w' ⟨rfl, rfl⟩
                go_wp2_with fail
                have t5H := tri
                have rel3H := hrl'
                clear X1 X2 X3 tri hrl'
                generalize T' = T3 at *
                generalize R' = R3 at *
                as_aux_lemma =>
                  go_loopw [118] (fun j wx => ∃ (p nn : Nat), p ≤ 4 ∧ j = .int .i64 p ∧ wx = w5.drewN nn) (fun j _ => 4 - (intOf j).toNat)
                  case atStart => exact ⟨0, 0, by omega, rfl, rfl⟩
                  case round =>
                    obtain ⟨p, nn, hp, rfl, rfl⟩ := hrel
                    by_cases hlt : p < 4
                    · have rq := rel3H.out p hlt
                      have C16 : w5.cell? ⟨BC + 1, 16, none⟩ = some (.int .i64 (now + y0)) := (cellsAt t5H.out.r _).trans (now_at _ _)
                      obtain ⟨C0, C1, C2, C3⟩ := four t5H.out.r hlt
                      have Rd := fun n => read_any BC p T3 hlt (ok_of rq (by omega)) (now + y0) (by omega) (by omega) (w5.drewN n) (drewN_heap n t5H.out.c)
                      rw [value_both rq] at Rd
                      have Ct := fun n => control_any BC p T3 hlt (w5.drewN n) (drewN_heap n t5H.out.c)
                      have As := fun n => asks_any BC p T3 hlt rq.ct0 rq.ct1 (w5.drewN n) (drewN_heap n t5H.out.c)
                      have g : Go.bits .and .u16 ((R3 p).ct / 64) 1 = (R3 p).ct / 64 % 2 := and_h (by have := rq.ct; have := rq.ct0; omega) (by have := rq.ct; have := rq.ct1; omega) 1 (by decide) _ (by decide) _ (by decide)
                      rw [← rq.ct] at Ct As
                      have RdH := Lib.hid Rd
                      have CtH := Lib.hid Ct
                      have AsH := Lib.hid As
                      clear Rd Ct As
                      have pb0 : 0 ≤ (p : Int) := by omega
                      have pb1 : (p : Int) < 4 := by omega
                      have rc0 := rq.rc0
                      have rc1 := rq.rc1
                      have cw : wrap64 (R3 p).co = (R3 p).co := wrap64_id (by omega) (by omega)
                      have cw2 : IntKind.i64.wrap (R3 p).co = (R3 p).co := by rw [IntKind.wrap_i64]; omega
                      have nb : ((R3 p).co != (R3 p).co) = false := by simp
                      have nc : ((R3 p).ct != (R3 p).ct) = false := by simp
                      go_wp2_with fail
                      go_quiet ((first | (go_at_call 16; (with_reducible exact quiet_add (RdH.out _))) | (go_at_call 17; (with_reducible exact quiet_add_same (flip (CtH.out _)))) | (go_at_call 18; (with_reducible exact quiet_add_same (flip (AsH.out _))))))
                      go_wp2
                      go_roundw
                      case rel => exact ⟨p + 1, _, by omega, by go_num, rfl⟩
                      case measure => simp [intOf]; omega
                    · obtain rfl : p = 4 := by omega
                      go_wp2
                      go_roundw
                      case rel => exact ⟨k + 1, T3, R3, now + y0, by omega, by go_num, below_dn t5H.out.b _, rel3H, by omega, by omega, Lib.hid (drewN_heap _ t5H.out.c), Lib.hid (drewN_heap _ t5H.out.r)⟩
                      case measure => simp [intOf]; omega
          by_cases k1 : y1 = 1
          · subst k1
            by_cases hi : 0 ≤ y2 ∧ y2 < 4
            · obtain ⟨i, rfl⟩ : ∃ i : Nat, y2 = i := ⟨y2.toNat, by omega⟩
              have hi4 : i < 4 := by omega
              have rq := hrl'.out i hi4
              have a9 := and199 y3 x0 (by omega)
              have s1 := setControl_any BC i T' hi4 (ok_of rq (by omega)) (now + y0) y3 (by omega) (by omega) _ rfl a9.1 a9.2 wr.drew (drew_heap tri.out.c)
              have s2 := fun w hs => set_any (BC + 1) i R' (now + y0) hi4 (by have := rq.ct; have := rq.ct0; omega) (by have := rq.ct; have := rq.ct1; omega) y3 _ rfl a9.1 a9.2 w hs
              have rel3 := both_set hrl'.out (by omega) i hi4 y3 a9.1 a9.2
              have s1H := Lib.hid s1
              have s2H := Lib.hid s2
              have i0 : decide (0 ≤ (i : Int)) = true := decide_eq_true (by omega)
              have i1 : decide ((i : Int) < 4) = true := decide_eq_true (by omega)
              have hiH := Lib.hid hi
              have rel3H := Lib.hid rel3
              have C16 : wr.cell? ⟨BC + 1, 16, none⟩ = some (.int .i64 (now + y0)) := (cellsAt tri.out.r _).trans (now_at _ _)
              clear s1 s2 hi rel3 a9 rq
              go_wp2_with fail
              go_still_tail 9, (by kernel_rfl)
              repeat still_step
              change wpList _ _ _ _ _ (World.drew _)
              go_wp2_with fail
              refine s1H.out.mono ?_
              rintro e w4 ⟨rfl, o4⟩
              have t4 : Tri w BC (BC + 1) BX _ R' (now + y0) XX w4 := Tri.callC ⟨below_d1 tri.out.b, drew_heap tri.out.c, drew_heap tri.out.r, drew_heap tri.out.x⟩ o4 hBC (by omega) (by omega)
              have X := t4.x
              rw [← hXH.out] at X
              have X2' := cellsAt X 2
              have X3' := cellsAt X 3
              simp at X2' X3'
              have t4H := Lib.hid t4
              clear X t4 o4 s1H C16
              go_wp2_with fail
              refine (s2H.out _ t4H.out.r).mono ?_
              rintro e w5 ⟨rfl, o5⟩
              have t5H := Lib.hid (t4H.out.callR o5 (by omega) (by omega) hBX)
              clear o5 X2' X3' t4H s2H
              go_wp2_with fail
              generalize upd T' i (setC T' i (now + y0) y3) = T3 at *
              generalize upd R' i (setR (R' i) y3) = R3 at *
              as_aux_lemma =>
                go_loopw [118] (fun j wx => ∃ (p nn : Nat), p ≤ 4 ∧ j = .int .i64 p ∧ wx = w5.drewN nn) (fun j _ => 4 - (intOf j).toNat)
                case atStart => exact ⟨0, 0, by omega, rfl, rfl⟩
                case round =>
                  obtain ⟨p, nn, hp, rfl, rfl⟩ := hrel
                  by_cases hlt : p < 4
                  · have rq := rel3H.out p hlt
                    have C16 : w5.cell? ⟨BC + 1, 16, none⟩ = some (.int .i64 (now + y0)) := (cellsAt t5H.out.r _).trans (now_at _ _)
                    obtain ⟨C0, C1, C2, C3⟩ := four t5H.out.r hlt
                    have Rd := fun n => read_any BC p T3 hlt (ok_of rq (by omega)) (now + y0) (by omega) (by omega) (w5.drewN n) (drewN_heap n t5H.out.c)
                    rw [value_both rq] at Rd
                    have Ct := fun n => control_any BC p T3 hlt (w5.drewN n) (drewN_heap n t5H.out.c)
                    have As := fun n => asks_any BC p T3 hlt rq.ct0 rq.ct1 (w5.drewN n) (drewN_heap n t5H.out.c)
                    have g : Go.bits .and .u16 ((R3 p).ct / 64) 1 = (R3 p).ct / 64 % 2 := and_h (by have := rq.ct; have := rq.ct0; omega) (by have := rq.ct; have := rq.ct1; omega) 1 (by decide) _ (by decide) _ (by decide)
                    rw [← rq.ct] at Ct As
                    have RdH := Lib.hid Rd
                    have CtH := Lib.hid Ct
                    have AsH := Lib.hid As
                    clear Rd Ct As
                    have pb0 : 0 ≤ (p : Int) := by omega
                    have pb1 : (p : Int) < 4 := by omega
                    have rc0 := rq.rc0
                    have rc1 := rq.rc1
                    have cw : wrap64 (R3 p).co = (R3 p).co := wrap64_id (by omega) (by omega)
                    have cw2 : IntKind.i64.wrap (R3 p).co = (R3 p).co := by rw [IntKind.wrap_i64]; omega
                    have nb : ((R3 p).co != (R3 p).co) = false := by simp
                    have nc : ((R3 p).ct != (R3 p).ct) = false := by simp
                    go_wp2_with fail
                    go_quiet ((first | (go_at_call 16; (with_reducible exact quiet_add (RdH.out _))) | (go_at_call 17; (with_reducible exact quiet_add_same (flip (CtH.out _)))) | (go_at_call 18; (with_reducible exact quiet_add_same (flip (AsH.out _))))))
                    go_wp2
                    go_roundw
                    case rel => exact ⟨p + 1, _, by omega, by go_num, rfl⟩
                    case measure => simp [intOf]; omega
                  · obtain rfl : p = 4 := by omega
                    go_wp2
                    go_roundw
                    case rel => exact ⟨k + 1, T3, R3, now + y0, by omega, by go_num, below_dn t5H.out.b _, rel3H, by omega, by omega, Lib.hid (drewN_heap _ t5H.out.c), Lib.hid (drewN_heap _ t5H.out.r)⟩
                    case measure => simp [intOf]; omega
            · have qn : ¬ (0 ≤ y2 ∧ y2 < 4) := hi
              have qnH := Lib.hid qn
              clear hi qn
              by_cases c : y2 < 0
              · have i0 : decide (0 ≤ y2) = false := decide_eq_false (by omega)
                clear c
                obtain ⟨w5, rfl⟩ : ∃ v : World, v = wr := ⟨_, rfl⟩
                have C16 : w5.cell? ⟨BC + 1, 16, none⟩ = some (.int .i64 (now + y0)) := (cellsAt tri.out.r _).trans (now_at _ _)
                go_wp2_with fail
                go_still_tail 9, (by kernel_rfl)
                repeat still_step
                change wpList _ _ _ _ _ (World.drew _)
                go_wp2_with fail
                refine (setControl_no (.pointer (some ⟨BC, 0, none⟩)) y2 (now + y0) y3 _ (.inr ⟨⟨_, rfl⟩, qnH.out⟩)).mono ?_
                rintro e w' ⟨rfl, rfl⟩
                go_wp2_with fail
                have t5H : Hid (Tri w BC (BC + 1) BX T' R' (now + y0) XX w5.drew) := Lib.hid ⟨below_d1 tri.out.b, drew_heap tri.out.c, drew_heap tri.out.r, drew_heap tri.out.x⟩
                have rel3H := hrl'
                clear X1 X2 X3 tri hrl' C16
                generalize w5.drew = w5 at *
                generalize T' = T3 at *
                generalize R' = R3 at *
                as_aux_lemma =>
                  go_loopw [118] (fun j wx => ∃ (p nn : Nat), p ≤ 4 ∧ j = .int .i64 p ∧ wx = w5.drewN nn) (fun j _ => 4 - (intOf j).toNat)
                  case atStart => exact ⟨0, 0, by omega, rfl, rfl⟩
                  case round =>
                    obtain ⟨p, nn, hp, rfl, rfl⟩ := hrel
                    by_cases hlt : p < 4
                    · have rq := rel3H.out p hlt
                      have C16 : w5.cell? ⟨BC + 1, 16, none⟩ = some (.int .i64 (now + y0)) := (cellsAt t5H.out.r _).trans (now_at _ _)
                      obtain ⟨C0, C1, C2, C3⟩ := four t5H.out.r hlt
                      have Rd := fun n => read_any BC p T3 hlt (ok_of rq (by omega)) (now + y0) (by omega) (by omega) (w5.drewN n) (drewN_heap n t5H.out.c)
                      rw [value_both rq] at Rd
                      have Ct := fun n => control_any BC p T3 hlt (w5.drewN n) (drewN_heap n t5H.out.c)
                      have As := fun n => asks_any BC p T3 hlt rq.ct0 rq.ct1 (w5.drewN n) (drewN_heap n t5H.out.c)
                      have g : Go.bits .and .u16 ((R3 p).ct / 64) 1 = (R3 p).ct / 64 % 2 := and_h (by have := rq.ct; have := rq.ct0; omega) (by have := rq.ct; have := rq.ct1; omega) 1 (by decide) _ (by decide) _ (by decide)
                      rw [← rq.ct] at Ct As
                      have RdH := Lib.hid Rd
                      have CtH := Lib.hid Ct
                      have AsH := Lib.hid As
                      clear Rd Ct As
                      have pb0 : 0 ≤ (p : Int) := by omega
                      have pb1 : (p : Int) < 4 := by omega
                      have rc0 := rq.rc0
                      have rc1 := rq.rc1
                      have cw : wrap64 (R3 p).co = (R3 p).co := wrap64_id (by omega) (by omega)
                      have cw2 : IntKind.i64.wrap (R3 p).co = (R3 p).co := by rw [IntKind.wrap_i64]; omega
                      have nb : ((R3 p).co != (R3 p).co) = false := by simp
                      have nc : ((R3 p).ct != (R3 p).ct) = false := by simp
                      go_wp2_with fail
                      go_quiet ((first | (go_at_call 16; (with_reducible exact quiet_add (RdH.out _))) | (go_at_call 17; (with_reducible exact quiet_add_same (flip (CtH.out _)))) | (go_at_call 18; (with_reducible exact quiet_add_same (flip (AsH.out _))))))
                      go_wp2
                      go_roundw
                      case rel => exact ⟨p + 1, _, by omega, by go_num, rfl⟩
                      case measure => simp [intOf]; omega
                    · obtain rfl : p = 4 := by omega
                      go_wp2
                      go_roundw
                      case rel => exact ⟨k + 1, T3, R3, now + y0, by omega, by go_num, below_dn t5H.out.b _, rel3H, by omega, by omega, Lib.hid (drewN_heap _ t5H.out.c), Lib.hid (drewN_heap _ t5H.out.r)⟩
                      case measure => simp [intOf]; omega
              · have i0 : decide (0 ≤ y2) = true := decide_eq_true (by omega)
                have i1 : decide (y2 < 4) = false := decide_eq_false (by have := qnH.out; omega)
                clear c
                obtain ⟨w5, rfl⟩ : ∃ v : World, v = wr := ⟨_, rfl⟩
                have C16 : w5.cell? ⟨BC + 1, 16, none⟩ = some (.int .i64 (now + y0)) := (cellsAt tri.out.r _).trans (now_at _ _)
                go_wp2_with fail
                go_still_tail 9, (by kernel_rfl)
                repeat still_step
                change wpList _ _ _ _ _ (World.drew _)
                go_wp2_with fail
                refine (setControl_no (.pointer (some ⟨BC, 0, none⟩)) y2 (now + y0) y3 _ (.inr ⟨⟨_, rfl⟩, qnH.out⟩)).mono ?_
                rintro e w' ⟨rfl, rfl⟩
                go_wp2_with fail
                have t5H : Hid (Tri w BC (BC + 1) BX T' R' (now + y0) XX w5.drew) := Lib.hid ⟨below_d1 tri.out.b, drew_heap tri.out.c, drew_heap tri.out.r, drew_heap tri.out.x⟩
                have rel3H := hrl'
                clear X1 X2 X3 tri hrl' C16
                generalize w5.drew = w5 at *
                generalize T' = T3 at *
                generalize R' = R3 at *
                as_aux_lemma =>
                  go_loopw [118] (fun j wx => ∃ (p nn : Nat), p ≤ 4 ∧ j = .int .i64 p ∧ wx = w5.drewN nn) (fun j _ => 4 - (intOf j).toNat)
                  case atStart => exact ⟨0, 0, by omega, rfl, rfl⟩
                  case round =>
                    obtain ⟨p, nn, hp, rfl, rfl⟩ := hrel
                    by_cases hlt : p < 4
                    · have rq := rel3H.out p hlt
                      have C16 : w5.cell? ⟨BC + 1, 16, none⟩ = some (.int .i64 (now + y0)) := (cellsAt t5H.out.r _).trans (now_at _ _)
                      obtain ⟨C0, C1, C2, C3⟩ := four t5H.out.r hlt
                      have Rd := fun n => read_any BC p T3 hlt (ok_of rq (by omega)) (now + y0) (by omega) (by omega) (w5.drewN n) (drewN_heap n t5H.out.c)
                      rw [value_both rq] at Rd
                      have Ct := fun n => control_any BC p T3 hlt (w5.drewN n) (drewN_heap n t5H.out.c)
                      have As := fun n => asks_any BC p T3 hlt rq.ct0 rq.ct1 (w5.drewN n) (drewN_heap n t5H.out.c)
                      have g : Go.bits .and .u16 ((R3 p).ct / 64) 1 = (R3 p).ct / 64 % 2 := and_h (by have := rq.ct; have := rq.ct0; omega) (by have := rq.ct; have := rq.ct1; omega) 1 (by decide) _ (by decide) _ (by decide)
                      rw [← rq.ct] at Ct As
                      have RdH := Lib.hid Rd
                      have CtH := Lib.hid Ct
                      have AsH := Lib.hid As
                      clear Rd Ct As
                      have pb0 : 0 ≤ (p : Int) := by omega
                      have pb1 : (p : Int) < 4 := by omega
                      have rc0 := rq.rc0
                      have rc1 := rq.rc1
                      have cw : wrap64 (R3 p).co = (R3 p).co := wrap64_id (by omega) (by omega)
                      have cw2 : IntKind.i64.wrap (R3 p).co = (R3 p).co := by rw [IntKind.wrap_i64]; omega
                      have nb : ((R3 p).co != (R3 p).co) = false := by simp
                      have nc : ((R3 p).ct != (R3 p).ct) = false := by simp
                      go_wp2_with fail
                      go_quiet ((first | (go_at_call 16; (with_reducible exact quiet_add (RdH.out _))) | (go_at_call 17; (with_reducible exact quiet_add_same (flip (CtH.out _)))) | (go_at_call 18; (with_reducible exact quiet_add_same (flip (AsH.out _))))))
                      go_wp2
                      go_roundw
                      case rel => exact ⟨p + 1, _, by omega, by go_num, rfl⟩
                      case measure => simp [intOf]; omega
                    · obtain rfl : p = 4 := by omega
                      go_wp2
                      go_roundw
                      case rel => exact ⟨k + 1, T3, R3, now + y0, by omega, by go_num, below_dn t5H.out.b _, rel3H, by omega, by omega, Lib.hid (drewN_heap _ t5H.out.c), Lib.hid (drewN_heap _ t5H.out.r)⟩
                      case measure => simp [intOf]; omega
          have e0 : (y1 == 0) = false := by simpa using k0
          have e1 : (y1 == 1) = false := by simpa using k1
          clear k0 k1
          obtain ⟨w5, rfl⟩ : ∃ v : World, v = wr := ⟨_, rfl⟩
          go_wp2_with fail
          have t5H := tri
          have rel3H := hrl'
          clear X1 X2 X3 tri hrl'
          generalize T' = T3 at *
          generalize R' = R3 at *
          as_aux_lemma =>
            go_loopw [118] (fun j wx => ∃ (p nn : Nat), p ≤ 4 ∧ j = .int .i64 p ∧ wx = w5.drewN nn) (fun j _ => 4 - (intOf j).toNat)
            case atStart => exact ⟨0, 0, by omega, rfl, rfl⟩
            case round =>
              obtain ⟨p, nn, hp, rfl, rfl⟩ := hrel
              by_cases hlt : p < 4
              · have rq := rel3H.out p hlt
                have C16 : w5.cell? ⟨BC + 1, 16, none⟩ = some (.int .i64 (now + y0)) := (cellsAt t5H.out.r _).trans (now_at _ _)
                obtain ⟨C0, C1, C2, C3⟩ := four t5H.out.r hlt
                have Rd := fun n => read_any BC p T3 hlt (ok_of rq (by omega)) (now + y0) (by omega) (by omega) (w5.drewN n) (drewN_heap n t5H.out.c)
                rw [value_both rq] at Rd
                have Ct := fun n => control_any BC p T3 hlt (w5.drewN n) (drewN_heap n t5H.out.c)
                have As := fun n => asks_any BC p T3 hlt rq.ct0 rq.ct1 (w5.drewN n) (drewN_heap n t5H.out.c)
                have g : Go.bits .and .u16 ((R3 p).ct / 64) 1 = (R3 p).ct / 64 % 2 := and_h (by have := rq.ct; have := rq.ct0; omega) (by have := rq.ct; have := rq.ct1; omega) 1 (by decide) _ (by decide) _ (by decide)
                rw [← rq.ct] at Ct As
                have RdH := Lib.hid Rd
                have CtH := Lib.hid Ct
                have AsH := Lib.hid As
                clear Rd Ct As
                have pb0 : 0 ≤ (p : Int) := by omega
                have pb1 : (p : Int) < 4 := by omega
                have rc0 := rq.rc0
                have rc1 := rq.rc1
                have cw : wrap64 (R3 p).co = (R3 p).co := wrap64_id (by omega) (by omega)
                have cw2 : IntKind.i64.wrap (R3 p).co = (R3 p).co := by rw [IntKind.wrap_i64]; omega
                have nb : ((R3 p).co != (R3 p).co) = false := by simp
                have nc : ((R3 p).ct != (R3 p).ct) = false := by simp
                go_wp2_with fail
                go_quiet ((first | (go_at_call 16; (with_reducible exact quiet_add (RdH.out _))) | (go_at_call 17; (with_reducible exact quiet_add_same (flip (CtH.out _)))) | (go_at_call 18; (with_reducible exact quiet_add_same (flip (AsH.out _))))))
                go_wp2
                go_roundw
                case rel => exact ⟨p + 1, _, by omega, by go_num, rfl⟩
                case measure => simp [intOf]; omega
              · obtain rfl : p = 4 := by omega
                go_wp2
                go_roundw
                case rel => exact ⟨k + 1, T3, R3, now + y0, by omega, by go_num, below_dn t5H.out.b _, rel3H, by omega, by omega, Lib.hid (drewN_heap _ t5H.out.c), Lib.hid (drewN_heap _ t5H.out.r)⟩
                case measure => simp [intOf]; omega
    · obtain rfl : k = n := by omega
      go_wp2
      go_ret
      exact ⟨rfl, hb⟩
end Go.Proofs.Ytkbjjkolhhmafaa.Th
