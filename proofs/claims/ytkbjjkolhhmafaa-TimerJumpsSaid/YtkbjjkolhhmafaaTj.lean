/- TimerJumps, walked. -/
import Derived.Test.YtkbjjkolhhmafaaTg
import Derived.Deep.LoopGhost
namespace Go.Proofs.Ytkbjjkolhhmafaa.Tj
set_option linter.unusedVariables false
set_option linter.unusedSimpArgs false
open Go.RowKit Go.Proofs.Ytkbjjkolhhmafaa.Bt Go.Proofs.Ytkbjjkolhhmafaa.Wk Go.Proofs.Ytkbjjkolhhmafaa.Sg Go.Proofs.Ytkbjjkolhhmafaa.Ta Go.Proofs.Ytkbjjkolhhmafaa.Tb Go.Proofs.Ytkbjjkolhhmafaa.Te Go.Proofs.Ytkbjjkolhhmafaa.Tf Go.Proofs.Ytkbjjkolhhmafaa.Tg

/-- Both sides, and the call's own block. -/
structure Tri (w : World) (BC BR BX : Nat) (T R : Nat → One) (now : Int) (X : Obj) (w' : World) : Prop where
  b : Below w.heap.size w w'
  c : w'.heap[BC]? = some (tim T)
  r : w'.heap[BR]? = some (rt R now)
  x : w'.heap[BX]? = some X
theorem Tri.callC {w : World} {BC BR BX : Nat} {T R T' : Nat → One} {now : Int} {X : Obj} {w1 w2 : World} (t : Tri w BC BR BX T R now X w1) (o : Only BC (tim T') w1 w2) (h0 : w.heap.size ≤ BC) (h1 : BC < BR) (h2 : BC < BX) : Tri w BC BR BX T' R now X w2 :=
  ⟨below_only t.b o h0 t.b.size, o.at_, o.keep t.r (by omega), o.keep t.x (by omega)⟩
theorem Tri.callR {w : World} {BC BR BX : Nat} {T R R' : Nat → One} {now now' : Int} {X : Obj} {w1 w2 : World} (t : Tri w BC BR BX T R now X w1) (o : Only BR (rt R' now') w1 w2) (h0 : w.heap.size ≤ BR) (h1 : BC < BR) (h2 : BR < BX) : Tri w BC BR BX T R' now' X w2 :=
  ⟨below_only t.b o h0 t.b.size, o.keep t.c (by omega), o.at_, o.keep t.x (by omega)⟩
theorem rt_new : rt Z 0 = Obj.cells #[Value.int .i64 0, Value.int .u16 0, Value.int .i64 0, Value.int .i64 0, Value.int .i64 0, Value.int .u16 0, Value.int .i64 0, Value.int .i64 0, Value.int .i64 0, Value.int .u16 0, Value.int .i64 0, Value.int .i64 0, Value.int .i64 0, Value.int .u16 0, Value.int .i64 0, Value.int .i64 0, Value.int .i64 0] 32 := rfl
theorem Tri.drewN {w : World} {BC BR BX : Nat} {T R : Nat → One} {now : Int} {X : Obj} {w1 : World} (t : Tri w BC BR BX T R now X w1) (n : Nat) : Tri w BC BR BX T R now X (w1.drewN n) :=
  ⟨below_dn t.b n, drewN_heap n t.c, drewN_heap n t.r, drewN_heap n t.x⟩
/-! ### plain -/
theorem tick_next {T R : Nat → One} {now : Int} (h : Rel T R now) : Rel (fireF T (now + 1) 4).1 (tickF R 4).1 (now + 1) ∧ (tickF R 4).2 = (fireF T (now + 1) 4).2 := by
  obtain ⟨hm, hr⟩ := step_k h 4 (Nat.le_refl 4)
  refine ⟨fun i hi => ?_, hm⟩
  have := hr i hi
  rwa [← free_ct (i := i) (free_fire T (now + 1) 4 i)] at this
theorem tick_idle {T R : Nat → One} {now : Int} (h : Rel T R now) (d : (nextF T 4).2 = false ∨ now + 1 < (nextF T 4).1) : Rel T (tickF R 4).1 (now + 1) ∧ (tickF R 4).2 = 0 := by
  have idle : fireF T (now + 1) 4 = (T, 0) := fire_idle 4 fun i hi f => by
    rcases d with n | l
    · rw [next_no 4 n i hi] at f; cases f
    · have := next_le 4 i hi f
      omega
  have := tick_next h
  rw [idle] at this
  exact this
theorem next_gt {T R : Nat → One} {now : Int} (h : Rel T R now) (d : (nextF T 4).2 = true) : now < (nextF T 4).1 := by
  obtain ⟨i, hi, f, e⟩ := next_is 4 d
  have := due_ge (by have := h i hi; rwa [f] at this)
  omega
theorem fire_nz {T : Nat → One} (d : (nextF T 4).2 = true) : (fireF T (nextF T 4).1 4).2 ≠ 0 := by
  obtain ⟨i, hi, f, e⟩ := next_is 4 d
  exact fire_some 4 i hi f e.symm
theorem tick_contract {T R : Nat → One} {now : Int} (h : Rel T R now) (n0 : 0 ≤ now) (n1 : now ≤ 1000000) : ∀ c w, w.heap[c]? = some (rt R now) → Calls Try.prog 11 #[.pointer (some ⟨c, 0, none⟩)] w fun e w' => e = .returned (.int .i64 (tickF R 4).2) ∧ Only c (rt (tickF R 4).1 (now + 1)) w w' :=
  fun c w hs => tick_any c R now (fun i hi => rk_of (h i hi)) n0 (by omega) w hs
/-- On the way to a running over. -/
def Phase (T : Nat → One) (at_ q : Int) (R : Nat → One) (m : Nat) : Prop := (q < at_ ∧ Rel T R q ∧ m = 0) ∨ (q = at_ ∧ Rel (fireF T at_ 4).1 R at_ ∧ m = (fireF T at_ 4).2)
theorem phase_step {T R : Nat → One} {q : Int} (h : Rel T R q) (d : (nextF T 4).2 = true) (l : q < (nextF T 4).1) : Phase T (nextF T 4).1 (q + 1) (tickF R 4).1 (tickF R 4).2 := by
  by_cases e : q + 1 < (nextF T 4).1
  · obtain ⟨a, b⟩ := tick_idle h (.inr e)
    exact .inl ⟨e, a, b⟩
  · have e : q + 1 = (nextF T 4).1 := by omega
    obtain ⟨a, b⟩ := tick_next h
    rw [e] at a b
    rw [e]
    exact .inr ⟨rfl, a, b⟩
set_option maxRecDepth 100000 in
set_option maxHeartbeats 8000000 in
theorem jumps_law (A : Option Addr) (n cap : Nat) (f0 f1 f2 f3 : Nat → Int) (w : World) (hc : n ≤ cap) (hm : cap ≤ maxLen)
    (he : Elts w A n 4 (fun i => [.int .i64 (f0 i), .int .i64 (f1 i), .int .i64 (f2 i), .int .u16 (f3 i)]))
    (hf : ∀ i, i < n → (Lit.int .i64 (f0 i)).wf = true ∧ (Lit.int .i64 (f1 i)).wf = true ∧ (Lit.int .i64 (f2 i)).wf = true ∧ (Lit.int .u16 (f3 i)).wf = true ∧ True) :
    Calls Try.prog 3 #[.slice A n cap] w fun e w' => e = .returned (.bool true) ∧ Below w.heap.size w w' := by
  unfold maxLen at hm
  have HE := Lib.hid he
  have HF := Lib.hid hf
  clear he hf
  by_cases n40 : 40 < n
  · have d40 : decide (40 < (n : Int)) = true := decide_eq_true (by omega)
    go_enter Try.func3, Try.ntmps3
    go_wp2_with fail
    refine (awake_any _).mono ?_
    rintro e w0 ⟨rfl, hb0⟩
    go_wp2
    go_ret
    exact ⟨rfl, hb0⟩
  have d40 : decide (40 < (n : Int)) = false := decide_eq_false (by omega)
  go_enter Try.func3, Try.ntmps3
  go_wp2_with fail
  refine (awake_any _).mono ?_
  rintro e w0 ⟨rfl, hb0⟩
  go_wp2_with fail
  refine (new_any _).mono ?_
  rintro e w1 ⟨rfl, rfl⟩
  go_wp2_with fail
  have hz0 := hb0.size
  have hC : ((w0.alloc (tim fun _ => zero)).alloc (rt Z 0)).heap[w0.heap.size]? = some (tim Z) := alloc_old _ (alloc_new _ _)
  have hR : ((w0.alloc (tim fun _ => zero)).alloc (rt Z 0)).heap[(w0.alloc (tim fun _ => zero)).heap.size]? = some (rt Z 0) := alloc_new _ _
  have hlt : w0.heap.size < (w0.alloc (tim fun _ => zero)).heap.size := by simp
  have hb : Below w.heap.size w ((w0.alloc (tim fun _ => zero)).alloc (rt Z 0)) := Below.alloc (Below.alloc hb0 hz0 _) (by simp; omega) _
  rw [show (w0.alloc (tim fun _ => zero)).heap.size = w0.heap.size + 1 by simp] at hR
  rw [rt_new] at hC hR hb
  generalize (w0.alloc (tim fun _ => zero)).alloc (Obj.cells #[Value.int .i64 0, Value.int .u16 0, Value.int .i64 0, Value.int .i64 0, Value.int .i64 0, Value.int .u16 0, Value.int .i64 0, Value.int .i64 0, Value.int .i64 0, Value.int .u16 0, Value.int .i64 0, Value.int .i64 0, Value.int .i64 0, Value.int .u16 0, Value.int .i64 0, Value.int .i64 0, Value.int .i64 0] 32) = ww at *
  rw [← rt_new] at hR
  have hCH := Lib.hid hC
  have hRH := Lib.hid hR
  clear hC hR hb0 hlt
  have hB0 : w.heap.size ≤ w0.heap.size := hz0
  generalize w0.heap.size = BC at *
  go_loopw [25] (fun i wr => ∃ (k : Nat) (T R : Nat → One) (now : Int), k ≤ n ∧ i = .int .i64 k ∧ Below w.heap.size w wr ∧ Hid (Rel T R now) ∧ 0 ≤ now ∧ now ≤ 5000 * k ∧ Hid (wr.heap[BC]? = some (tim T)) ∧ Hid (wr.heap[BC + 1]? = some (rt R now))) (fun i _ => n - (intOf i).toNat)
  case atStart => exact ⟨0, Z, Z, 0, by omega, rfl, hb, Lib.hid rel_new, Int.le_refl _, by omega, hCH, hRH⟩
  case round =>
    clear hb hCH hRH
    obtain ⟨k, T, R, now, hk, rfl, hb, hrl, n0, n1, hC, hR⟩ := hrel
    by_cases hkn : k < n
    · obtain ⟨a, rfl, hal, hcell⟩ := HE.out.cells hb hkn
      obtain ⟨q0, q1, q2, hx, _⟩ := HF.out k hkn
      obtain ⟨x0, x1⟩ := bounds_u16 hx
      have ha : (a.add (k * 4)).block < wr.heap.size := Nat.lt_of_lt_of_le hal hb.size
      have g0 : wr.cell? (a.add (k * 4)) = some (.int .i64 (f0 k)) := hcell 0 (by decide)
      have g1 : wr.cell? ⟨(a.add (k * 4)).block, (a.add (k * 4)).off + 1, none⟩ = some (.int .i64 (f1 k)) := hcell 1 (by decide)
      have g2 : wr.cell? ⟨(a.add (k * 4)).block, (a.add (k * 4)).off + 2, none⟩ = some (.int .i64 (f2 k)) := hcell 2 (by decide)
      have g3 : wr.cell? ⟨(a.add (k * 4)).block, (a.add (k * 4)).off + 3, none⟩ = some (.int .u16 (f3 k)) := hcell 3 (by decide)
      clear hcell hx q0 q1 q2
      generalize f0 k = y0 at *
      generalize f1 k = y1 at *
      generalize f2 k = y2 at *
      generalize f3 k = y3 at *
      have hBX : BC + 1 < wr.heap.size := sizeAt hR.out
      have T0 : Tri w BC (BC + 1) wr.heap.size T R now (.cells #[.int .i64 y0, .int .i64 y1, .int .i64 y2, .int .u16 y3] 34) (wr.alloc (.cells #[.int .i64 y0, .int .i64 y1, .int .i64 y2, .int .u16 y3] 34)) := ⟨hb.alloc hb.size _, alloc_old _ hC.out, alloc_old _ hR.out, alloc_new _ _⟩
      have T0H := Lib.hid T0
      clear T0 hC hR
      by_cases c0 : y0 < 0
      · have d0 : decide (y0 < 0) = true := decide_eq_true c0
        clear c0
        go_wp2
        go_roundw
        case rel => exact ⟨k + 1, T, R, now, by omega, by go_num, T0H.out.b, hrl, n0, by omega, Lib.hid T0H.out.c, Lib.hid T0H.out.r⟩
        case measure => simp [intOf]; omega
      by_cases c1 : 5000 < y0
      · have d0 : decide (y0 < 0) = false := decide_eq_false c0
        have d1 : decide (5000 < y0) = true := decide_eq_true c1
        clear c0 c1
        go_wp2
        go_roundw
        case rel => exact ⟨k + 1, T, R, now, by omega, by go_num, T0H.out.b, hrl, n0, by omega, Lib.hid T0H.out.c, Lib.hid T0H.out.r⟩
        case measure => simp [intOf]; omega
      have d0 : decide (y0 < 0) = false := decide_eq_false c0
      have d1 : decide (5000 < y0) = false := decide_eq_false c1
      have y0p : 0 ≤ y0 := by omega
      have y5 : y0 ≤ 5000 := by omega
      have hBC : w.heap.size ≤ BC := hB0
      have C16 : (wr.alloc (.cells #[.int .i64 y0, .int .i64 y1, .int .i64 y2, .int .u16 y3] 34)).cell? ⟨BC + 1, 16, none⟩ = some (.int .i64 now) := (cellsAt T0H.out.r _).trans (now_at _ _)
      obtain ⟨U, hU⟩ : ∃ U, now + y0 = U := ⟨_, rfl⟩
      have u0 : now ≤ U := by omega
      have u1 : U ≤ 5000 * (k + 1) := by omega
      have u2 : U ≤ 500000 := by omega
      have wU : wrap64 (now + y0) = U := by rw [wrap64_id (by omega) (by omega)]; exact hU
      have wU2 : IntKind.i64.wrap (now + y0) = U := by rw [IntKind.wrap_i64]; omega
      have UH := Lib.hid hU
      have ub := Lib.hid u1
      clear hU c0 c1 u1
      go_wp2_with fail
      go_quiet (fail)
      go_wp2_with fail
      have T1 : Hid (Tri w BC (BC + 1) wr.heap.size T R now (.cells #[.int .i64 y0, .int .i64 y1, .int .i64 y2, .int .u16 y3] 34) ((wr.alloc (.cells #[.int .i64 y0, .int .i64 y1, .int .i64 y2, .int .u16 y3] 34)).drewN nq)) := Lib.hid (T0H.out.drewN nq)
      generalize hXX : Obj.cells #[Value.int .i64 y0, Value.int .i64 y1, Value.int .i64 y2, Value.int .u16 y3] 34 = XX at *
      have hXH := Lib.hid hXX
      generalize (wr.alloc XX).drewN nq = w1 at *
      generalize wr.heap.size = BX at *
      clear hXX g0 g1 g2 g3 ha T0H C16 wU wU2
      obtain ⟨gm, hgm⟩ : ∃ gm : Nat, gm = (U - now).toNat := ⟨_, rfl⟩
      have hgmH := Lib.hid hgm
      clear hgm
      go_loopg [8, 9, 10, 11, 12] gm (fun g s8 s9 s10 s11 s12 wx => ∃ (v : Int) (T' R' : Nat → One), g = (U - v).toNat ∧ now ≤ v ∧ v ≤ U ∧ Hid (Rel T' R' v) ∧ Hid (Tri w BC (BC + 1) BX T' R' v XX wx))
      case atStart => exact ⟨now, T, R, hgmH.out, Int.le_refl _, u0, hrl, T1⟩
      case round =>
        obtain ⟨v, T2, R2, hg, v0, v1, hr2, tri⟩ := hrel
        have N := next_any BC T2 (fun i hi => ok_of (hr2.out i hi) (by omega)) wr tri.out.c
        by_cases hs : (nextF T2 4).2 = true ∧ (nextF T2 4).1 ≤ U
        · obtain ⟨hs, hl⟩ := hs
          have gt := next_gt hr2.out hs
          have nz := Lib.hid (fire_nz hs)
          have FC := Lib.hid (fun w h => fire_any BC T2 (fun i hi => ok_of (hr2.out i hi) (by omega)) (fun i hi => (hr2.out i hi).co1) U hs hl w h)
          have PS := Lib.hid (fun (R : Nat → One) (q : Int) (h : Rel T2 R q) (l : q < (nextF T2 4).1) => phase_step h hs l)
          rw [hs] at N
          generalize (nextF T2 4).1 = at_ at *
          have NH := Lib.hid N
          have hgH := Lib.hid hg
          have lU : decide (U < at_) = false := decide_eq_false (by omega)
          clear N hs hg
          go_wp2_with fail
          refine NH.out.mono ?_
          rintro e w2 ⟨rfl, nn, rfl⟩
          go_wp2_with fail
          have tri1 := Lib.hid (tri.out.drewN nn)
          generalize wr.drewN nn = w2 at *
          clear NH tri
          obtain ⟨gm2, hgm2⟩ : ∃ gm : Nat, gm = (at_ - v).toNat := ⟨_, rfl⟩
          have hgm2H := Lib.hid hgm2
          clear hgm2
          go_loopg [10] gm2 (fun g s10 wx => ∃ (q : Int) (R' : Nat → One) (m : Nat), s10 = .int .i64 m ∧ g = (at_ - q).toNat ∧ v ≤ q ∧ q ≤ at_ ∧ Hid (Phase T2 at_ q R' m) ∧ Hid (Tri w BC (BC + 1) BX T2 R' q XX wx))
          case atStart => exact ⟨v, R2, 0, rfl, hgm2H.out, Int.le_refl _, by omega, Lib.hid (.inl ⟨gt, hr2.out, rfl⟩), tri1⟩
          case round =>
            obtain ⟨q, R3, m, rfl, hg, q0, q1, hph, tri⟩ := hrel
            have C16 : wr.cell? ⟨BC + 1, 16, none⟩ = some (.int .i64 q) := (cellsAt tri.out.r _).trans (now_at _ _)
            by_cases lt : q < at_
            · obtain ⟨_, rel, rfl⟩ : q < at_ ∧ Rel T2 R3 q ∧ m = 0 := by
                rcases hph.out with h | h
                · exact h
                · exact absurd h.1 (by omega)
              have TC := Lib.hid (tick_contract rel (by omega) (by omega) (BC + 1) wr tri.out.r)
              have PP := Lib.hid (PS.out R3 q rel lt)
              have hgH3 := Lib.hid hg
              have dlt : decide (q < at_) = true := decide_eq_true lt
              clear hph rel hg
              go_wp2_with fail
              refine TC.out.mono ?_
              rintro e w3 ⟨rfl, o3⟩
              have t3 := Lib.hid (tri.out.callR o3 (by omega) (by omega) hBX)
              clear o3 TC
              go_wp2
              go_roundg (at_ - (q + 1)).toNat
              case measure => rw [hgH3.out]; omega
              case rel => exact ⟨q + 1, _, _, rfl, rfl, by omega, by omega, PP, t3⟩
            · obtain ⟨qe, rel, me⟩ : q = at_ ∧ Rel (fireF T2 at_ 4).1 R3 at_ ∧ m = (fireF T2 at_ 4).2 := by
                rcases hph.out with h | h
                · exact absurd h.1 lt
                · exact h
              have dlt : decide (q < at_) = false := decide_eq_false lt
              have FCC := FC.out wr tri.out.c
              rw [← me] at FCC nz
              have FCH := Lib.hid FCC
              have mz : ((m : Int) == 0) = false := by have := nz.out; simp; omega
              have qeH := Lib.hid qe
              have relH := Lib.hid rel
              clear hph qe rel me FCC FC
              go_wp2_with fail
              refine FCH.out.mono ?_
              rintro e w3 ⟨rfl, o3⟩
              have t3 := Lib.hid (tri.out.callC o3 hBC (by omega) (by omega))
              clear o3 FCH tri
              have n1 : (at_ != at_) = false := by simp
              have n2 : ((m : Int) != (m : Int)) = false := by simp
              go_wp2
              go_roundg (U - q).toNat
              case measure => rw [hgH.out]; have := qeH.out; omega
              case rel => exact ⟨q, _, R3, rfl, by have := qeH.out; omega, by have := qeH.out; omega, Lib.hid (by rw [qeH.out]; exact relH.out), t3⟩
        · have N2 : (nextF T2 4).2 = false ∨ U < (nextF T2 4).1 := by
            by_cases h : (nextF T2 4).2 = true
            · exact .inr (by have : ¬ (nextF T2 4).1 ≤ U := fun x => hs ⟨h, x⟩; omega)
            · exact .inl (by simpa using h)
          have TI := Lib.hid (fun (R : Nat → One) (q : Int) (h : Rel T2 R q) (l : q < U) => tick_idle (T := T2) (R := R) (now := q) h (by rcases N2 with h | h; exact .inl h; exact .inr (by omega)))
          have FC := Lib.hid (fun w h => fire_no BC T2 (fun i hi => ok_of (hr2.out i hi) (by omega)) U N2 w h)
          have hgH := Lib.hid hg
          clear hs hg
          have lU : (nextF T2 4).2 = true → decide (U < (nextF T2 4).1) = true := fun h => decide_eq_true (by rcases N2 with g | g; rw [h] at g; cases g; exact g)
          generalize (nextF T2 4).1 = at_ at *
          cases hs2 : (nextF T2 4).2
          all_goals
            rw [hs2] at N
            try (have lU' := lU hs2)
            have NH := Lib.hid N
            have N2H := Lib.hid N2
            have lUH := Lib.hid lU
            have hs2H := Lib.hid hs2
            clear N N2 lU hs2
            go_wp2_with fail
            refine NH.out.mono ?_
            rintro e w2 ⟨rfl, nn, rfl⟩
            go_wp2_with fail
            have tri1 := Lib.hid (tri.out.drewN nn)
            generalize wr.drewN nn = w2 at *
            clear NH tri N2H lUH hs2H
            try clear lU'
            obtain ⟨gm2, hgm2⟩ : ∃ gm : Nat, gm = (U - v).toNat := ⟨_, rfl⟩
            have hgm2H := Lib.hid hgm2
            clear hgm2
            as_aux_lemma =>
              go_loopg [] gm2 (fun g wx => ∃ (q : Int) (R' : Nat → One), g = (U - q).toNat ∧ v ≤ q ∧ q ≤ U ∧ Hid (Rel T2 R' q) ∧ Hid (Tri w BC (BC + 1) BX T2 R' q XX wx))
              case atStart => exact ⟨v, R2, hgm2H.out, Int.le_refl _, v1, hr2, tri1⟩
              case round =>
                obtain ⟨q, R3, hg, q0, q1, hr3, tri⟩ := hrel
                have C16 : wr.cell? ⟨BC + 1, 16, none⟩ = some (.int .i64 q) := (cellsAt tri.out.r _).trans (now_at _ _)
                by_cases lt : q < U
                · obtain ⟨ri, mz⟩ := TI.out R3 q hr3.out lt
                  have TC := tick_contract hr3.out (by omega) (by omega) (BC + 1) wr tri.out.r
                  rw [mz] at TC
                  have TCH := Lib.hid TC
                  have RI := Lib.hid ri
                  have hgH3 := Lib.hid hg
                  have dlt : decide (q < U) = true := decide_eq_true lt
                  clear TC ri mz hg
                  go_wp2_with fail
                  refine TCH.out.mono ?_
                  rintro e w3 ⟨rfl, o3⟩
                  have t3 := Lib.hid (tri.out.callR o3 (by omega) (by omega) hBX)
                  clear o3 TCH
                  go_wp2
                  go_roundg (U - (q + 1)).toNat
                  case measure => rw [hgH3.out]; omega
                  case rel => exact ⟨q + 1, _, rfl, by omega, by omega, RI, t3⟩
                · have qe : q = U := by omega
                  have dlt : decide (q < U) = false := decide_eq_false lt
                  have FCC := FC.out wr tri.out.c
                  have FCH := Lib.hid FCC
                  have relU : Hid (Rel T2 R3 U) := Lib.hid (qe ▸ hr3.out)
                  have triU : Hid (Tri w BC (BC + 1) BX T2 R3 U XX wr) := Lib.hid (qe ▸ tri.out)
                  clear qe FCC FC TI hr3 hg
                  go_wp2_with fail
                  refine FCH.out.mono ?_
                  rintro e w3 ⟨rfl, n3, rfl⟩
                  have t3 := Lib.hid (triU.out.drewN n3)
                  clear FCH tri triU C16 dlt
                  generalize wr.drewN n3 = w4 at *
                  have X := t3.out.x
                  rw [← hXH.out] at X
                  have X1 := cellsAt X 1
                  have X2 := cellsAt X 2
                  have X3 := cellsAt X 3
                  simp at X1 X2 X3
                  clear X
                  by_cases k0 : y1 = 0
                  · subst k0
                    by_cases hi : 0 ≤ y2 ∧ y2 < 4
                    · obtain ⟨i, rfl⟩ : ∃ i : Nat, y2 = i := ⟨y2.toNat, by omega⟩
                      have hi4 : i < 4 := by omega
                      have s1 := setReload_any BC i T2 hi4 y3 x0 (by omega) w4 t3.out.c
                      have rel3 := both_reload relU.out i hi4 y3 x0 (by omega)
                      have s1H := Lib.hid s1
                      have i0 : decide (0 ≤ (i : Int)) = true := decide_eq_true (by omega)
                      have i1 : decide ((i : Int) < 4) = true := decide_eq_true (by omega)
                      have hiH := Lib.hid hi
                      have rel3H := Lib.hid rel3
                      clear s1 hi rel3
                      go_wp2_with fail
                      refine s1H.out.mono ?_
                      rintro e w5 ⟨rfl, o4⟩
                      have t4 := t3.out.callC o4 hBC (by omega) (by omega)
                      have X := t4.x
                      rw [← hXH.out] at X
                      have X2' := cellsAt X 2
                      have X3' := cellsAt X 3
                      simp at X2' X3'
                      obtain ⟨C0, C1, C2, C3⟩ := four t4.r hi4
                      have FR := freeAt t4.r
                      have t4H := Lib.hid t4
                      clear X t4 o4 s1H
                      go_wp2_with fail
                      have ib0 : 0 ≤ (i : Int) := hiH.out.1
                      have ib1 : (i : Int) < 4 := hiH.out.2
                      go_still_tail 10, (by kernel_rfl)
                      repeat still_step
                      change wpList _ _ _ _ _ (World.drew _)
                      go_wp2_with fail
                      have o5 : Only (BC + 1) (rt (upd R3 i { R3 i with re := y3 }) U) w5 ((w5.setCell ⟨BC + 1, i * 4, none⟩ (.int .i64 y3)).drew) := (set_re (Only.refl t4H.out.r) hi4 y3).drew
                      have t5H := Lib.hid (t4H.out.callR o5 (by omega) (by omega) hBX)
                      clear o5 C0 C1 C2 C3 FR X2' X3' t4H
                      generalize (w5.setCell ⟨BC + 1, i * 4, none⟩ (.int .i64 y3)).drew = w6 at *
                      go_wp2
                      go_roundw
                      case rel => exact ⟨k + 1, _, _, U, by omega, by go_num, t5H.out.b, rel3H, by omega, by have := ub.out; omega, Lib.hid t5H.out.c, Lib.hid t5H.out.r⟩
                      case measure => simp [intOf]; omega
                    · have qnH : Hid (¬ (0 ≤ y2 ∧ y2 < 4)) := Lib.hid hi
                      clear hi
                      by_cases c : y2 < 0
                      · have i0 : decide (0 ≤ y2) = false := decide_eq_false (by omega)
                        clear c
                        go_wp2_with fail
                        refine (setReload_no (.pointer (some ⟨BC, 0, none⟩)) y2 y3 _ (.inr ⟨⟨_, rfl⟩, qnH.out⟩)).mono ?_
                        rintro e w' ⟨rfl, rfl⟩
                        go_wp2
                        go_roundw
                        case rel => exact ⟨k + 1, T2, R3, U, by omega, by go_num, t3.out.b, relU, by omega, by have := ub.out; omega, Lib.hid t3.out.c, Lib.hid t3.out.r⟩
                        case measure => simp [intOf]; omega
                      · have i0 : decide (0 ≤ y2) = true := decide_eq_true (by omega)
                        have i1 : decide (y2 < 4) = false := decide_eq_false (by have := qnH.out; omega)
                        clear c
                        go_wp2_with fail
                        refine (setReload_no (.pointer (some ⟨BC, 0, none⟩)) y2 y3 _ (.inr ⟨⟨_, rfl⟩, qnH.out⟩)).mono ?_
                        rintro e w' ⟨rfl, rfl⟩
                        go_wp2
                        go_roundw
                        case rel => exact ⟨k + 1, T2, R3, U, by omega, by go_num, t3.out.b, relU, by omega, by have := ub.out; omega, Lib.hid t3.out.c, Lib.hid t3.out.r⟩
                        case measure => simp [intOf]; omega
                  by_cases k1 : y1 = 1
                  · subst k1
                    by_cases hi : 0 ≤ y2 ∧ y2 < 4
                    · obtain ⟨i, rfl⟩ : ∃ i : Nat, y2 = i := ⟨y2.toNat, by omega⟩
                      have hi4 : i < 4 := by omega
                      have rq := relU.out i hi4
                      have a9 := and199 y3 x0 (by omega)
                      have s1 := setControl_any BC i T2 hi4 (ok_of rq (by omega)) U y3 (by omega) (by omega) _ rfl a9.1 a9.2 w4.drew (drew_heap t3.out.c)
                      have s2 := fun w hs => set_any (BC + 1) i R3 U hi4 (by have := rq.ct; have := rq.ct0; omega) (by have := rq.ct; have := rq.ct1; omega) y3 _ rfl a9.1 a9.2 w hs
                      have rel3 := both_set relU.out (by omega) i hi4 y3 a9.1 a9.2
                      have s1H := Lib.hid s1
                      have s2H := Lib.hid s2
                      have i0 : decide (0 ≤ (i : Int)) = true := decide_eq_true (by omega)
                      have i1 : decide ((i : Int) < 4) = true := decide_eq_true (by omega)
                      have hiH := Lib.hid hi
                      have rel3H := Lib.hid rel3
                      have C16 : w4.cell? ⟨BC + 1, 16, none⟩ = some (.int .i64 U) := (cellsAt t3.out.r _).trans (now_at _ _)
                      clear s1 s2 hi rel3 a9 rq
                      go_wp2_with fail
                      go_still_tail 9, (by kernel_rfl)
                      repeat still_step
                      change wpList _ _ _ _ _ (World.drew _)
                      go_wp2_with fail
                      refine s1H.out.mono ?_
                      rintro e w5 ⟨rfl, o4⟩
                      have t4 : Tri w BC (BC + 1) BX _ R3 U XX w5 := Tri.callC ⟨below_d1 t3.out.b, drew_heap t3.out.c, drew_heap t3.out.r, drew_heap t3.out.x⟩ o4 hBC (by omega) (by omega)
                      have X := t4.x
                      rw [← hXH.out] at X
                      have X2' := cellsAt X 2
                      have X3' := cellsAt X 3
                      simp at X2' X3'
                      have t4H := Lib.hid t4
                      clear X t4 o4 s1H C16
                      go_wp2_with fail
                      refine (s2H.out _ t4H.out.r).mono ?_
                      rintro e w6 ⟨rfl, o5⟩
                      have t5H := Lib.hid (t4H.out.callR o5 (by omega) (by omega) hBX)
                      clear o5 X2' X3' t4H s2H
                      go_wp2
                      go_roundw
                      case rel => exact ⟨k + 1, _, _, U, by omega, by go_num, t5H.out.b, rel3H, by omega, by have := ub.out; omega, Lib.hid t5H.out.c, Lib.hid t5H.out.r⟩
                      case measure => simp [intOf]; omega
                    · have qnH : Hid (¬ (0 ≤ y2 ∧ y2 < 4)) := Lib.hid hi
                      clear hi
                      by_cases c : y2 < 0
                      · have i0 : decide (0 ≤ y2) = false := decide_eq_false (by omega)
                        clear c
                        go_wp2_with fail
                        go_wp2
                        go_roundw
                        case rel => exact ⟨k + 1, T2, R3, U, by omega, by go_num, t3.out.b, relU, by omega, by have := ub.out; omega, Lib.hid t3.out.c, Lib.hid t3.out.r⟩
                        case measure => simp [intOf]; omega
                      · have i0 : decide (0 ≤ y2) = true := decide_eq_true (by omega)
                        have i1 : decide (y2 < 4) = false := decide_eq_false (by have := qnH.out; omega)
                        clear c
                        go_wp2_with fail
                        go_wp2
                        go_roundw
                        case rel => exact ⟨k + 1, T2, R3, U, by omega, by go_num, t3.out.b, relU, by omega, by have := ub.out; omega, Lib.hid t3.out.c, Lib.hid t3.out.r⟩
                        case measure => simp [intOf]; omega
                  have e0 : (y1 == 0) = false := by simpa using k0
                  have e1 : (y1 == 1) = false := by simpa using k1
                  clear k0 k1
                  go_wp2
                  go_roundw
                  case rel => exact ⟨k + 1, T2, R3, U, by omega, by go_num, t3.out.b, relU, by omega, by have := ub.out; omega, Lib.hid t3.out.c, Lib.hid t3.out.r⟩
                  case measure => simp [intOf]; omega
    · obtain rfl : k = n := by omega
      go_wp2
      go_ret
      exact ⟨rfl, hb⟩
end Go.Proofs.Ytkbjjkolhhmafaa.Tj
