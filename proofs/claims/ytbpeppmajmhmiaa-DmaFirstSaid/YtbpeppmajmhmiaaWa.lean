/- The program's unit, the document's, and the tape, side by side; their calls. -/
import Derived.Test.YtbpeppmajmhmiaaDt
import Derived.Test.YtbpeppmajmhmiaaVf
namespace Go.Proofs.Ytbpeppmajmhmiaa.Wa
set_option linter.unusedVariables false
set_option linter.unusedSimpArgs false
open Go.RowKit Go.Proofs.Ytbpeppmajmhmiaa.Bt Go.Proofs.Ytbpeppmajmhmiaa.Wk Go.Proofs.Ytbpeppmajmhmiaa.Sg Go.Proofs.Ytbpeppmajmhmiaa.Dp Go.Proofs.Ytbpeppmajmhmiaa.Da Go.Proofs.Ytbpeppmajmhmiaa.Db Go.Proofs.Ytbpeppmajmhmiaa.Dc Go.Proofs.Ytbpeppmajmhmiaa.Dd Go.Proofs.Ytbpeppmajmhmiaa.De Go.Proofs.Ytbpeppmajmhmiaa.Fq Go.Proofs.Ytbpeppmajmhmiaa.Df Go.Proofs.Ytbpeppmajmhmiaa.Dg Go.Proofs.Ytbpeppmajmhmiaa.Dh Go.Proofs.Ytbpeppmajmhmiaa.Di Go.Proofs.Ytbpeppmajmhmiaa.Dj Go.Proofs.Ytbpeppmajmhmiaa.Dk Go.Proofs.Ytbpeppmajmhmiaa.Dl Go.Proofs.Ytbpeppmajmhmiaa.Dm Go.Proofs.Ytbpeppmajmhmiaa.Dt Go.Proofs.Ytbpeppmajmhmiaa.Va Go.Proofs.Ytbpeppmajmhmiaa.Vb Go.Proofs.Ytbpeppmajmhmiaa.Vc Go.Proofs.Ytbpeppmajmhmiaa.Qt Go.Proofs.Ytbpeppmajmhmiaa.Vd Go.Proofs.Ytbpeppmajmhmiaa.Ve Go.Proofs.Ytbpeppmajmhmiaa.Vf

/-- Made in w1, in this order: the unit u, the document's unit um, the tape. -/
def Jf (Z : Nat → Option Obj) (w1 wr : World) (u um : Nat → Ch) (ps : List Pl) (ws : List Int) : Prop :=
  ∃ pv wv, PS wr w1.heap.size w1.heap.size (w1.heap.size + 2) pv wv u ps ws ∧ Iv u ∧ Iv um ∧ isU wr (w1.heap.size + 1) 50 um ∧
    pv.ownBlock ≠ some (w1.heap.size + 1) ∧ wv.ownBlock ≠ some (w1.heap.size + 1) ∧ Below w1.heap.size w1 wr ∧
    (∀ k o, Z k = some o → wr.heap[k]? = some o ∧ w1.heap.size + 2 < k ∧ pv.ownBlock ≠ some k ∧ wv.ownBlock ≠ some k)
section
variable {Z : Nat → Option Obj} {w1 wr : World} {u um : Nat → Ch} {ps : List Pl} {ws : List Int}
theorem jf_u {pv wv pv' wv' : Value} {w' : World} {u' : Nat → Ch} {ps' : List Pl} {ws' : List Int}
    (P : PS wr w1.heap.size w1.heap.size (w1.heap.size + 2) pv wv u ps ws) (V' : Iv u') (Vm : Iv um) (M : isU wr (w1.heap.size + 1) 50 um)
    (p1 : pv.ownBlock ≠ some (w1.heap.size + 1)) (p2 : wv.ownBlock ≠ some (w1.heap.size + 1)) (L : Below w1.heap.size w1 wr)
    (ZZ : ∀ k o, Z k = some o → wr.heap[k]? = some o ∧ w1.heap.size + 2 < k ∧ pv.ownBlock ≠ some k ∧ wv.ownBlock ≠ some k)
    (S : SEnd wr w' w1.heap.size w1.heap.size (w1.heap.size + 2) pv wv pv' wv' u' ps' ws') : Jf Z w1 w' u' um ps' ws' := by
  have hm : w1.heap.size + 1 < wr.heap.size := sizeAt M
  refine ⟨pv', wv', S.ps, V', Vm, S.fr.keep M ?_, moves_ne S.mp hm p1, moves_ne S.mw hm p2, ps_below P S L, fun k o hk => ?_⟩
  · rintro (e | e | e | e)
    · omega
    · omega
    · exact p1 e
    · exact p2 e
  · obtain ⟨z1, z2, z3, z4⟩ := ZZ k o hk
    have hl := sizeAt z1
    refine ⟨S.fr.keep z1 ?_, z2, moves_ne S.mp hl z3, moves_ne S.mw hl z4⟩
    rintro (e | e | e | e)
    · omega
    · omega
    · exact z3 e
    · exact z4 e
theorem jf_m {w' : World} {um' : Nat → Ch} (h : Jf Z w1 wr u um ps ws) (V' : Iv um') (O : Only (w1.heap.size + 1) (.cells (cells um').toArray 50 (0, 0)) wr w') : Jf Z w1 w' u um' ps ws := by
  obtain ⟨pv, wv, P, V, Vm, M, p1, p2, L, ZZ⟩ := h
  have F := Fr.of_only O
  refine ⟨pv, wv, ⟨O.keep P.hu (by omega), P.tp.keep F ?_, P.ne, P.np, P.nw, P.le⟩, V, V', O.at_, p1, p2, below_only L O (by omega) L.size, fun k o hk => by
    obtain ⟨z1, z2, z3, z4⟩ := ZZ k o hk
    exact ⟨O.keep z1 (by omega), z2, z3, z4⟩⟩
  rintro k (e | e | e) hk
  · omega
  · rw [hk] at e; exact p1 e
  · rw [hk] at e; exact p2 e
theorem jf_later {w' : World} (h : Jf Z w1 wr u um ps ws) (hb : Below wr.heap.size wr w') : Jf Z w1 w' u um ps ws := by
  obtain ⟨pv, wv, P, V, Vm, M, p1, p2, L, ZZ⟩ := h
  have F : Fr (fun _ => False) wr w' := Fr.of_below hb
  exact ⟨pv, wv, ⟨F.keep P.hu (fun e => e), P.tp.keep F (fun _ _ e => e), P.ne, P.np, P.nw, P.le⟩, V, Vm, F.keep M (fun e => e), p1, p2, below_then L hb (by have := P.le; have := P.lt; omega), fun k o hk => by
    obtain ⟨z1, z2, z3, z4⟩ := ZZ k o hk
    exact ⟨keep hb z1, z2, z3, z4⟩⟩
theorem jf_drewN (h : Jf Z w1 wr u um ps ws) (n : Nat) : Jf Z w1 (wr.drewN n) u um ps ws := jf_later h (below_dn (Below.refl _ _) n)
theorem jf_below (h : Jf Z w1 wr u um ps ws) : Below w1.heap.size w1 wr := by
  obtain ⟨pv, wv, P, V, Vm, M, p1, p2, L, ZZ⟩ := h; exact L
theorem jf_alloc (h : Jf Z w1 wr u um ps ws) (o : Obj) : Jf (upd Z wr.heap.size (some o)) w1 (wr.alloc o) u um ps ws := by
  have q := jf_later h (bl wr o)
  obtain ⟨pv, wv, P, V, Vm, M, p1, p2, L, ZZ⟩ := h
  have hb := bl wr o
  have F : Fr (fun _ => False) wr (wr.alloc o) := Fr.of_below hb
  refine ⟨pv, wv, ⟨F.keep P.hu (fun e => e), P.tp.keep F (fun _ _ e => e), P.ne, P.np, P.nw, P.le⟩, V, Vm, F.keep M (fun e => e), p1, p2, below_then L hb (by have := P.le; have := P.lt; omega), fun k o' hk => ?_⟩
  by_cases e : k = wr.heap.size
  · subst e
    rw [upd_same] at hk
    cases hk
    have := P.tp.lt
    exact ⟨alloc_new wr o, by omega, fun e => by have := (own_lt P.tp.op e).2; omega, fun e => by have := (own_lt P.tp.ow e).2; omega⟩
  · rw [upd_ne _ _ e] at hk
    obtain ⟨z1, z2, z3, z4⟩ := ZZ k o' hk
    exact ⟨alloc_old o z1, z2, z3, z4⟩
theorem jf_set (h : Jf Z w1 wr u um ps ws) {k j : Nat} {cs : Array Value} {t : TypeId} (v : Value) (hz : Z k = some (.cells cs t (0, 0))) : Jf (upd Z k (some (.cells (cs.setIfInBounds j v) t (0, 0)))) w1 (wr.setCell ⟨k, j, none⟩ v) u um ps ws := by
  obtain ⟨pv, wv, P, V, Vm, M, p1, p2, L, ZZ⟩ := h
  obtain ⟨z1, z2, z3, z4⟩ := ZZ k _ hz
  have O := (Only.refl z1).set (j := j) v
  have F := Fr.of_only O
  refine ⟨pv, wv, ⟨O.keep P.hu (by omega), P.tp.keep F ?_, P.ne, P.np, P.nw, P.le⟩, V, Vm, O.keep M (by omega), p1, p2, below_only L O (by omega) L.size, fun k' o' hk => ?_⟩
  · rintro k' (e | e | e) hk
    · omega
    · rw [hk] at e; exact z3 e
    · rw [hk] at e; exact z4 e
  · by_cases e : k' = k
    · subst e
      rw [upd_same] at hk
      cases hk
      exact ⟨O.at_, z2, z3, z4⟩
    · rw [upd_ne _ _ e] at hk
      obtain ⟨y1, y2, y3, y4⟩ := ZZ k' o' hk
      exact ⟨O.keep y1 e, y2, y3, y4⟩
theorem jf_box (h : Jf Z w1 wr u um ps ws) {k : Nat} {o : Obj} (hz : Z k = some o) : wr.heap[k]? = some o := by
  obtain ⟨pv, wv, P, V, Vm, M, p1, p2, L, ZZ⟩ := h
  exact (ZZ k o hz).1
theorem jf_weak {Z' : Nat → Option Obj} (h : Jf Z w1 wr u um ps ws) (hz : ∀ k o, Z' k = some o → Z k = some o) : Jf Z' w1 wr u um ps ws := by
  obtain ⟨pv, wv, P, V, Vm, M, p1, p2, L, ZZ⟩ := h
  exact ⟨pv, wv, P, V, Vm, M, p1, p2, L, fun k o hk => ZZ k o (hz k o hk)⟩
theorem jf_start (w1 : World) : Jf (fun _ => none) w1 (((w1.alloc (.cells (cells fun _ => zeroCh).toArray 62)).alloc (.cells (cells fun _ => zeroCh).toArray 50)).alloc (.cells #[.slice none 0 0, .slice none 0 0] 29)) (fun _ => zeroCh) (fun _ => zeroCh) [] [] := by
  have h1 := alloc_new w1 (.cells (cells fun _ => zeroCh).toArray 62)
  have h2 := alloc_new (w1.alloc (.cells (cells fun _ => zeroCh).toArray 62)) (.cells (cells fun _ => zeroCh).toArray 50)
  have h3 := alloc_new ((w1.alloc (.cells (cells fun _ => zeroCh).toArray 62)).alloc (.cells (cells fun _ => zeroCh).toArray 50)) (.cells #[.slice none 0 0, .slice none 0 0] 29)
  simp only [World.size_alloc] at h2 h3
  refine ⟨.slice none 0 0, .slice none 0 0, ⟨alloc_old _ (alloc_old _ h1), ⟨h3, ⟨rfl, .inl ⟨rfl, rfl⟩⟩, ⟨rfl, .inl ⟨rfl, rfl⟩⟩, by simp [Value.ownBlock], by simp [Value.ownBlock], by simp [Value.ownBlock], by omega⟩, by omega, by simp [Value.ownBlock], by simp [Value.ownBlock], Nat.le_refl _⟩, iv_zero, iv_zero, alloc_old _ h2, by simp [Value.ownBlock], by simp [Value.ownBlock], bl2 (bl2 (bl w1 _) _) _, fun k o hk => by cases hk⟩
theorem j_write_u (h : Jf Z w1 wr u um ps ws) {i : Nat} (hi : i < 4) (part x : Int) (x0 : 0 ≤ x) (x1 : x < 65536) :
    Calls Try.prog 10 #[.pointer (some ⟨w1.heap.size, 0, none⟩), .int .i64 i, .int .i64 part, .int .u16 x] wr fun e w' => e = .returned (.tuple #[]) ∧ Jf Z w1 w' (wrU u i part x) um ps ws := by
  obtain ⟨pv, wv, P, V, Vm, M, p1, p2, L, ZZ⟩ := h
  refine (write_ps P V hi part x x0 x1).mono ?_
  rintro e w' ⟨rfl, S⟩
  exact ⟨rfl, jf_u P (iv_wrU V hi x0 x1) Vm M p1 p2 L ZZ S⟩
theorem j_write_m (h : Jf Z w1 wr u um ps ws) {i : Nat} (hi : i < 4) (part x : Int) (x0 : 0 ≤ x) (x1 : x < 65536) :
    Calls Try.prog 24 #[.pointer (some ⟨w1.heap.size + 1, 0, none⟩), .int .i64 i, .int .i64 part, .int .u16 x] wr fun e w' => e = .returned (.tuple #[]) ∧ Jf Z w1 w' u (wrU um i part x) ps ws := by
  have h' := h
  obtain ⟨pv, wv, P, V, Vm, M, p1, p2, L, ZZ⟩ := h'
  refine (rwriteP (isU_b1 M i) hi (Vm i hi).wf part x x0 x1).mono ?_
  rintro e w' ⟨rfl, b⟩
  exact ⟨rfl, jf_m h (iv_wrU Vm hi x0 x1) b⟩
theorem j_moment_u (h : Jf Z w1 wr u um ps ws) (n : Int) :
    Calls Try.prog 15 #[.pointer (some ⟨w1.heap.size, 0, none⟩), .int .i64 n] wr fun e w' => e = .returned (.tuple #[]) ∧ Jf Z w1 w' (all u fun _ c => moment c n) um ps ws := by
  obtain ⟨pv, wv, P, V, Vm, M, p1, p2, L, ZZ⟩ := h
  refine (moment_ps P V n).mono ?_
  rintro e w' ⟨rfl, S⟩
  exact ⟨rfl, jf_u P (iv_moment V) Vm M p1 p2 L ZZ S⟩
theorem j_moment_m (h : Jf Z w1 wr u um ps ws) (n : Int) :
    Calls Try.prog 25 #[.pointer (some ⟨w1.heap.size + 1, 0, none⟩), .int .i64 n] wr fun e w' => e = .returned (.tuple #[]) ∧ Jf Z w1 w' u (all um fun _ c => moment c n) ps ws := by
  have h' := h
  obtain ⟨pv, wv, P, V, Vm, M, p1, p2, L, ZZ⟩ := h'
  refine (rmoment_any M (fun k hk => (Vm k hk).wf) n).mono ?_
  rintro e w' ⟨rfl, b⟩
  exact ⟨rfl, jf_m h (iv_moment Vm) b⟩
theorem j_hungry_u (h : Jf Z w1 wr u um ps ws) (a : Int) :
    Calls Try.prog 17 #[.pointer (some ⟨w1.heap.size, 0, none⟩), .int .u32 a] wr fun e w' => e = .returned (.tuple #[]) ∧ Jf Z w1 w' (all u fun k c => hungry c k a) um ps ws := by
  obtain ⟨pv, wv, P, V, Vm, M, p1, p2, L, ZZ⟩ := h
  refine (hungry_ps P V a).mono ?_
  rintro e w' ⟨rfl, S⟩
  exact ⟨rfl, jf_u P (iv_hungry V) Vm M p1 p2 L ZZ S⟩
theorem j_hungry_m (h : Jf Z w1 wr u um ps ws) (a : Int) :
    Calls Try.prog 26 #[.pointer (some ⟨w1.heap.size + 1, 0, none⟩), .int .u32 a] wr fun e w' => e = .returned (.tuple #[]) ∧ Jf Z w1 w' u (all um fun k c => hungry c k a) ps ws := by
  have h' := h
  obtain ⟨pv, wv, P, V, Vm, M, p1, p2, L, ZZ⟩ := h'
  refine (rhungry_any M (fun k hk => (Vm k hk).wf) a).mono ?_
  rintro e w' ⟨rfl, b⟩
  exact ⟨rfl, jf_m h (iv_hungry Vm) b⟩
theorem j_step_u (h : Jf Z w1 wr u um ps ws) {i : Nat} (hr : ready u = i) (hl : ws.length = ps.length) (hn : ps.length ≤ 90000) :
    Calls Try.prog 11 #[.pointer (some ⟨w1.heap.size, 0, none⟩), .iface 25 (.pointer (some ⟨w1.heap.size + 2, 0, none⟩))] wr fun e w' => e = .returned (.tuple #[.int .i64 i, .bool (stepD u i), .bool (stepD u i && stepA u i)]) ∧ Jf Z w1 w' (stepU u i) um (ps ++ [stepP u i]) (ws ++ [stepK u i]) := by
  obtain ⟨pv, wv, P, V, Vm, M, p1, p2, L, ZZ⟩ := h
  refine (step_ps P V hr hl hn).mono ?_
  rintro e w' ⟨rfl, pv', wv', S⟩
  exact ⟨rfl, jf_u P (iv_step V hr) Vm M p1 p2 L ZZ S⟩
theorem j_ready_u (h : Jf Z w1 wr u um ps ws) : Calls Try.prog 13 #[.pointer (some ⟨w1.heap.size, 0, none⟩)] wr fun e w' => e = .returned (.int .i64 (ready u)) ∧ wr = w' := by
  obtain ⟨pv, wv, P, V, Vm, M, p1, p2, L, ZZ⟩ := h; exact ready_any P.hu
theorem j_ready_m (h : Jf Z w1 wr u um ps ws) : Calls Try.prog 27 #[.pointer (some ⟨w1.heap.size + 1, 0, none⟩)] wr fun e w' => e = .returned (.int .i64 (ready um)) ∧ wr = w' := by
  obtain ⟨pv, wv, P, V, Vm, M, p1, p2, L, ZZ⟩ := h; exact rready_any M
theorem j_control (h : Jf Z w1 wr u um ps ws) {i : Nat} (hi : i < 4) : Calls Try.prog 14 #[.pointer (some ⟨w1.heap.size, 0, none⟩), .int .i64 i] wr fun e w' => e = .returned (.int .u16 (u i).ctl) ∧ wr = w' := by
  obtain ⟨pv, wv, P, V, Vm, M, p1, p2, L, ZZ⟩ := h; exact control_any P.hu hi
theorem j_next (h : Jf Z w1 wr u um ps ws) {i : Nat} (hr : ready um = i) :
    Calls Try.prog 28 #[.pointer (some ⟨w1.heap.size + 1, 0, none⟩)] wr fun e w' => e = .returned (.agg (encP (rplan (um i) i)).toArray) ∧ Jf Z w1 w' u um ps ws := by
  have h' := h
  obtain ⟨pv, wv, P, V, Vm, M, p1, p2, L, ZZ⟩ := h'
  obtain ⟨hi, hp⟩ := ready_pend hr
  refine (rnext_any M (Vm i hi).wf hi hr).mono ?_
  rintro e w' ⟨rfl, b⟩
  exact ⟨rfl, jf_later h b⟩
theorem kept_rkept (c : Ch) (wd : Int) : rkept c wd (val (algn c.at_ wd)) = kept c wd := by unfold rkept kept; rfl
theorem j_took (h : Jf Z w1 wr u um ps ws) {i : Nat} (hr : ready um = i) :
    Calls Try.prog 29 #[.pointer (some ⟨w1.heap.size + 1, 0, none⟩), .agg (encP (rplan (um i) i)).toArray, .int .u32 (val (algn (um i).at_ (width (um i) i)))] wr fun e w' => e = .returned (.tuple #[.int .u32 (stepK um i), .bool (stepD um i), .bool (stepA um i)]) ∧ Jf Z w1 w' u (stepU um i) ps ws := by
  have h' := h
  obtain ⟨pv, wv, P, V, Vm, M, p1, p2, L, ZZ⟩ := h'
  obtain ⟨hi, hp⟩ := ready_pend hr
  have f := (Vm i hi).wf
  obtain ⟨a2, a3⟩ := algn_bd (width_or (um i) i) f.a0 f.a1
  have vb := val_bd a2 a3
  have t := rtook_any M f hi _ vb.1 vb.2
  rw [kept_rkept] at t
  refine t.mono ?_
  rintro e w' ⟨rfl, b⟩
  exact ⟨rfl, jf_m h (iv_step Vm hr) b⟩
theorem j_ctl_m (h : Jf Z w1 wr u um ps ws) {i : Nat} (hi : i < 4) : wr.cell? ⟨w1.heap.size + 1, i * 10 + 3, none⟩ = some (.int .u16 (um i).ctl) := by
  obtain ⟨pv, wv, P, V, Vm, M, p1, p2, L, ZZ⟩ := h; exact (isU_b1 M i).c3 hi
theorem j_lt (h : Jf Z w1 wr u um ps ws) : w1.heap.size + 2 < wr.heap.size := by
  obtain ⟨pv, wv, P, V, Vm, M, p1, p2, L, ZZ⟩ := h; exact P.tp.lt
theorem j_plans (h : Jf Z w1 wr u um ps ws) : ∃ a cap, wr.cell? ⟨w1.heap.size + 2, 0, none⟩ = some (.slice a ps.length cap) ∧ ∀ i, i < ps.length → ∃ g, a = some ⟨g, 0, none⟩ ∧ g < wr.heap.size ∧ ∀ j, j < 6 → wr.cell? ⟨g, i * 6 + j, none⟩ = (encP (ps.getD i ⟨0, false, 0, 0, 0, 0⟩))[j]? := by
  obtain ⟨pv, wv, P, V, Vm, M, p1, p2, L, ZZ⟩ := h
  obtain ⟨a, cap, hq⟩ := own_form P.tp.op
  refine ⟨a, cap, by rw [← hq]; exact tape0 P, fun i hi => ?_⟩
  obtain ⟨g, cap', hp, hc⟩ := plan_at P hi
  rw [hq] at hp
  injection hp with hp1 hp2 hp3
  refine ⟨g, hp1, ?_, fun j hj => ?_⟩
  · have := hc 0 (by decide)
    exact cell_lt this
  · rw [hc j hj, List.getD_eq_getElem?_getD, List.getElem?_eq_getElem hi]; rfl
theorem j_wrote (h : Jf Z w1 wr u um ps ws) : ∃ a cap, wr.cell? ⟨w1.heap.size + 2, 1, none⟩ = some (.slice a ws.length cap) ∧ ∀ i, i < ws.length → ∃ g, a = some ⟨g, 0, none⟩ ∧ g < wr.heap.size ∧ wr.cell? ⟨g, i, none⟩ = some (.int .u32 (ws.getD i 0)) := by
  obtain ⟨pv, wv, P, V, Vm, M, p1, p2, L, ZZ⟩ := h
  obtain ⟨a, cap, hq⟩ := own_form P.tp.ow
  refine ⟨a, cap, by rw [← hq]; exact tape1 P, fun i hi => ?_⟩
  obtain ⟨g, cap', hp, hc⟩ := wrote_at P hi
  rw [hq] at hp
  injection hp with hp1 hp2 hp3
  refine ⟨g, hp1, cell_lt hc, ?_⟩
  rw [hc, List.getD_eq_getElem?_getD, List.getElem?_eq_getElem hi]; rfl
end
end Go.Proofs.Ytbpeppmajmhmiaa.Wa
