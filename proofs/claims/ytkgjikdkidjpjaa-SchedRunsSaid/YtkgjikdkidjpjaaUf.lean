/- Both clocks, side by side. -/
import Derived.Test.YtkgjikdkidjpjaaUe
namespace Go.Proofs.Ytkgjikdkidjpjaa.Uf
set_option linter.unusedVariables false
set_option linter.unusedSimpArgs false
open Go.RowKit Go.Proofs.Ytkgjikdkidjpjaa.Wk Go.Proofs.Ytkgjikdkidjpjaa.Sp Go.Proofs.Ytkgjikdkidjpjaa.Sa Go.Proofs.Ytkgjikdkidjpjaa.Sb Go.Proofs.Ytkgjikdkidjpjaa.Sc Go.Proofs.Ytkgjikdkidjpjaa.Sd Go.Proofs.Ytkgjikdkidjpjaa.Se Go.Proofs.Ytkgjikdkidjpjaa.Sf Go.Proofs.Ytkgjikdkidjpjaa.Sk Go.Proofs.Ytkgjikdkidjpjaa.Up Go.Proofs.Ytkgjikdkidjpjaa.Ua Go.Proofs.Ytkgjikdkidjpjaa.Ub Go.Proofs.Ytkgjikdkidjpjaa.Uc Go.Proofs.Ytkgjikdkidjpjaa.Ud Go.Proofs.Ytkgjikdkidjpjaa.Ue

structure Two (w : World) (B sb mb : Nat) (now turn : Int) (v vm : Value) (L : List Ent) (nowM : Int) (E : List Ev) : Prop where
  s : St w B sb now turn v L
  m : RepM w B mb nowM vm E
  a1 : ¬ Foot sb v mb
  a2 : ∀ g, vm.ownBlock = some g → ¬ Foot sb v g
theorem Two.below {w w' : World} {B sb mb : Nat} {now turn nowM : Int} {v vm : Value} {L : List Ent} {E : List Ev} (h : Two w B sb mb now turn v vm L nowM E) (hb : Below w.heap.size w w') : Two w' B sb mb now turn v vm L nowM E :=
  ⟨h.s.below hb, h.m.below hb, h.a1, h.a2⟩
theorem Two.stepS {w w' : World} {B sb mb : Nat} {now turn nowM now' turn' : Int} {v vm v' : Value} {L L' : List Ent} {E : List Ev} (h : Two w B sb mb now turn v vm L nowM E) (S : St w' B sb now' turn' v' L') (T : Step w sb v w' v') : Two w' B sb mb now' turn' v' vm L' nowM E := by
  refine ⟨S, h.m.keep T.fr h.a1 h.a2, fun f => ?_, fun g hg f => ?_⟩
  · rcases f with e | e
    · exact h.a1 (.inl e)
    · rcases T.own with q | ⟨g, q, hg⟩
      · exact h.a1 (.inr (by rw [← q]; exact e))
      · rw [q] at e; cases e; have := h.m.lt; omega
  · rcases f with e | e
    · exact h.a2 g hg (.inl e)
    · rcases T.own with q | ⟨g', q, hg'⟩
      · exact h.a2 g hg (.inr (by rw [← q]; exact e))
      · rw [q] at e; cases e; have := (own2_lt h.m.own hg).2; omega
theorem Two.stepM {w w' : World} {B sb mb : Nat} {now turn nowM nowM' : Int} {v vm vm' : Value} {L : List Ent} {E E' : List Ev} (h : Two w B sb mb now turn v vm L nowM E) (M : RepM w' B mb nowM' vm' E') (T : StepM w mb vm w' vm') : Two w' B sb mb now turn v vm' L nowM' E' := by
  refine ⟨h.s.keep T.fr (fun f => ?_) (fun g hg f => ?_), M, h.a1, fun g hg f => ?_⟩
  · rcases f with e | e
    · exact h.a1 (.inl e.symm)
    · exact h.a2 sb e (.inl rfl)
  · rcases f with e | e
    · exact h.a1 (.inr (by rw [← e]; exact hg))
    · exact h.a2 g e (.inr hg)
  · rcases T.own g hg with q | q
    · exact h.a2 g q f
    · rcases f with e | e
      · have := h.s.lt; omega
      · have := (h.s.own_lt e).2; omega
/-- A call on the one, and the same on the other. -/
def PairAt (fS fM : FuncId) (aS aM : Array Value) (w : World) (B sb mb : Nat) (now : Int) (v vm : Value) (L : List Ent) (r : Value) (now' turn' : Int) (L' : List Ent) : Prop :=
  (Calls Try.prog fS aS w fun e w' => e = .returned r ∧ ∃ v', St w' B sb now' turn' v' L' ∧ Step w sb v w' v') ∧
  ∀ w2 v2, Two w2 B sb mb now' turn' v2 vm L' now (L.map ev) → Calls Try.prog fM aM w2 fun e w' => e = .returned r ∧ ∃ vm', RepM w' B mb now' vm' (L'.map ev) ∧ StepM w2 mb vm w' vm'
theorem pair_add {w : World} {B sb mb : Nat} {now turn : Int} {v vm : Value} {L : List Ent} (h : Two w B sb mb now turn v vm L now (L.map ev)) (a k : Int) (ht : turn < 4611686018427387904) :
    ∃ (r : Int) (turn' : Int) (L' : List Ent), turn' ≤ turn + 1 ∧ PairAt 10 16 #[.pointer (some ⟨sb, 0, none⟩), .agg #[.int .i64 a, .int .i64 k]] #[.pointer (some ⟨mb, 0, none⟩), .agg #[.int .i64 a, .int .i64 k]] w B sb mb now v vm L (.int .i64 r) now turn' L' := by
  by_cases hb : bad a k
  · refine ⟨1, turn, L, by omega, (add_bad sb a k hb w).mono ?_, fun w2 v2 T => (madd_bad mb a k hb w2).mono ?_⟩
    · rintro e w' ⟨rfl, q⟩
      exact ⟨rfl, v, h.s.below q, Step.below q⟩
    · rintro e w' ⟨rfl, q⟩
      exact ⟨rfl, vm, T.m.below q, StepM.below q⟩
  · by_cases hl : L.length < 16
    · refine ⟨0, turn + 1, L ++ [(a, k, turn)], by omega, (add_ok h.s a k hb hl ht).mono ?_, fun w2 v2 T => (madd_ok T.m a k hb (by simpa using hl)).mono ?_⟩
      · rintro e w' ⟨rfl, q⟩
        exact ⟨rfl, q⟩
      · rintro e w' ⟨rfl, q⟩
        exact ⟨rfl, by rw [List.map_append]; exact q⟩
    · refine ⟨70, turn, L, by omega, (add_full h.s a k hb (by omega)).mono ?_, fun w2 v2 T => (madd_full T.m a k hb (by simpa using hl)).mono ?_⟩
      · rintro e w' ⟨rfl, q⟩
        exact ⟨rfl, v, h.s.below q, Step.below q⟩
      · rintro e w' ⟨rfl, q⟩
        exact ⟨rfl, vm, T.m.below q, StepM.below q⟩
theorem pair_pass {w : World} {B sb mb : Nat} {now turn : Int} {v vm : Value} {L : List Ent} (h : Two w B sb mb now turn v vm L now (L.map ev)) (n : Int) :
    ∃ (r : Int) (now' : Int), PairAt 12 17 #[.pointer (some ⟨sb, 0, none⟩), .int .i64 n] #[.pointer (some ⟨mb, 0, none⟩), .int .i64 n] w B sb mb now v vm L (.int .i64 r) now' turn L := by
  by_cases hb : n < 0 ∨ 1099511627776 - now < n
  · refine ⟨1, now, (pass_bad h.s n hb).mono ?_, fun w2 v2 T => (mpass_bad T.m h.s.n0 h.s.n1 n hb).mono ?_⟩
    · rintro e w' ⟨rfl, rfl⟩
      exact ⟨rfl, v, h.s, Step.refl _ _ _⟩
    · rintro e w' ⟨rfl, rfl⟩
      exact ⟨rfl, vm, T.m, StepM.refl _ _ _⟩
  · refine ⟨0, now + n, (pass_ok h.s n (by omega) (by omega)).mono ?_, fun w2 v2 T => (mpass_ok T.m h.s.n0 h.s.n1 n (by omega) (by omega)).mono ?_⟩
    · rintro e w' ⟨rfl, q, t⟩
      exact ⟨rfl, v, q, t⟩
    · rintro e w' ⟨rfl, q, t⟩
      exact ⟨rfl, vm, q, t⟩
/-- What is first, on both sides. -/
theorem first_both {L : List Ent} {turn : Int} (hi : Inv turn L) (h0 : 0 < L.length) : ∃ (j : Nat) (hj : j < L.length), firstGo (L.map ev) (L.map ev).length = j ∧ isMin L L[j] ∧ at2 (L.map ev) j = ev L[j] := by
  obtain ⟨j, hj, hf, hm⟩ := first_min hi.sorted h0
  exact ⟨j, hj, hf, ⟨List.getElem_mem hj, hm⟩, at2_map L j hj⟩
theorem pair_due {w : World} {B sb mb : Nat} {now turn : Int} {v vm : Value} {L : List Ent} (h : Two w B sb mb now turn v vm L now (L.map ev)) :
    ∃ (x1 x2 : Int) (b : Bool) (L' : List Ent), PairAt 14 18 #[.pointer (some ⟨sb, 0, none⟩)] #[.pointer (some ⟨mb, 0, none⟩)] w B sb mb now v vm L (.tuple #[.agg #[.int .i64 x1, .int .i64 x2], .bool b]) now turn L' := by
  by_cases h0 : L = []
  · subst h0
    refine ⟨0, 0, false, [], (due_none h.s).mono ?_, fun w2 v2 T => (mdue_none T.m).mono ?_⟩
    · rintro e w' ⟨rfl, q⟩
      exact ⟨rfl, v, h.s.below q, Step.below q⟩
    · rintro e w' ⟨rfl, q⟩
      exact ⟨rfl, vm, T.m.below q, StepM.below q⟩
  · obtain ⟨j, hj, hf, hm, ha⟩ := first_both h.s.inv (List.length_pos_iff.2 h0)
    have hj' : j < (L.map ev).length := by simpa using hj
    by_cases hn : L[j].1 ≤ now
    · refine ⟨L[j].1, L[j].2.1, true, L.erase L[j], (due_some h.s L[j] hm hn).mono ?_, fun w2 v2 T => ?_⟩
      · rintro e w' ⟨rfl, q⟩
        exact ⟨rfl, q⟩
      · have P := mdue_some T.m j hj' hf (by rw [ha]; exact hn)
        rw [ha, ← erase_at h.s.inv.sorted j hj] at P
        refine P.mono ?_
        rintro e w' ⟨rfl, q⟩
        exact ⟨rfl, q⟩
    · refine ⟨0, 0, false, L, (due_later h.s L[j] hm (by omega)).mono ?_, fun w2 v2 T => (mdue_later T.m j hj' hf (by rw [ha]; show now < L[j].1; omega)).mono ?_⟩
      · rintro e w' ⟨rfl, q⟩
        exact ⟨rfl, v, h.s.below q, Step.below q⟩
      · rintro e w' ⟨rfl, q⟩
        exact ⟨rfl, vm, T.m.below q, StepM.below q⟩
theorem filter_ev (kind : Int) (L : List Ent) : (L.map ev).filter (other2 kind) = (L.filter (other kind)).map ev := by
  rw [List.filter_map]
  rfl
theorem pair_cancel {w : World} {B sb mb : Nat} {now turn : Int} {v vm : Value} {L : List Ent} (h : Two w B sb mb now turn v vm L now (L.map ev)) (n : Int) :
    ∃ (r : Int) (L' : List Ent), PairAt 15 19 #[.pointer (some ⟨sb, 0, none⟩), .int .i64 n] #[.pointer (some ⟨mb, 0, none⟩), .int .i64 n] w B sb mb now v vm L (.int .i64 r) now turn L' := by
  refine ⟨((L.length - (L.filter (other n)).length : Nat) : Int), L.filter (other n), (cancel_any h.s n).mono ?_, fun w2 v2 T => ?_⟩
  · rintro e w' ⟨rfl, q⟩
    exact ⟨rfl, q⟩
  · have P := mcancel_any T.m n
    rw [filter_ev] at P
    simp only [List.length_map] at P
    refine P.mono ?_
    rintro e w' ⟨rfl, q⟩
    exact ⟨rfl, q⟩
/-- Next, on both sides. -/
theorem pair_next {w : World} {B sb mb : Nat} {now turn : Int} {v vm : Value} {L : List Ent} (h : Two w B sb mb now turn v vm L now (L.map ev)) :
    ∃ (x : Int) (b : Bool), (Calls Try.prog 20 #[.pointer (some ⟨sb, 0, none⟩)] w fun e w' => e = .returned (.tuple #[.int .i64 x, .bool b]) ∧ w = w') ∧ (Calls Try.prog 21 #[.pointer (some ⟨mb, 0, none⟩)] w fun e w' => e = .returned (.tuple #[.int .i64 x, .bool b]) ∧ Below w.heap.size w w') := by
  by_cases h0 : L = []
  · subst h0
    exact ⟨0, false, next_none h.s, mnext_none h.m⟩
  · obtain ⟨j, hj, hf, hm, ha⟩ := first_both h.s.inv (List.length_pos_iff.2 h0)
    have P := mnext_some h.m j (by simpa using hj) hf
    rw [ha] at P
    exact ⟨L[j].1, true, next_some h.s L[j] hm, P⟩
end Go.Proofs.Ytkgjikdkidjpjaa.Uf
