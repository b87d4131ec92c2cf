/- Timers of the program and of the document, cycle by cycle. No program here. -/
import Derived.Test.YtkbjjkolhhmafaaTe
namespace Go.Proofs.Ytkbjjkolhhmafaa.Tf
set_option linter.unusedVariables false
set_option linter.unusedSimpArgs false
open Go.RowKit Go.Proofs.Ytkbjjkolhhmafaa.Bt Go.Proofs.Ytkbjjkolhhmafaa.Wk Go.Proofs.Ytkbjjkolhhmafaa.Sg Go.Proofs.Ytkbjjkolhhmafaa.Ta Go.Proofs.Ytkbjjkolhhmafaa.Te

/-- One timer: the program's o, the document's r, at a cycle. -/
structure RelO (fr : Bool) (o r : One) (now : Int) : Prop where
  re : r.re = o.re
  ct : r.ct = o.ct
  re0 : 0 ≤ o.re
  re1 : o.re ≤ 65535
  ct0 : 0 ≤ o.ct
  ct1 : o.ct < 65536
  co0 : 0 ≤ o.co
  co1 : o.co ≤ 65535
  si0 : 0 ≤ o.si
  si1 : o.si ≤ now
  rc0 : 0 ≤ r.co
  rc1 : r.co ≤ 65535
  rs0 : 0 ≤ r.si
  rs1 : r.si < stp o
  fre : fr = true → r.co = o.co + (now - o.si) / stp o ∧ r.si = (now - o.si) % stp o
  nfr : fr = false → r.co = o.co
theorem stp4 (o : One) : stp o = 1 ∨ stp o = 64 ∨ stp o = 256 ∨ stp o = 1024 := by
  unfold stp
  repeat' split
  all_goals simp
theorem stp_ct {o r : One} (h : r.ct = o.ct) : stp r = stp o := by unfold stp; rw [h]
theorem due_ge {o r : One} {now : Int} (h : RelO true o r now) : now + 1 ≤ Ta.due o := by
  obtain ⟨_, _, _, _, _, _, _, _, _, s1, _, c1, _, _, f, _⟩ := h
  have f := (f rfl).1
  unfold Ta.due
  rcases stp4 o with e | e | e | e <;> rw [e] at f ⊢ <;> omega
theorem due_iff {o r : One} {now : Int} (h : RelO true o r now) : Ta.due o = now + 1 ↔ r.si + 1 = stp r ∧ r.co = 65535 := by
  rw [stp_ct h.ct]
  obtain ⟨_, _, _, _, _, _, _, _, _, s1, _, c1, _, _, f, _⟩ := h
  obtain ⟨f, g⟩ := f rfl
  unfold Ta.due
  rcases stp4 o with e | e | e | e <;> rw [e] at f g ⊢ <;> omega
theorem relA {o r : One} {now : Int} (h : RelO true o r now) (d : Ta.due o = now + 1) : RelO true { o with co := o.re, si := now + 1 } (upO { r with si := 0 }) (now + 1) := by
  have c := ((due_iff h).1 d).2
  have sp := stp_pos o
  unfold upO
  rw [if_pos c]
  obtain ⟨a, b, re0, re1, ct0, ct1, co0, co1, si0, si1, rc0, rc1, rs0, rs1, f, _⟩ := h
  refine ⟨a, b, re0, re1, ct0, ct1, re0, re1, by dsimp only; omega, Int.le_refl _, by dsimp only; omega, by dsimp only; omega, Int.le_refl 0, ?_, fun _ => ⟨?_, ?_⟩, fun x => (by cases x)⟩
  · show 0 < stp o
    omega
  · show r.re = o.re + (now + 1 - (now + 1)) / stp o
    rw [Int.sub_self, Int.zero_ediv]; omega
  · show 0 = (now + 1 - (now + 1)) % stp o
    rw [Int.sub_self, Int.zero_emod]
theorem relB {o r : One} {now : Int} (h : RelO true o r now) (c : r.co ≠ 65535) (e : r.si + 1 = stp r) : RelO true o (upO { r with si := 0 }) (now + 1) := by
  have sp := stp_pos o
  rw [stp_ct h.ct] at e
  unfold upO
  rw [if_neg c]
  obtain ⟨a, b, re0, re1, ct0, ct1, co0, co1, si0, si1, rc0, rc1, rs0, rs1, f, _⟩ := h
  obtain ⟨f, g⟩ := f rfl
  refine ⟨a, b, re0, re1, ct0, ct1, co0, co1, si0, by omega, by dsimp only; omega, by dsimp only; omega, Int.le_refl 0, by dsimp only; omega, fun _ => ⟨?_, ?_⟩, fun x => (by cases x)⟩
  · show r.co + 1 = _
    rcases stp4 o with q | q | q | q <;> rw [q] at e f g ⊢ <;> omega
  · show 0 = _
    rcases stp4 o with q | q | q | q <;> rw [q] at e f g ⊢ <;> omega
theorem relC {o r : One} {now : Int} (h : RelO true o r now) (e : r.si + 1 ≠ stp r) : RelO true o { r with si := r.si + 1 } (now + 1) := by
  have sp := stp_pos o
  rw [stp_ct h.ct] at e
  obtain ⟨a, b, re0, re1, ct0, ct1, co0, co1, si0, si1, rc0, rc1, rs0, rs1, f, _⟩ := h
  obtain ⟨f, g⟩ := f rfl
  refine ⟨a, b, re0, re1, ct0, ct1, co0, co1, si0, by omega, rc0, rc1, by dsimp only; omega, by dsimp only; omega, fun _ => ⟨?_, ?_⟩, fun x => (by cases x)⟩
  · show r.co = _
    rcases stp4 o with q | q | q | q <;> rw [q] at e f g rs1 ⊢ <;> omega
  · show r.si + 1 = _
    rcases stp4 o with q | q | q | q <;> rw [q] at e f g rs1 ⊢ <;> omega
theorem relD {o r : One} {now : Int} (h : RelO false o r now) : RelO false (if o.co = 65535 then { o with co := o.re } else { o with co := o.co + 1 }) (upO r) (now + 1) := by
  obtain ⟨a, b, re0, re1, ct0, ct1, co0, co1, si0, si1, rc0, rc1, rs0, rs1, _, n⟩ := h
  have n := n rfl
  unfold upO
  by_cases c : o.co = 65535
  · rw [if_pos c, if_pos (n.trans c)]
    exact ⟨a, b, re0, re1, ct0, ct1, re0, re1, si0, by dsimp only; omega, by dsimp only; omega, by dsimp only; omega, rs0, rs1, fun x => (by cases x), fun _ => a⟩
  · rw [if_neg c, if_neg (n ▸ c)]
    exact ⟨a, b, re0, re1, ct0, ct1, by dsimp only; omega, by dsimp only; omega, si0, by dsimp only; omega, by dsimp only; omega, by dsimp only; omega, rs0, rs1, fun x => (by cases x), fun _ => by dsimp only; omega⟩
theorem relE {o r : One} {now : Int} (h : RelO false o r now) : RelO false o r (now + 1) := by
  obtain ⟨a, b, re0, re1, ct0, ct1, co0, co1, si0, si1, rc0, rc1, rs0, rs1, _, n⟩ := h
  exact ⟨a, b, re0, re1, ct0, ct1, co0, co1, si0, by omega, rc0, rc1, rs0, rs1, fun x => (by cases x), n⟩
/-- All four. -/
def Rel (T R : Nat → One) (now : Int) : Prop := ∀ i, i < 4 → RelO (freeB T i) (T i) (R i) now
theorem free_ct {T R : Nat → One} {i : Nat} (h : (R i).ct = (T i).ct) : freeB R i = freeB T i := by unfold freeB runsB; rw [h]
theorem runs_ct {o r : One} (h : r.ct = o.ct) : runsB r = runsB o := by unfold runsB; rw [h]
theorem step_k {T R : Nat → One} {now : Int} (h : Rel T R now) (k : Nat) (hk : k ≤ 4) :
    (tickF R k).2 = (fireF T (now + 1) k).2 ∧ ∀ i, i < k → RelO (freeB T i) ((fireF T (now + 1) k).1 i) ((tickF R k).1 i) (now + 1) := by
  induction k with
  | zero => exact ⟨rfl, fun i hi => by omega⟩
  | succ k ih =>
    obtain ⟨hm, hr⟩ := ih (by omega)
    have hh := h k (by omega)
    have fc := free_ct (i := k) hh.ct
    have rc := runs_ct hh.ct
    have hU := fire_same T (now + 1) k k (Nat.le_refl k)
    have hV := tick_same R k k (Nat.le_refl k)
    unfold tickF fireF
    generalize fireF T (now + 1) k = F at *
    generalize tickF R k = G at *
    obtain ⟨U, m⟩ := F
    obtain ⟨V, m'⟩ := G
    dsimp only at hm hr hU hV ⊢
    subst hm
    rw [fc, rc]
    have put : ∀ (o r : One), RelO (freeB T k) o r (now + 1) → ∀ i, i < k + 1 → RelO (freeB T i) (upd U k o i) (upd V k r i) (now + 1) := fun o r hor i hi => by
      by_cases e : i = k
      · subst e; rw [upd_same, upd_same]; exact hor
      · rw [upd_ne _ _ e, upd_ne _ _ e]; exact hr i (by omega)
    have put2 : ∀ r : One, RelO (freeB T k) (T k) r (now + 1) → ∀ i, i < k + 1 → RelO (freeB T i) (U i) (upd V k r i) (now + 1) := fun r hor i hi => by
      by_cases e : i = k
      · subst e; rw [upd_same, hU]; exact hor
      · rw [upd_ne _ _ e]; exact hr i (by omega)
    cases hf : freeB T k
    · rw [hf] at hh
      rw [if_neg Bool.false_ne_true, if_neg Bool.false_ne_true]
      by_cases b : (runsB (T k) && m'.testBit (k - 1)) = true
      · rw [if_pos b, if_pos b]
        have n := hh.nfr rfl
        have D := relD hh
        by_cases c : (T k).co = 65535
        · rw [if_pos c] at D ⊢
          rw [if_pos (n.trans c)]
          exact ⟨rfl, put _ _ (by rw [hf]; exact D)⟩
        · rw [if_neg c] at D ⊢
          rw [if_neg (n ▸ c)]
          exact ⟨rfl, put _ _ (by rw [hf]; exact D)⟩
      · rw [if_neg b, if_neg b]
        refine ⟨rfl, fun i hi => ?_⟩
        by_cases e : i = k
        · subst e
          dsimp only
          rw [hU, hV, hf]
          exact relE hh
        · exact hr i (by omega)
    · rw [hf] at hh
      rw [if_pos rfl, if_pos rfl]
      by_cases d : Ta.due (T k) = now + 1
      · obtain ⟨e, c⟩ := (due_iff hh).1 d
        rw [if_pos d, if_pos e, if_pos c]
        exact ⟨rfl, put _ _ (by rw [hf]; exact relA hh d)⟩
      · rw [if_neg d]
        by_cases e : (R k).si + 1 = stp (R k)
        · have c : (R k).co ≠ 65535 := fun c => d ((due_iff hh).2 ⟨e, c⟩)
          rw [if_pos e, if_neg c]
          exact ⟨rfl, put2 _ (by rw [hf]; exact relB hh c e)⟩
        · rw [if_neg e]
          exact ⟨rfl, put2 _ (by rw [hf]; exact relC hh e)⟩
/-- What the next running over says of the first k timers. -/
theorem next_no {T : Nat → One} (k : Nat) (h : (nextF T k).2 = false) : ∀ i, i < k → freeB T i = false := by
  induction k with
  | zero => exact fun i hi => by omega
  | succ k ih =>
    unfold nextF at h
    by_cases c : freeB T k = true ∧ ((nextF T k).2 = false ∨ Ta.due (T k) < (nextF T k).1)
    · rw [if_pos c] at h; cases h
    · rw [if_neg c] at h
      intro i hi
      by_cases e : i = k
      · subst e
        cases hf : freeB T i
        · rfl
        · exact absurd ⟨hf, .inl h⟩ c
      · exact ih h i (by omega)
theorem next_le {T : Nat → One} (k : Nat) : ∀ i, i < k → freeB T i = true → (nextF T k).1 ≤ Ta.due (T i) := by
  induction k with
  | zero => exact fun i hi => by omega
  | succ k ih =>
    intro i hi hf
    unfold nextF
    by_cases c : freeB T k = true ∧ ((nextF T k).2 = false ∨ Ta.due (T k) < (nextF T k).1)
    · rw [if_pos c]
      by_cases e : i = k
      · subst e; exact Int.le_refl _
      · rcases c.2 with n | l
        · rw [next_no k n i (by omega)] at hf; cases hf
        · have := ih i (by omega) hf
          dsimp only
          omega
    · rw [if_neg c]
      by_cases e : i = k
      · subst e
        have : ¬ ((nextF T i).2 = false ∨ Ta.due (T i) < (nextF T i).1) := fun x => c ⟨hf, x⟩
        omega
      · exact ih i (by omega) hf
theorem next_is {T : Nat → One} (k : Nat) (h : (nextF T k).2 = true) : ∃ i, i < k ∧ freeB T i = true ∧ (nextF T k).1 = Ta.due (T i) := by
  induction k with
  | zero => cases h
  | succ k ih =>
    unfold nextF at h ⊢
    by_cases c : freeB T k = true ∧ ((nextF T k).2 = false ∨ Ta.due (T k) < (nextF T k).1)
    · rw [if_pos c]
      exact ⟨k, by omega, c.1, rfl⟩
    · rw [if_neg c] at h ⊢
      obtain ⟨i, a, b, d⟩ := ih h
      exact ⟨i, by omega, b, d⟩
/-- Nothing runs over where none is due. -/
theorem fire_idle {T : Nat → One} {at_ : Int} (k : Nat) (h : ∀ i, i < k → freeB T i = true → Ta.due (T i) ≠ at_) : fireF T at_ k = (T, 0) := by
  induction k with
  | zero => rfl
  | succ k ih =>
    unfold fireF
    rw [ih fun i hi => h i (by omega)]
    dsimp only
    by_cases f : freeB T k = true
    · rw [if_pos f, if_neg (h k (by omega) f)]
    · rw [if_neg f, if_neg (by simp)]
/-- Something runs over where one is due. -/
theorem fire_some {T : Nat → One} {at_ : Int} (k i : Nat) (hi : i < k) (f : freeB T i = true) (d : Ta.due (T i) = at_) : (fireF T at_ k).2 ≠ 0 := by
  induction k with
  | zero => omega
  | succ k ih =>
    have p : 0 < 2 ^ k := Nat.pow_pos (by decide)
    by_cases e : i = k
    · subst e
      unfold fireF
      dsimp only
      rw [if_pos f, if_pos d]
      dsimp only
      omega
    · have := ih (by omega)
      unfold fireF
      dsimp only
      repeat' split
      all_goals (dsimp only; omega)
end Go.Proofs.Ytkbjjkolhhmafaa.Tf
