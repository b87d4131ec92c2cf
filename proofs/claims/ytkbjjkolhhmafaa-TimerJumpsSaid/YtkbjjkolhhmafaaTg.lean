/- Timers of the program and of the document together: what each call of a law does to both. -/
import Derived.Test.YtkbjjkolhhmafaaTf
namespace Go.Proofs.Ytkbjjkolhhmafaa.Tg
set_option linter.unusedVariables false
set_option linter.unusedSimpArgs false
open Go.RowKit Go.Proofs.Ytkbjjkolhhmafaa.Bt Go.Proofs.Ytkbjjkolhhmafaa.Wk Go.Proofs.Ytkbjjkolhhmafaa.Sg Go.Proofs.Ytkbjjkolhhmafaa.Ta Go.Proofs.Ytkbjjkolhhmafaa.Tb Go.Proofs.Ytkbjjkolhhmafaa.Te Go.Proofs.Ytkbjjkolhhmafaa.Tf

theorem rk_of {fr : Bool} {o r : One} {now : Int} (h : RelO fr o r now) : Rk r :=
  ⟨by rw [h.re]; exact h.re0, by rw [h.re]; exact h.re1, by rw [h.ct]; exact h.ct0, by rw [h.ct]; exact h.ct1, h.rc0, h.rc1, h.rs0, by rw [stp_ct h.ct]; exact h.rs1⟩
theorem ok_of {fr : Bool} {o r : One} {now : Int} (h : RelO fr o r now) (n1 : now ≤ 1099511627776) : Ok o :=
  ⟨h.re0, h.re1, h.ct0, h.ct1, h.co0, by have := h.co1; omega, h.si0, by have := h.si1; omega⟩
theorem rel_new : Rel Z Z 0 := fun i hi => by
  have e : Z i = zero := rfl
  generalize freeB Z i = f
  rw [e]
  exact ⟨rfl, rfl, by decide, by decide, by decide, by decide, by decide, by decide, by decide, by decide, by decide, by decide, by decide, by decide, fun _ => ⟨by decide, by decide⟩, fun _ => rfl⟩
theorem free_fire (T : Nat → One) (at_ : Int) (k : Nat) (i : Nat) : ((fireF T at_ k).1 i).ct = (T i).ct := by
  induction k with
  | zero => rfl
  | succ k ih =>
    unfold fireF
    dsimp only
    repeat' split
    all_goals
      first
        | exact ih
        | (dsimp only
           by_cases e : i = k
           · subst e; rw [upd_same]
           · rw [upd_ne _ _ e]; exact ih)
/-- One cycle. -/
theorem both_tick {T R : Nat → One} {now : Int} (h : Rel T R now) (n0 : 0 ≤ now) (n1 : now ≤ 1000000) :
    ∃ (T' R' : Nat → One) (m : Nat) (at_ : Int), Rel T' R' (now + 1) ∧ (m = 0 ∨ at_ = now + 1) ∧
      (∀ c w, w.heap[c]? = some (rt R now) → Calls Try.prog 11 #[.pointer (some ⟨c, 0, none⟩)] w fun e w' => e = .returned (.int .i64 m) ∧ Only c (rt R' (now + 1)) w w') ∧
      (∀ b w, w.heap[b]? = some (tim T) → Calls Try.prog 12 #[.pointer (some ⟨b, 0, none⟩), .int .i64 (now + 1)] w fun e w' => e = .returned (.tuple #[.int .i64 at_, .int .i64 m]) ∧ Only b (tim T') w w') := by
  obtain ⟨hm, hr⟩ := step_k h 4 (Nat.le_refl 4)
  have rel : Rel (fireF T (now + 1) 4).1 (tickF R 4).1 (now + 1) := fun i hi => by
    have := hr i hi
    rwa [← free_ct (i := i) (free_fire T (now + 1) 4 i)] at this
  have tk : ∀ c w, w.heap[c]? = some (rt R now) → Calls Try.prog 11 #[.pointer (some ⟨c, 0, none⟩)] w fun e w' => e = .returned (.int .i64 ((fireF T (now + 1) 4).2 : Nat)) ∧ Only c (rt (tickF R 4).1 (now + 1)) w w' := fun c w hs => by
    have := tick_any c R now (fun i hi => rk_of (h i hi)) n0 (by omega) w hs
    rwa [hm] at this
  have ok : ∀ i, i < 4 → Ok (T i) := fun i hi => ok_of (h i hi) (by omega)
  have ge : ∀ i, i < 4 → freeB T i = true → now + 1 ≤ Ta.due (T i) := fun i hi f => due_ge (by have := h i hi; rwa [f] at this)
  by_cases c : (nextF T 4).2 = true ∧ (nextF T 4).1 ≤ now + 1
  · obtain ⟨i, hi, f, d⟩ := next_is 4 c.1
    have e : (nextF T 4).1 = now + 1 := by have := ge i hi f; have := c.2; omega
    refine ⟨_, _, _, now + 1, rel, .inr rfl, tk, fun b w hs => ?_⟩
    have := fire_any b T ok (fun i hi => (h i hi).co1) (now + 1) c.1 c.2 w hs
    rwa [e] at this
  · have c' : (nextF T 4).2 = false ∨ now + 1 < (nextF T 4).1 := by
      cases hs : (nextF T 4).2
      · exact .inl rfl
      · exact .inr (by rw [hs] at c; have : ¬ (nextF T 4).1 ≤ now + 1 := fun x => c ⟨rfl, x⟩; omega)
    have idle : fireF T (now + 1) 4 = (T, 0) := fire_idle 4 fun i hi f => by
      rcases c' with n | l
      · rw [next_no 4 n i hi] at f; cases f
      · have := next_le 4 i hi f
        omega
    rw [idle] at tk rel
    refine ⟨T, _, 0, 0, rel, .inl rfl, tk, fun b w hs => ?_⟩
    exact (fire_no b T ok (now + 1) c' w hs).mono fun e w' k => ⟨k.1, by obtain ⟨n, rfl⟩ := k.2; exact (Only.refl hs).drewN n⟩
/-- A timer's count. -/
theorem value_both {T R : Nat → One} {now : Int} {i : Nat} (h : RelO (freeB T i) (T i) (R i) now) : valueV T i now % 65536 = (R i).co := by
  have a := h.rc0
  have b := h.rc1
  have s := h.si1
  have : valueV T i now = (R i).co := by
    unfold valueV
    cases f : freeB T i
    · rw [if_neg (by decide)]
      exact (h.nfr f).symm
    · rw [if_pos rfl, (h.fre f).1, show max 0 (now - (T i).si) = now - (T i).si by omega]
  rw [this]
  omega
theorem both_reload {T R : Nat → One} {now : Int} (h : Rel T R now) (i : Nat) (hi : i < 4) (x : Int) (x0 : 0 ≤ x) (x1 : x < 65536) : Rel (upd T i { T i with re := x }) (upd R i { R i with re := x }) now := fun j hj => by
  by_cases e : j = i
  · subst e
    have hh := h j hj
    have f : freeB (upd T j { T j with re := x }) j = freeB T j := free_ct (by rw [upd_same])
    rw [f, upd_same, upd_same]
    exact ⟨rfl, hh.ct, x0, by dsimp only; omega, hh.ct0, hh.ct1, hh.co0, hh.co1, hh.si0, hh.si1, hh.rc0, hh.rc1, hh.rs0, hh.rs1, hh.fre, hh.nfr⟩
  · have f : freeB (upd T i { T i with re := x }) j = freeB T j := free_ct (by rw [upd_ne _ _ e])
    rw [f, upd_ne _ _ e, upd_ne _ _ e]
    exact h j hj
theorem val_id {T R : Nat → One} {now : Int} {i : Nat} (h : RelO (freeB T i) (T i) (R i) now) : valueV T i now = (R i).co := by
  have s := h.si1
  unfold valueV
  cases f : freeB T i
  · rw [if_neg (by decide)]
    exact (h.nfr f).symm
  · rw [if_pos rfl, (h.fre f).1, show max 0 (now - (T i).si) = now - (T i).si by omega]
theorem and199 (x : Int) (h0 : 0 ≤ x) (h1 : x < 65536) : 0 ≤ Go.bits .and .u16 x 199 ∧ Go.bits .and .u16 x 199 < 65536 := by
  have : Go.bits .and .u16 x 199 = IntKind.u16.wrap (((BitVec.ofInt 16 x &&& BitVec.ofInt 16 199).toNat : Nat) : Int) := rfl
  rw [this, IntKind.wrap_u16]
  omega
theorem both_set {T R : Nat → One} {now : Int} (h : Rel T R now) (n0 : 0 ≤ now) (i : Nat) (hi : i < 4) (x : Int) (y0 : 0 ≤ Go.bits .and .u16 x 199) (y1 : Go.bits .and .u16 x 199 < 65536) : Rel (upd T i (setC T i now x)) (upd R i (setR (R i) x)) now := fun j hj => by
  by_cases e : j = i
  · subst e
    have hh := h j hj
    have v := val_id hh
    have rr : runsB (R j) = runsB (T j) := runs_ct hh.ct
    rw [upd_same, upd_same]
    have co : (setR (R j) x).co = (setC T j now x).co := by
      unfold setR setC
      dsimp only
      rw [rr, v, hh.re]
    have c0 : 0 ≤ (setC T j now x).co ∧ (setC T j now x).co ≤ 65535 := by
      unfold setC
      dsimp only
      rw [v]
      split
      · exact ⟨hh.re0, hh.re1⟩
      · exact ⟨hh.rc0, hh.rc1⟩
    have sp := stp_pos (setC T j now x)
    refine ⟨hh.re, rfl, hh.re0, hh.re1, y0, y1, c0.1, c0.2, n0, Int.le_refl _, by rw [co]; exact c0.1, by rw [co]; exact c0.2, Int.le_refl 0, ?_, fun _ => ⟨?_, ?_⟩, fun _ => co⟩
    · show 0 < stp (setC T j now x)
      omega
    · rw [co]
      show (setC T j now x).co = (setC T j now x).co + (now - now) / stp (setC T j now x)
      rw [Int.sub_self, Int.zero_ediv]; omega
    · show 0 = (now - now) % stp (setC T j now x)
      rw [Int.sub_self, Int.zero_emod]
  · have f : freeB (upd T i (setC T i now x)) j = freeB T j := free_ct (by rw [upd_ne _ _ e])
    rw [f, upd_ne _ _ e, upd_ne _ _ e]
    exact h j hj
end Go.Proofs.Ytkbjjkolhhmafaa.Tg
