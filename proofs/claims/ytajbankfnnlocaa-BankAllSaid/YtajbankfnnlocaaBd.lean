/- A bank, and each register of each mode with a place of its own: the plain law. No walk here. -/
import Derived.Test.YtajbankfnnlocaaBc
namespace Go.Proofs.Ytajbankfnnlocaa.Bd
set_option linter.unusedVariables false
set_option linter.unusedSimpArgs false
open Go.RowKit Go.Proofs.Ytajbankfnnlocaa.Bt Go.Proofs.Ytajbankfnnlocaa.Wk Go.Proofs.Ytajbankfnnlocaa.Sg Go.Proofs.Ytajbankfnnlocaa.Ba Go.Proofs.Ytajbankfnnlocaa.Bb Go.Proofs.Ytajbankfnnlocaa.Bc

/-- Registers by mode and number, saved statuses, the status. -/
structure Ab where
  R : Nat → Nat → Int
  S : Nat → Int
  st : Int
/-- Whose register i a mode sees. -/
def pm (s i : Nat) : Nat := if i = 13 ∨ i = 14 ∨ (8 ≤ i ∧ i ≤ 12 ∧ s = 1) then s else 0
def upd2 (R : Nat → Nat → Int) (m i : Nat) (v : Int) : Nat → Nat → Int := fun a b => if a = m ∧ b = i then v else R a b
structure Rep (P : Bk) (A : Ab) : Prop where
  c : P.c = A.st
  r : ∀ i, i < 16 → P.r i = A.R (pm (sl A.st) i) i
  o3 : ∀ m, m < 6 → m ≠ sl A.st → P.ot (m * 2) = A.R m 13
  o4 : ∀ m, m < 6 → m ≠ sl A.st → P.ot (m * 2 + 1) = A.R m 14
  h0 : sl A.st ≠ 1 → ∀ j, j < 5 → P.hi j = A.R 1 (8 + j)
  h1 : sl A.st = 1 → ∀ j, j < 5 → P.hi (5 + j) = A.R 0 (8 + j)
  s : ∀ m, 0 < m → m < 6 → P.sv m = A.S m
theorem rep_user {P : Bk} {A : Ab} (h : Rep P A) (k : Nat) (hk : k < 16) : userV P k = A.R 0 k := by
  unfold userV
  rw [h.c]
  by_cases hA : 8 ≤ k ∧ k ≤ 12 ∧ sl A.st = 1
  · rw [if_pos hA, h.h1 hA.2.2 (k - 8) (by omega)]
    congr 1; omega
  · rw [if_neg hA]
    by_cases hB : 13 ≤ k ∧ k ≤ 14 ∧ sl A.st ≠ 0
    · rw [if_pos hB]
      have : k = 13 ∨ k = 14 := by omega
      rcases this with rfl | rfl
      · exact h.o3 0 (by decide) (fun e => hB.2.2 e.symm)
      · exact h.o4 0 (by decide) (fun e => hB.2.2 e.symm)
    · rw [if_neg hB, h.r k hk]
      congr 1
      unfold pm
      split
      · have : sl A.st = 0 := by
          refine Decidable.byContradiction fun e => ?_
          rename_i hh
          rcases hh with rfl | rfl | hh
          · exact hB ⟨by omega, by omega, e⟩
          · exact hB ⟨by omega, by omega, e⟩
          · exact hA hh
        exact this
      · rfl
def savedA (A : Ab) : Int := if sl A.st = 0 then A.st else A.S (sl A.st)
theorem rep_saved {P : Bk} {A : Ab} (h : Rep P A) : savedV P = savedA A := by
  unfold savedV savedA
  rw [h.c]
  by_cases e : sl A.st = 0
  · rw [if_pos e, if_pos e]
  · rw [if_neg e, if_neg e]; exact h.s _ (by omega) (sl_lt _)
theorem rep_set {P : Bk} {A : Ab} (h : Rep P A) (k : Nat) (hk : k < 16) (x : Int) : Rep { P with r := upd P.r k x } { A with R := upd2 A.R (pm (sl A.st) k) k x } where
  c := h.c
  r := fun i hi => by
    show upd P.r k x i = upd2 A.R (pm (sl A.st) k) k x (pm (sl A.st) i) i
    unfold upd upd2
    by_cases e : i = k
    · subst e; rw [if_pos rfl, if_pos ⟨rfl, rfl⟩]
    · rw [if_neg e, if_neg (fun q => e q.2)]; exact h.r i hi
  o3 := fun m hm hn => by
    show P.ot (m * 2) = upd2 A.R (pm (sl A.st) k) k x m 13
    unfold upd2
    rw [if_neg, h.o3 m hm hn]
    rintro ⟨a, b⟩
    subst b
    exact hn (by rw [a]; rfl)
  o4 := fun m hm hn => by
    show P.ot (m * 2 + 1) = upd2 A.R (pm (sl A.st) k) k x m 14
    unfold upd2
    rw [if_neg, h.o4 m hm hn]
    rintro ⟨a, b⟩
    subst b
    exact hn (by rw [a]; rfl)
  h0 := fun hs j hj => by
    show P.hi j = upd2 A.R (pm (sl A.st) k) k x 1 (8 + j)
    unfold upd2
    rw [if_neg, h.h0 hs j hj]
    rintro ⟨a, b⟩
    unfold pm at a
    split at a
    · exact hs a.symm
    · omega
  h1 := fun hs j hj => by
    show P.hi (5 + j) = upd2 A.R (pm (sl A.st) k) k x 0 (8 + j)
    unfold upd2
    rw [if_neg, h.h1 hs j hj]
    rintro ⟨a, b⟩
    unfold pm at a
    rw [if_pos (Or.inr (Or.inr ⟨by omega, by omega, hs⟩)), hs] at a
    omega
  s := h.s
theorem rep_setSaved {P : Bk} {A : Ab} (h : Rep P A) (x : Int) : Rep (setSavedF P x) (if sl A.st = 0 then A else { A with S := upd A.S (sl A.st) x }) := by
  unfold setSavedF
  rw [show sl P.c = sl A.st by rw [h.c]]
  by_cases e : sl A.st = 0
  · rw [if_pos e, if_pos e]; exact h
  · rw [if_neg e, if_neg e]
    exact ⟨h.c, h.r, h.o3, h.o4, h.h0, h.h1, fun m h0 hm => by
      show upd P.sv (sl A.st) x m = upd A.S (sl A.st) x m
      unfold upd
      split
      · rfl
      · exact h.s m h0 hm⟩
theorem rep_setUser {P : Bk} {A : Ab} (h : Rep P A) (k : Nat) (hk : k < 16) (x : Int) : Rep (setUserF P k x) { A with R := upd2 A.R 0 k x } := by
  unfold setUserF
  rw [show sl P.c = sl A.st by rw [h.c]]
  have hs6 := sl_lt A.st
  by_cases hA : 8 ≤ k ∧ k ≤ 12 ∧ sl A.st = 1
  · rw [if_pos hA]
    obtain ⟨a, b, s1⟩ := hA
    refine ⟨h.c, fun i hi => ?_, fun m hm hn => ?_, fun m hm hn => ?_, fun hs => absurd s1 hs, fun hs j hj => ?_, h.s⟩
    · show P.r i = upd2 A.R 0 k x (pm (sl A.st) i) i
      unfold upd2
      rw [if_neg, h.r i hi]
      rintro ⟨p, q⟩
      subst q
      unfold pm at p
      rw [if_pos (Or.inr (Or.inr ⟨a, b, s1⟩)), s1] at p
      omega
    · show P.ot (m * 2) = upd2 A.R 0 k x m 13
      unfold upd2
      rw [if_neg (by omega), h.o3 m hm hn]
    · show P.ot (m * 2 + 1) = upd2 A.R 0 k x m 14
      unfold upd2
      rw [if_neg (by omega), h.o4 m hm hn]
    · show upd P.hi (5 + (k - 8)) x (5 + j) = upd2 A.R 0 k x 0 (8 + j)
      unfold upd upd2
      by_cases e : 5 + j = 5 + (k - 8)
      · rw [if_pos e, if_pos ⟨rfl, by omega⟩]
      · rw [if_neg e, if_neg (by omega)]; exact h.h1 hs j hj
  · rw [if_neg hA]
    by_cases hB : 13 ≤ k ∧ k ≤ 14 ∧ sl A.st ≠ 0
    · rw [if_pos hB]
      obtain ⟨a, b, s0⟩ := hB
      refine ⟨h.c, fun i hi => ?_, fun m hm hn => ?_, fun m hm hn => ?_, fun hs j hj => ?_, fun hs j hj => ?_, h.s⟩
      · show P.r i = upd2 A.R 0 k x (pm (sl A.st) i) i
        unfold upd2
        rw [if_neg, h.r i hi]
        rintro ⟨p, q⟩
        subst q
        unfold pm at p
        rw [if_pos (by omega)] at p
        exact s0 p
      · show upd P.ot (k - 13) x (m * 2) = upd2 A.R 0 k x m 13
        unfold upd upd2
        by_cases e : m * 2 = k - 13
        · rw [if_pos e, if_pos (by omega)]
        · rw [if_neg e, if_neg (by omega)]; exact h.o3 m hm hn
      · show upd P.ot (k - 13) x (m * 2 + 1) = upd2 A.R 0 k x m 14
        unfold upd upd2
        by_cases e : m * 2 + 1 = k - 13
        · rw [if_pos e, if_pos (by omega)]
        · rw [if_neg e, if_neg (by omega)]; exact h.o4 m hm hn
      · show P.hi j = upd2 A.R 0 k x 1 (8 + j)
        unfold upd2
        rw [if_neg (by omega), h.h0 hs j hj]
      · show P.hi (5 + j) = upd2 A.R 0 k x 0 (8 + j)
        unfold upd2
        rw [if_neg (by omega), h.h1 hs j hj]
    · rw [if_neg hB]
      have hp : pm (sl A.st) k = 0 := by
        unfold pm
        split
        · rename_i hh
          refine Decidable.byContradiction fun e => ?_
          rcases hh with rfl | rfl | hh
          · exact hB ⟨by omega, by omega, e⟩
          · exact hB ⟨by omega, by omega, e⟩
          · exact hA hh
        · rfl
      have := rep_set h k hk x
      rw [hp] at this
      exact this
theorem put5_in (f : Nat → Int) (i : Nat) (g : Nat → Int) (j k : Nat) (h : i ≤ k ∧ k < i + 5) : put5 f i g j k = g (j + (k - i)) := if_pos h
theorem put5_out (f : Nat → Int) (i : Nat) (g : Nat → Int) (j k : Nat) (h : ¬ (i ≤ k ∧ k < i + 5)) : put5 f i g j k = f k := if_neg h
/-- The registers that a mode has at hand behind a change of modes, but for R8 to R12. -/
theorem rep_setSt {P : Bk} {A : Ab} (h : Rep P A) (x : Int) : Rep (setStF P x (sl P.c) (sl x)) { A with st := x } := by
  unfold setStF
  rw [show sl P.c = sl A.st by rw [h.c]]
  have ho := sl_lt A.st
  have hn := sl_lt x
  by_cases e : sl A.st = sl x
  · rw [if_pos e]
    refine ⟨rfl, ?_, ?_, ?_, ?_, ?_, h.s⟩
    · show ∀ i, i < 16 → P.r i = A.R (pm (sl x) i) i
      rw [← e]; exact h.r
    · show ∀ m, m < 6 → m ≠ sl x → P.ot (m * 2) = A.R m 13
      rw [← e]; exact h.o3
    · show ∀ m, m < 6 → m ≠ sl x → P.ot (m * 2 + 1) = A.R m 14
      rw [← e]; exact h.o4
    · show sl x ≠ 1 → ∀ j, j < 5 → P.hi j = A.R 1 (8 + j)
      rw [← e]; exact h.h0
    · show sl x = 1 → ∀ j, j < 5 → P.hi (5 + j) = A.R 0 (8 + j)
      rw [← e]; exact h.h1
  rw [if_neg e]
  have r13 : P.r 13 = A.R (sl A.st) 13 := h.r 13 (by decide)
  have r14 : P.r 14 = A.R (sl A.st) 14 := h.r 14 (by decide)
  have n13 : P.ot (sl x * 2) = A.R (sl x) 13 := h.o3 _ hn (fun q => e q.symm)
  have n14 : P.ot (sl x * 2 + 1) = A.R (sl x) 14 := h.o4 _ hn (fun q => e q.symm)
  have o3 : ∀ m, m < 6 → m ≠ sl x → upd (upd P.ot (sl A.st * 2) (P.r 13)) (sl A.st * 2 + 1) (P.r 14) (m * 2) = A.R m 13 := fun m hm hne => by
    rw [upd_ne _ _ (by omega)]
    unfold upd
    by_cases q : m = sl A.st
    · subst q; rw [if_pos rfl, r13]
    · rw [if_neg (by omega)]; exact h.o3 m hm q
  have o4 : ∀ m, m < 6 → m ≠ sl x → upd (upd P.ot (sl A.st * 2) (P.r 13)) (sl A.st * 2 + 1) (P.r 14) (m * 2 + 1) = A.R m 14 := fun m hm hne => by
    unfold upd
    by_cases q : m = sl A.st
    · subst q; rw [if_pos rfl, r14]
    · rw [if_neg (by omega), if_neg (by omega)]; exact h.o4 m hm q
  have r5 : ∀ i, i < 16 → ¬ (8 ≤ i ∧ i ≤ 12) → upd (upd P.r 13 (P.ot (sl x * 2))) 14 (P.ot (sl x * 2 + 1)) i = A.R (pm (sl x) i) i := fun i hi hne => by
    unfold upd
    by_cases q4 : i = 14
    · subst q4; rw [if_pos rfl, n14]; rfl
    rw [if_neg q4]
    by_cases q3 : i = 13
    · subst q3; rw [if_pos rfl, n13]; rfl
    rw [if_neg q3, h.r i hi]
    have z : ∀ s, pm s i = 0 := fun s => if_neg (by omega)
    rw [z, z]
  have r8 : ∀ i, 8 ≤ i → i ≤ 12 → upd (upd P.r 13 (P.ot (sl x * 2))) 14 (P.ot (sl x * 2 + 1)) i = A.R (pm (sl A.st) i) i := fun i h8 h12 => by
    rw [upd_ne _ _ (by omega), upd_ne _ _ (by omega)]; exact h.r i (by omega)
  generalize upd (upd P.r 13 (P.ot (sl x * 2))) 14 (P.ot (sl x * 2 + 1)) = r at *
  generalize upd (upd P.ot (sl A.st * 2) (P.r 13)) (sl A.st * 2 + 1) (P.r 14) = ot at *
  have p8 : ∀ s i, 8 ≤ i → i ≤ 12 → pm s i = if s = 1 then 1 else 0 := fun s i a b => by
    unfold pm
    by_cases q : s = 1
    · rw [if_pos q, if_pos (Or.inr (Or.inr ⟨a, b, q⟩)), q]
    · rw [if_neg q, if_neg (by omega)]
  by_cases s1 : sl A.st = 1
  · rw [if_pos s1]
    have n1 : sl x ≠ 1 := fun q => e (s1.trans q.symm)
    refine ⟨rfl, fun i hi => ?_, o3, o4, fun _ j hj => ?_, fun q => absurd q n1, h.s⟩
    · show put5 r 8 (put5 P.hi 0 r 8) 5 i = A.R (pm (sl x) i) i
      by_cases q : 8 ≤ i ∧ i ≤ 12
      · rw [put5_in _ _ _ _ _ (by omega), put5_out _ _ _ _ _ (by omega), p8 _ _ q.1 q.2, if_neg n1, h.h1 s1 (i - 8) (by omega)]
        congr 1; omega
      · rw [put5_out _ _ _ _ _ (by omega)]; exact r5 i hi q
    · show put5 P.hi 0 r 8 j = A.R 1 (8 + j)
      rw [put5_in _ _ _ _ _ (by omega), Nat.sub_zero, r8 _ (by omega) (by omega), p8 _ _ (by omega) (by omega), if_pos s1]
  · rw [if_neg s1]
    by_cases n1 : sl x = 1
    · rw [if_pos n1]
      refine ⟨rfl, fun i hi => ?_, o3, o4, fun q => absurd n1 q, fun _ j hj => ?_, h.s⟩
      · show put5 r 8 (put5 P.hi 5 r 8) 0 i = A.R (pm (sl x) i) i
        by_cases q : 8 ≤ i ∧ i ≤ 12
        · rw [put5_in _ _ _ _ _ (by omega), put5_out _ _ _ _ _ (by omega), p8 _ _ q.1 q.2, if_pos n1, h.h0 s1 _ (by omega)]
          congr 1; omega
        · rw [put5_out _ _ _ _ _ (by omega)]; exact r5 i hi q
      · show put5 P.hi 5 r 8 (5 + j) = A.R 0 (8 + j)
        rw [put5_in _ _ _ _ _ (by omega), show 8 + (5 + j - 5) = 8 + j by omega, r8 _ (by omega) (by omega), p8 _ _ (by omega) (by omega), if_neg s1]
    · rw [if_neg n1]
      refine ⟨rfl, fun i hi => ?_, o3, o4, fun _ j hj => h.h0 s1 j hj, fun q => absurd q n1, h.s⟩
      show r i = A.R (pm (sl x) i) i
      by_cases q : 8 ≤ i ∧ i ≤ 12
      · rw [r8 _ q.1 q.2, p8 _ _ q.1 q.2, p8 _ _ q.1 q.2, if_neg s1, if_neg n1]
      · exact r5 i hi q
end Go.Proofs.Ytajbankfnnlocaa.Bd
