/- A channel that begins again: in plain terms. No program here. -/
import Derived.Test.YtbpeppmajmhmiaaDt
import Derived.Test.YtbpeppmajmhmiaaDr
namespace Go.Proofs.Ytbpeppmajmhmiaa.Du
set_option linter.unusedVariables false
set_option linter.unusedSimpArgs false
open Go.RowKit Go.Proofs.Ytbpeppmajmhmiaa.Bt Go.Proofs.Ytbpeppmajmhmiaa.Wk Go.Proofs.Ytbpeppmajmhmiaa.Sg Go.Proofs.Ytbpeppmajmhmiaa.Dp Go.Proofs.Ytbpeppmajmhmiaa.Da Go.Proofs.Ytbpeppmajmhmiaa.Db Go.Proofs.Ytbpeppmajmhmiaa.Dc Go.Proofs.Ytbpeppmajmhmiaa.Dd Go.Proofs.Ytbpeppmajmhmiaa.De Go.Proofs.Ytbpeppmajmhmiaa.Fq Go.Proofs.Ytbpeppmajmhmiaa.Df Go.Proofs.Ytbpeppmajmhmiaa.Dg Go.Proofs.Ytbpeppmajmhmiaa.Dh Go.Proofs.Ytbpeppmajmhmiaa.Di Go.Proofs.Ytbpeppmajmhmiaa.Dj Go.Proofs.Ytbpeppmajmhmiaa.Dk Go.Proofs.Ytbpeppmajmhmiaa.Dl Go.Proofs.Ytbpeppmajmhmiaa.Dm Go.Proofs.Ytbpeppmajmhmiaa.Dr Go.Proofs.Ytbpeppmajmhmiaa.Dt

/-- The control word: h: the moment; ag: again. -/
def ctR (h : Int) (ag : Bool) : Int := 32864 + h * 4096 + (if ag then 512 else 0)
/-- In round k, behind j units. -/
def cR (n h : Int) (ag : Bool) (k j : Nat) (p : Bool) (L : Int) : Ch :=
  { src := 33554432, dst := 50331648, count := n, ctl := ctR h ag, at_ := 33554432 + 2 * ((k : Int) * n + j), to_ := 50331648 + 2 * (j : Int), left := n - j, pend := p, first := (j == 0), latch := L }
def u3 (c : Ch) : Nat → Ch := upd (fun _ => zeroCh) 3 c
/-- T plans, as they must be. -/
def Pn (n : Int) (ps : List Pl) (T : Int) : Prop := (ps.length : Int) = T ∧ ∀ i : Nat, i < ps.length → (ps.getD i ⟨0, false, 0, 0, 0, 0⟩).frm = 33554432 + 2 * (i : Int) ∧ (ps.getD i ⟨0, false, 0, 0, 0, 0⟩).to_ = 50331648 + 2 * ((i : Int) % n)
theorem pn_nil (n : Int) : Pn n [] 0 := ⟨rfl, fun i h => by simp at h⟩
theorem pn_add {n : Int} {ps : List Pl} {T : Int} {p : Pl} (h : Pn n ps T) (hf : p.frm = 33554432 + 2 * T) (ht : p.to_ = 50331648 + 2 * (T % n)) : Pn n (ps ++ [p]) (T + 1) := by
  refine ⟨by simp [h.1], fun i hi => ?_⟩
  by_cases e : i < ps.length
  · rw [List.getD_eq_getElem?_getD, List.getElem?_append_left e, ← List.getD_eq_getElem?_getD]
    exact h.2 i e
  · have : i = ps.length := by simp at hi; omega
    subst this
    rw [List.getD_eq_getElem?_getD, List.getElem?_append_right (Nat.le_refl _)]
    simp only [Nat.sub_self, List.getElem?_cons_zero, Option.getD_some]
    rw [hf, ht, h.1]
    exact ⟨rfl, rfl⟩
theorem startR {n h : Int} {ag : Bool} (h1 : h = 1 ∨ h = 2) (n1 : 1 ≤ n) (n2 : n ≤ 20) : wrU (wrU (wrU (wrU (fun _ => zeroCh) 3 1 512) 3 3 768) 3 4 n) 3 5 (ctR h ag) = u3 (cR n h ag 0 0 false 0) := by
  unfold wrU u3
  simp only [upd_upd, upd_same]
  congr 1
  have e1 : wrC zeroCh ((3 : Nat) : Int) 1 512 = { zeroCh with src := 33554432 } := by unfold wrC; simp [zeroCh]
  have e2 : wrC ({ zeroCh with src := 33554432 } : Ch) ((3 : Nat) : Int) 3 768 = { zeroCh with src := 33554432, dst := 50331648 } := by unfold wrC; simp [zeroCh]
  have e3 : wrC ({ zeroCh with src := 33554432, dst := 50331648 } : Ch) ((3 : Nat) : Int) 4 n = { zeroCh with src := 33554432, dst := 50331648, count := n } := by
    unfold wrC
    have : n % most 3 = n := by
      obtain ⟨_, _, m | m⟩ := most_bd 3 <;> rw [m] <;> omega
    simp [zeroCh, this]
  rw [e1, e2, e3]
  have n0 : ¬ n = 0 := by omega
  have x : ctlX (ctR h ag) = ctR h ag := by
    rcases h1 with rfl | rfl <;> cases ag <;> decide
  unfold wrC cR
  simp only [x]
  rcases h1 with rfl | rfl <;> cases ag <;> simp [ctR, on, wh, sound, ldC, zeroCh, n0]
theorem ready3 (c : Ch) : ready (u3 c) = if c.pend then 3 else -1 := by
  have z : zeroCh.pend = false := rfl
  unfold ready u3
  simp [upd, z]
theorem mom_zero (m : Int) : moment zeroCh m = zeroCh := by
  unfold moment
  rw [if_neg (fun g => by have := g.2.1; simp [on, zeroCh] at this)]
theorem mom3 (c : Ch) (m : Int) : (all (u3 c) fun _ c => moment c m) = u3 (moment c m) := by
  funext j
  show moment (u3 c j) m = u3 (moment c m) j
  unfold u3 upd
  split
  · rfl
  · exact mom_zero m
theorem mom_off {c : Ch} {m : Int} (h : on c = false) : moment c m = c := by
  unfold moment
  rw [if_neg (fun g => by rw [h] at g; cases g.2.1)]
theorem onR {n h : Int} {ag : Bool} {k j : Nat} {p : Bool} {L : Int} (h1 : h = 1 ∨ h = 2) : on (cR n h ag k j p L) = true := by
  unfold on cR ctR; rcases h1 with rfl | rfl <;> cases ag <;> rfl
theorem whR {n h : Int} {ag : Bool} {k j : Nat} {p : Bool} {L : Int} (h1 : h = 1 ∨ h = 2) : wh (cR n h ag k j p L) = h := by
  unfold wh cR ctR; rcases h1 with rfl | rfl <;> cases ag <;> rfl
theorem mom_other {n h : Int} {ag : Bool} {k j : Nat} {p : Bool} {L : Int} (h1 : h = 1 ∨ h = 2) : moment (cR n h ag k j p L) (3 - h) = cR n h ag k j p L := by
  unfold moment
  rw [if_neg (fun g => by have := g.2.2; rw [whR h1] at this; omega)]
theorem mom_on {n h : Int} {ag : Bool} {k j : Nat} {p : Bool} {L : Int} (h1 : h = 1 ∨ h = 2) : moment (cR n h ag k j p L) h = cR n h ag k j true L := by
  unfold moment
  rw [if_pos ⟨h1, onR h1, whR h1⟩]
  rfl
theorem widthR {n h : Int} {ag : Bool} {k j : Nat} {p : Bool} {L : Int} (h1 : h = 1 ∨ h = 2) : width (cR n h ag k j p L) ((3 : Nat) : Int) = 2 := by
  unfold width
  rw [if_neg]
  rintro (g | g)
  · unfold cR ctR at g; rcases h1 with rfl | rfl <;> cases ag <;> simp at g
  · unfold sound at g; rw [whR h1] at g; rcases h1 with rfl | rfl <;> simp at g
theorem soundR {n h : Int} {ag : Bool} {k j : Nat} {p : Bool} {L : Int} (h1 : h = 1 ∨ h = 2) (i : Int) : sound (cR n h ag k j p L) i = false := by
  unfold sound; rw [whR h1]; rcases h1 with rfl | rfl <;> simp
theorem movedR {n h : Int} {ag : Bool} {k j : Nat} {p : Bool} {L : Int} (h1 : h = 1 ∨ h = 2) (b0 : 0 ≤ (k : Int) * n) (b1 : (k : Int) * n ≤ 1000) (hj : (j : Int) ≤ 100) :
    moved (cR n h ag k j p L).at_ ((cR n h ag k j p L).ctl / 128 % 4) 2 = 33554432 + 2 * ((k : Int) * n + (j + 1 : Nat)) ∧ moved (cR n h ag k j p L).to_ (toHow (cR n h ag k j p L) ((3 : Nat) : Int)) 2 = 50331648 + 2 * ((j + 1 : Nat) : Int) := by
  have e1 : (cR n h ag k j p L).ctl / 128 % 4 = 0 := by unfold cR ctR; rcases h1 with rfl | rfl <;> cases ag <;> rfl
  have e2 : how (cR n h ag k j p L) = 3 := by unfold how cR ctR; rcases h1 with rfl | rfl <;> cases ag <;> rfl
  have e3 : toHow (cR n h ag k j p L) ((3 : Nat) : Int) = 3 := by unfold toHow; rw [soundR h1, e2]; rfl
  rw [e1, e3]
  constructor
  · show (33554432 + 2 * ((k : Int) * n + j) + 2) % 4294967296 = _
    generalize (k : Int) * n = K at *
    omega
  · show (50331648 + 2 * (j : Int) + 2) % 4294967296 = _
    omega
theorem tookR {n h : Int} {ag : Bool} {k j : Nat} {L l : Int} (h1 : h = 1 ∨ h = 2) (b0 : 0 ≤ (k : Int) * n) (b1 : (k : Int) * n ≤ 1000) (hj : (j : Int) < n) (n2 : n ≤ 20) :
    (took (cR n h ag k j true L) ((3 : Nat) : Int) l).2.1 = decide ((j : Int) + 1 = n) ∧
    ((j : Int) + 1 < n → (took (cR n h ag k j true L) ((3 : Nat) : Int) l).1 = cR n h ag k (j + 1) true l) ∧
    ((j : Int) + 1 = n → ag = true → (took (cR n h ag k j true L) ((3 : Nat) : Int) l).1 = cR n h ag (k + 1) 0 false l) ∧
    ((j : Int) + 1 = n → ag = false → on (took (cR n h ag k j true L) ((3 : Nat) : Int) l).1 = false ∧ (took (cR n h ag k j true L) ((3 : Nat) : Int) l).1.pend = false) := by
  obtain ⟨m1, m2⟩ := movedR (ag := ag) (p := true) (L := L) h1 b0 b1 (show (j : Int) ≤ 100 by omega)
  have T := took_eq (l := l) (widthR (p := true) (L := L) h1).symm m1 m2
  rw [T]
  by_cases e : (j : Int) + 1 = n
  · have z : ¬ 0 < (cR n h ag k j true L).left - 1 := by show ¬ 0 < n - (j : Int) - 1; omega
    rw [if_neg z]
    have hag : (cR n h ag k j true L).ctl / 512 % 2 = (if ag then 1 else 0) := by unfold cR ctR; rcases h1 with rfl | rfl <;> cases ag <;> rfl
    have hw : wh (cR n h ag k j true L) ≠ 0 := by rw [whR h1]; omega
    have hh : how (cR n h ag k j true L) = 3 := by unfold how cR ctR; rcases h1 with rfl | rfl <;> cases ag <;> rfl
    cases ag
    · rw [if_neg (fun g => by rw [hag] at g; simp at g)]
      refine ⟨by simp [e], fun g => absurd g (by omega), fun _ g => (by cases g), fun _ _ => ⟨?_, rfl⟩⟩
      unfold on cR ctR
      rcases h1 with rfl | rfl <;> rfl
    · rw [if_pos ⟨by rw [hag]; rfl, hw⟩, if_pos hh]
      refine ⟨by simp [e], fun g => absurd g (by omega), fun _ _ => ?_, fun _ g => (by cases g)⟩
      have e1 : (k : Int) * n + ((j + 1 : Nat) : Int) = ((k + 1 : Nat) : Int) * n + ((0 : Nat) : Int) := by
        have : ((k + 1 : Nat) : Int) * n = (k : Int) * n + n := by rw [Int.natCast_add, Int.add_mul]; simp
        rw [this]; omega
      have n0 : ¬ n = 0 := by omega
      rw [e1]
      have so := soundR (n := n) (ag := true) (k := k + 1) (j := 0) (p := false) (L := l) h1 ((3 : Nat) : Int)
      unfold ldC cR
      unfold cR at so
      have so2 : ∀ (a t lf : Int) (pd fs : Bool) (la : Int), sound ⟨33554432, 50331648, n, ctR h true, a, t, lf, pd, fs, la⟩ ((3 : Nat) : Int) = false := fun _ _ _ _ _ _ => so
      simp only [so2, Bool.false_eq_true, if_false, if_neg n0]
      simp
  · have z : 0 < (cR n h ag k j true L).left - 1 := by show 0 < n - (j : Int) - 1; omega
    rw [if_pos z]
    refine ⟨by rw [decide_eq_false e], fun _ => ?_, fun g => absurd g e, fun g => absurd g e⟩
    unfold cR
    have l1 : n - (j : Int) - 1 = n - ((j + 1 : Nat) : Int) := by omega
    have f1 : (j + 1 == 0) = false := by simp
    simp only [l1, f1]
theorem planR {n h : Int} {ag : Bool} {k j : Nat} {L cl : Int} (h1 : h = 1 ∨ h = 2) (b0 : 0 ≤ (k : Int) * n) : (planOf (cR n h ag k j true L) ((3 : Nat) : Int) 2 cl).frm = 33554432 + 2 * ((k : Int) * n + j) ∧ (planOf (cR n h ag k j true L) ((3 : Nat) : Int) 2 cl).to_ = 50331648 + 2 * (j : Int) := by
  have g : 33554432 ≤ 33554432 + 2 * ((k : Int) * n + j) := by omega
  constructor
  · show (if 33554432 ≤ 33554432 + 2 * ((k : Int) * n + j) then algn (33554432 + 2 * ((k : Int) * n + j)) 2 else 0) = _
    rw [if_pos g]
    unfold algn
    omega
  · show algn (50331648 + 2 * (j : Int)) 2 = _
    unfold algn
    omega
/-- Between the rounds. -/
def Rr (w1 : World) (n h : Int) (ag : Bool) (k : Nat) (wx : World) : Prop :=
  ∃ c ps ws, Cfg w1 wx (u3 c) ps ws ∧ ws.length = ps.length ∧ ((((ag = true ∨ k = 0) ∧ ∃ L, c = cR n h ag k 0 false L) ∧ Pn n ps ((k : Int) * n)) ∨ (ag = false ∧ 0 < k ∧ on c = false ∧ c.pend = false ∧ Pn n ps n))
/-- In the midst of round k. -/
def Ra (w1 : World) (n h : Int) (ag : Bool) (k j : Nat) (wx : World) : Prop :=
  ∃ L ps ws, Cfg w1 wx (u3 (cR n h ag k j true L)) ps ws ∧ ws.length = ps.length ∧ Pn n ps ((k : Int) * n + j) ∧ (ag = true ∨ k = 0)
end Go.Proofs.Ytbpeppmajmhmiaa.Du
