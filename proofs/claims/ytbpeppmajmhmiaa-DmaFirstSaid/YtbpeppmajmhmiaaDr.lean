/- A channel that goes up: in plain terms. No program here. -/
import Derived.Test.YtbpeppmajmhmiaaDm
namespace Go.Proofs.Ytbpeppmajmhmiaa.Dr
set_option linter.unusedVariables false
set_option linter.unusedSimpArgs false
open Go.RowKit Go.Proofs.Ytbpeppmajmhmiaa.Bt Go.Proofs.Ytbpeppmajmhmiaa.Wk Go.Proofs.Ytbpeppmajmhmiaa.Sg Go.Proofs.Ytbpeppmajmhmiaa.Dp Go.Proofs.Ytbpeppmajmhmiaa.Da Go.Proofs.Ytbpeppmajmhmiaa.Db Go.Proofs.Ytbpeppmajmhmiaa.Dc Go.Proofs.Ytbpeppmajmhmiaa.Dd Go.Proofs.Ytbpeppmajmhmiaa.De Go.Proofs.Ytbpeppmajmhmiaa.Fq Go.Proofs.Ytbpeppmajmhmiaa.Df Go.Proofs.Ytbpeppmajmhmiaa.Dg Go.Proofs.Ytbpeppmajmhmiaa.Dh Go.Proofs.Ytbpeppmajmhmiaa.Di Go.Proofs.Ytbpeppmajmhmiaa.Dj Go.Proofs.Ytbpeppmajmhmiaa.Dk Go.Proofs.Ytbpeppmajmhmiaa.Dl Go.Proofs.Ytbpeppmajmhmiaa.Dm

def Kd (wd ctl : Int) : Prop := (wd = 2 ∧ ctl = 49152) ∨ (wd = 4 ∧ ctl = 50176)
/-- What is kept of unit k. -/
def lv (wd : Int) (k : Nat) : Int := rdC zeroCh wd (val (33619968 + (k : Int) * wd))
/-- The channel behind k of n units. -/
def cC (n wd ctl : Int) (k : Nat) : Ch :=
  { src := 33619968, dst := 50462720, count := n, ctl := if (k : Int) = n then ctl % 32768 else ctl, at_ := 33619968 + (k : Int) * wd, to_ := 50462720 + (k : Int) * wd, left := n - k, pend := decide ((k : Int) < n), first := (k == 0), latch := if k = 0 then 0 else lv wd (k - 1) }
def uC (c : Nat) (n wd ctl : Int) (k : Nat) : Nat → Ch := upd (fun _ => zeroCh) c (cC n wd ctl k)
def plC (c : Nat) (wd : Int) (k : Nat) : Pl := ⟨c, true, 33619968 + (k : Int) * wd, 50462720 + (k : Int) * wd, wd, if k = 0 then 0 else 1⟩
def plsC (c : Nat) (wd : Int) (k : Nat) : List Pl := (List.range k).map (plC c wd)
def wrsC (wd : Int) (k : Nat) : List Int := (List.range k).map (lv wd)
theorem plsC_succ (c : Nat) (wd : Int) (k : Nat) : plsC c wd k ++ [plC c wd k] = plsC c wd (k + 1) := by unfold plsC; rw [List.range_succ, List.map_append]; rfl
theorem wrsC_succ (wd : Int) (k : Nat) : wrsC wd k ++ [lv wd k] = wrsC wd (k + 1) := by unfold wrsC; rw [List.range_succ, List.map_append]; rfl
theorem plsC_len (c : Nat) (wd : Int) (k : Nat) : (plsC c wd k).length = k := by simp [plsC]
theorem wrsC_len (wd : Int) (k : Nat) : (wrsC wd k).length = k := by simp [wrsC]
theorem plsC_at (c : Nat) (wd : Int) {k i : Nat} (h : i < (plsC c wd k).length) : (plsC c wd k)[i] = plC c wd i := by simp [plsC]
theorem wrsC_at (wd : Int) {k i : Nat} (h : i < (wrsC wd k).length) : (wrsC wd k)[i] = lv wd i := by simp [wrsC]
theorem startC {c : Nat} (hc : c < 4) {n wd ctl : Int} (h : Kd wd ctl) (n1 : 1 ≤ n) (n2 : n ≤ 100) : wrU (wrU (wrU (wrU (fun _ => zeroCh) c 1 513) c 3 770) c 4 n) c 5 ctl = uC c n wd ctl 0 := by
  unfold wrU uC
  simp only [upd_upd, upd_same]
  congr 1
  have e1 : wrC zeroCh (c : Int) 1 513 = { zeroCh with src := 33619968 } := by
    unfold wrC; simp only [zeroCh]; by_cases q : (c : Int) = 0 <;> simp [q]
  have e2 : wrC ({ zeroCh with src := 33619968 } : Ch) (c : Int) 3 770 = { zeroCh with src := 33619968, dst := 50462720 } := by
    unfold wrC; simp only [zeroCh]; by_cases q : (c : Int) = 3 <;> simp [q]
  have e3 : wrC ({ zeroCh with src := 33619968, dst := 50462720 } : Ch) (c : Int) 4 n = { zeroCh with src := 33619968, dst := 50462720, count := n } := by
    unfold wrC; simp only [zeroCh]
    have : n % most (c : Int) = n := by
      obtain ⟨_, _, m | m⟩ := most_bd (c : Int) <;> rw [m] <;> omega
    simp [this]
  rw [e1, e2, e3]
  have n0 : ¬ n = 0 := by omega
  rcases h with ⟨rfl, rfl⟩ | ⟨rfl, rfl⟩
  · have x : ctlX 49152 = 49152 := by decide
    unfold wrC cC
    simp only [x]
    have z : ¬ (0 : Int) = n := by omega
    simp [on, wh, sound, ldC, zeroCh, n0, z]
    omega
  · have x : ctlX 50176 = 50176 := by decide
    unfold wrC cC
    simp only [x]
    have z : ¬ (0 : Int) = n := by omega
    simp [on, wh, sound, ldC, zeroCh, n0, z]
    omega
theorem readyC {c : Nat} (hc : c < 4) {n wd ctl : Int} {k : Nat} (hk : (k : Int) < n) : ready (uC c n wd ctl k) = c := by
  have e : (cC n wd ctl k).pend = true := by simp [cC, hk]
  have z : zeroCh.pend = false := rfl
  unfold ready uC
  rcases (show c = 0 ∨ c = 1 ∨ c = 2 ∨ c = 3 by omega) with rfl | rfl | rfl | rfl <;> simp [upd, e, z]
theorem readyE {c : Nat} {n wd ctl : Int} {k : Nat} (hk : (k : Int) = n) : ready (uC c n wd ctl k) = -1 := by
  have e : (cC n wd ctl k).pend = false := by simp [cC, hk]
  have z : zeroCh.pend = false := rfl
  have p : ∀ i, (uC c n wd ctl k i).pend = false := fun i => by unfold uC upd; split <;> assumption
  unfold ready
  simp [p]
theorem widthC {c : Nat} {n wd ctl : Int} {k : Nat} (h : Kd wd ctl) (hk : (k : Int) < n) : width (cC n wd ctl k) c = wd := by
  have q : ¬ (k : Int) = n := by omega
  unfold width sound wh on cC
  rcases h with ⟨rfl, rfl⟩ | ⟨rfl, rfl⟩ <;> simp [q]
theorem keptC {n wd ctl : Int} {k : Nat} (h : Kd wd ctl) (hk : (k : Int) < n) : kept (cC n wd ctl k) wd = lv wd k := by
  have a : algn (33619968 + (k : Int) * wd) wd = 33619968 + (k : Int) * wd := by unfold algn; rcases h with ⟨rfl, _⟩ | ⟨rfl, _⟩ <;> omega
  have g : 33554432 ≤ 33619968 + (k : Int) * wd := by rcases h with ⟨rfl, _⟩ | ⟨rfl, _⟩ <;> omega
  unfold kept lv rdC
  show (if 33554432 ≤ 33619968 + (k : Int) * wd then _ else _) = _
  rw [if_pos g]
  show (if wd = 2 then val (algn (33619968 + (k : Int) * wd) wd) % 65536 * 65536 + val (algn (33619968 + (k : Int) * wd) wd) % 65536 else val (algn (33619968 + (k : Int) * wd) wd)) = _
  rw [a]
theorem tookC {c : Nat} {n wd ctl : Int} {k : Nat} (h : Kd wd ctl) (hk : (k : Int) < n) (n2 : n ≤ 100) :
    took (cC n wd ctl k) c (lv wd k) = (cC n wd ctl (k + 1), decide ((k : Int) + 1 = n), decide ((k : Int) + 1 = n)) := by
  have q : ¬ (k : Int) = n := by omega
  have hw := (widthC (c := c) h hk).symm
  have m1 : moved (cC n wd ctl k).at_ ((cC n wd ctl k).ctl / 128 % 4) wd = 33619968 + ((k + 1 : Nat) : Int) * wd := by
    unfold moved cC
    rcases h with ⟨rfl, rfl⟩ | ⟨rfl, rfl⟩ <;> simp [q] <;> omega
  have m2 : moved (cC n wd ctl k).to_ (toHow (cC n wd ctl k) c) wd = 50462720 + ((k + 1 : Nat) : Int) * wd := by
    unfold moved toHow sound how wh on cC
    rcases h with ⟨rfl, rfl⟩ | ⟨rfl, rfl⟩ <;> simp [q] <;> omega
  rw [took_eq hw m1 m2]
  by_cases e : (k : Int) + 1 = n
  · have z : ¬ 0 < (cC n wd ctl k).left - 1 := by show ¬ 0 < n - (k : Int) - 1; omega
    rw [if_neg z]
    have z2 : ¬ ((cC n wd ctl k).ctl / 512 % 2 = 1 ∧ wh (cC n wd ctl k) ≠ 0) := by
      unfold wh cC
      rcases h with ⟨rfl, rfl⟩ | ⟨rfl, rfl⟩ <;> simp [q]
    rw [if_neg z2]
    have q2 : ((k + 1 : Nat) : Int) = n := by omega
    have q3 : decide (((k + 1 : Nat) : Int) < n) = false := decide_eq_false (by omega)
    unfold cC
    simp only [Prod.mk.injEq]
    refine ⟨?_, by rw [decide_eq_true e], ?_⟩
    · rw [if_neg q, if_pos q2, q3]
      simp
      omega
    · rw [if_neg q, decide_eq_true e]
      rcases h with ⟨rfl, rfl⟩ | ⟨rfl, rfl⟩ <;> rfl
  · have z : 0 < (cC n wd ctl k).left - 1 := by show 0 < n - (k : Int) - 1; omega
    rw [if_pos z]
    have q2 : ¬ ((k + 1 : Nat) : Int) = n := by omega
    have q3 : decide (((k + 1 : Nat) : Int) < n) = true := decide_eq_true (by omega)
    have q4 : decide ((k : Int) < n) = true := decide_eq_true hk
    unfold cC
    simp only [Prod.mk.injEq]
    refine ⟨?_, by rw [decide_eq_false e], by rw [decide_eq_false e]⟩
    rw [if_neg q, if_neg q2, q3, q4]
    simp
    omega
theorem stepC {c : Nat} (hc : c < 4) {n wd ctl : Int} {k : Nat} (h : Kd wd ctl) (hk : (k : Int) < n) (n2 : n ≤ 100) :
    stepU (uC c n wd ctl k) c = uC c n wd ctl (k + 1) ∧ stepD (uC c n wd ctl k) c = decide ((k : Int) + 1 = n) ∧ (stepD (uC c n wd ctl k) c && stepA (uC c n wd ctl k) c) = decide ((k : Int) + 1 = n) ∧ stepP (uC c n wd ctl k) c = plC c wd k ∧ stepK (uC c n wd ctl k) c = lv wd k := by
  have e : uC c n wd ctl k c = cC n wd ctl k := upd_same _ _ _
  have w := widthC (c := c) h hk
  have kp := keptC h hk
  have t := tookC (c := c) h hk n2
  have g : 33554432 ≤ 33619968 + (k : Int) * wd := by rcases h with ⟨rfl, _⟩ | ⟨rfl, _⟩ <;> omega
  have a : algn (33619968 + (k : Int) * wd) wd = 33619968 + (k : Int) * wd := by unfold algn; rcases h with ⟨rfl, _⟩ | ⟨rfl, _⟩ <;> omega
  have a2 : algn (50462720 + (k : Int) * wd) wd = 50462720 + (k : Int) * wd := by unfold algn; rcases h with ⟨rfl, _⟩ | ⟨rfl, _⟩ <;> omega
  unfold stepU stepD stepA stepP stepK
  rw [e, w, kp, t]
  refine ⟨upd_upd _ _ _ _, rfl, by simp, ?_, rfl⟩
  unfold planOf plC cls
  show (⟨_, decide (33554432 ≤ 33619968 + (k : Int) * wd), (if 33554432 ≤ 33619968 + (k : Int) * wd then algn (33619968 + (k : Int) * wd) wd else 0), algn (50462720 + (k : Int) * wd) wd, wd, if (k == 0) = true then 0 else 1⟩ : Pl) = _
  rw [if_pos g, decide_eq_true g, a, a2]
  simp
theorem ctlE {c : Nat} {n wd ctl : Int} {k : Nat} (hk : (k : Int) = n) : (uC c n wd ctl k c).ctl = ctl % 32768 := by
  rw [show uC c n wd ctl k c = cC n wd ctl k from upd_same _ _ _]
  show (if (k : Int) = n then ctl % 32768 else ctl) = _
  rw [if_pos hk]
end Go.Proofs.Ytbpeppmajmhmiaa.Dr
