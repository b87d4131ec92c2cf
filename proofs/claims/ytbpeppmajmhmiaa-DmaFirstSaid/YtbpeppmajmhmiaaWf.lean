/- The lowest channel goes first: in plain terms. No program here. -/
import Derived.Test.YtbpeppmajmhmiaaWe
namespace Go.Proofs.Ytbpeppmajmhmiaa.Wf
set_option linter.unusedVariables false
set_option linter.unusedSimpArgs false
open Go.RowKit Go.Proofs.Ytbpeppmajmhmiaa.Bt Go.Proofs.Ytbpeppmajmhmiaa.Wk Go.Proofs.Ytbpeppmajmhmiaa.Sg Go.Proofs.Ytbpeppmajmhmiaa.Dp Go.Proofs.Ytbpeppmajmhmiaa.Da Go.Proofs.Ytbpeppmajmhmiaa.Db Go.Proofs.Ytbpeppmajmhmiaa.Dc Go.Proofs.Ytbpeppmajmhmiaa.Dd Go.Proofs.Ytbpeppmajmhmiaa.De Go.Proofs.Ytbpeppmajmhmiaa.Fq Go.Proofs.Ytbpeppmajmhmiaa.Df Go.Proofs.Ytbpeppmajmhmiaa.Dg Go.Proofs.Ytbpeppmajmhmiaa.Dh Go.Proofs.Ytbpeppmajmhmiaa.Di Go.Proofs.Ytbpeppmajmhmiaa.Dj Go.Proofs.Ytbpeppmajmhmiaa.Dk Go.Proofs.Ytbpeppmajmhmiaa.Dl Go.Proofs.Ytbpeppmajmhmiaa.Dm Go.Proofs.Ytbpeppmajmhmiaa.Dt Go.Proofs.Ytbpeppmajmhmiaa.Wa Go.Proofs.Ytbpeppmajmhmiaa.Wb Go.Proofs.Ytbpeppmajmhmiaa.Wc Go.Proofs.Ytbpeppmajmhmiaa.We

/-- Off, and not begun. -/
def Off (c : Ch) : Prop := on c = false ∧ c.pend = false
theorem off_wr0 (c : Ch) (i : Int) : Off (wrC c i 5 0) := by
  have e : ctlX 0 = 0 := by decide
  have o : on { c with ctl := ctlX 0 } = false := by unfold on; rw [e]; rfl
  have h : wrC c i 5 0 = { c with ctl := ctlX 0, pend := false } := by
    unfold wrC
    rw [if_neg (by decide), if_neg (by decide), if_neg (by decide), if_neg (by decide), if_neg (by decide), if_pos rfl]
    dsimp only
    rw [if_pos o]
  rw [h]
  exact ⟨o, rfl⟩
/-- Begun at once, r units left, no more behind them. -/
structure Run (c : Ch) (r : Int) : Prop where
  ctl : c.ctl = 32768
  pend : c.pend = true
  left : c.left = r
theorem run_wr {c : Ch} (h : Off c) (i m : Int) (hm : 1 ≤ m) (hm2 : m ≤ 100) : Run (wrC (wrC c i 4 m) i 5 32768) m := by
  have e : ctlX 32768 = 32768 := by decide
  have c4 : wrC c i 4 m = { c with count := m } := by
    show ({ c with count := m % most i } : Ch) = _
    have : m % most i = m := by
      obtain ⟨_, _, q | q⟩ := most_bd i <;> rw [q] <;> omega
    rw [this]
  rw [c4]
  have o1 : on { c with count := m, ctl := ctlX 32768 } = true := by unfold on; rw [e]; rfl
  have o2 : on { c with count := m } = false := h.1
  have n0 : ¬ m = 0 := by omega
  have w : wrC { c with count := m } i 5 32768 = { (ldC { c with count := m, ctl := ctlX 32768, at_ := c.src, to_ := c.dst } i) with pend := wh (ldC { c with count := m, ctl := ctlX 32768, at_ := c.src, to_ := c.dst } i) == 0 } := by
    unfold wrC
    rw [if_neg (by decide), if_neg (by decide), if_neg (by decide), if_neg (by decide), if_neg (by decide), if_pos rfl]
    dsimp only
    rw [if_neg (by rw [o1]; decide), if_neg (by rw [o2]; decide)]
  rw [w]
  refine ⟨e, ?_, ?_⟩
  · show (wh (ldC { c with count := m, ctl := ctlX 32768, at_ := c.src, to_ := c.dst } i) == 0) = true
    have : wh (ldC { c with count := m, ctl := ctlX 32768, at_ := c.src, to_ := c.dst } i) = ctlX 32768 / 4096 % 4 := rfl
    rw [this, e]; rfl
  · show (if sound { c with count := m, ctl := ctlX 32768, at_ := c.src, to_ := c.dst } i = true then (4 : Int) else if m = 0 then most i else m) = m
    have so : sound { c with count := m, ctl := ctlX 32768, at_ := c.src, to_ := c.dst } i = false := by
      unfold sound wh
      show (_ && (ctlX 32768 / 4096 % 4 == 3) && _) = false
      rw [e]; simp
    rw [so, if_neg Bool.false_ne_true, if_neg n0]
theorem run_took {c : Ch} {r : Int} (h : Run c r) (i l : Int) : (took c i l).2.1 = decide (¬ 0 < r - 1) ∧ (0 < r - 1 → Run (took c i l).1 (r - 1)) ∧ (¬ 0 < r - 1 → (took c i l).1.pend = false) := by
  rw [took_eq (l := l) rfl rfl rfl, h.left]
  by_cases z : 0 < r - 1
  · rw [if_pos z]
    exact ⟨by simp; omega, fun _ => ⟨h.ctl, h.pend, rfl⟩, fun q => absurd z q⟩
  · rw [if_neg z]
    have q : ¬ (c.ctl / 512 % 2 = 1 ∧ wh c ≠ 0) := fun g => by have := g.1; rw [h.ctl] at this; revert this; decide
    rw [if_neg q]
    exact ⟨by simp; omega, fun g => absurd g z, fun _ => rfl⟩
/-- Channel a alone has begun. -/
def One1 (u : Nat → Ch) (a : Nat) : Prop := (u a).pend = true ∧ ∀ k, k < 4 → k ≠ a → (u k).pend = false
theorem ready_one {u : Nat → Ch} {a : Nat} (ha : a < 4) (h : One1 u a) : ready u = a := by
  obtain ⟨h1, h2⟩ := h
  unfold ready
  rcases (show a = 0 ∨ a = 1 ∨ a = 2 ∨ a = 3 by omega) with rfl | rfl | rfl | rfl
  · rw [if_pos h1]; rfl
  · rw [if_neg (by rw [h2 0 (by decide) (by decide)]; decide), if_pos h1]; rfl
  · rw [if_neg (by rw [h2 0 (by decide) (by decide)]; decide), if_neg (by rw [h2 1 (by decide) (by decide)]; decide), if_pos h1]; rfl
  · rw [if_neg (by rw [h2 0 (by decide) (by decide)]; decide), if_neg (by rw [h2 1 (by decide) (by decide)]; decide), if_neg (by rw [h2 2 (by decide) (by decide)]; decide), if_pos h1]; rfl
theorem ready_low {u : Nat → Ch} {a : Nat} (ha : a < 4) (h1 : (u a).pend = true) (h2 : ∀ k, k < a → (u k).pend = false) : ready u = a := by
  unfold ready
  rcases (show a = 0 ∨ a = 1 ∨ a = 2 ∨ a = 3 by omega) with rfl | rfl | rfl | rfl
  · rw [if_pos h1]; rfl
  · rw [if_neg (by rw [h2 0 (by decide)]; decide), if_pos h1]; rfl
  · rw [if_neg (by rw [h2 0 (by decide)]; decide), if_neg (by rw [h2 1 (by decide)]; decide), if_pos h1]; rfl
  · rw [if_neg (by rw [h2 0 (by decide)]; decide), if_neg (by rw [h2 1 (by decide)]; decide), if_neg (by rw [h2 2 (by decide)]; decide), if_pos h1]; rfl
/-- The first k channels are off. -/
def OffTo (u : Nat → Ch) (k : Nat) : Prop := ∀ j, j < k → Off (u j)
theorem off_step {u : Nat → Ch} {k : Nat} (h : OffTo u k) : OffTo (wrU u k 5 0) (k + 1) := by
  intro j hj
  unfold wrU
  by_cases e : j = k
  · subst e; rw [upd_same]; exact off_wr0 _ _
  · rw [upd_ne _ _ e]; exact h j (by omega)
/-- High runs with r units, all others are off. -/
def HS (u : Nat → Ch) (hi : Nat) (r : Int) : Prop := Run (u hi) r ∧ ∀ j, j < 4 → j ≠ hi → Off (u j)
/-- Low runs with q units, high with r, all others are off. -/
def LHS (u : Nat → Ch) (lo hi : Nat) (q r : Int) : Prop := Run (u lo) q ∧ Run (u hi) r ∧ ∀ j, j < 4 → j ≠ lo → j ≠ hi → Off (u j)
theorem hs_start {u : Nat → Ch} {hi : Nat} (h : OffTo u 4) (hh : hi < 4) : HS (wrU (wrU u hi 4 9) hi 5 32768) hi 9 := by
  unfold wrU
  simp only [upd_upd, upd_same]
  refine ⟨by rw [upd_same]; exact run_wr (h hi hh) _ 9 (by decide) (by decide), fun j hj e => ?_⟩
  rw [upd_ne _ _ e]; exact h j hj
theorem lhs_start {u : Nat → Ch} {lo hi : Nat} {r : Int} (h : HS u hi r) (hl : lo < hi) (hh : hi < 4) : LHS (wrU (wrU u lo 4 2) lo 5 32768) lo hi 2 r := by
  unfold wrU
  simp only [upd_upd, upd_same]
  refine ⟨by rw [upd_same]; exact run_wr (h.2 lo (by omega) (by omega)) _ 2 (by decide) (by decide), ?_, fun j hj e1 e2 => ?_⟩
  · rw [upd_ne _ _ (by omega)]; exact h.1
  · rw [upd_ne _ _ e1]; exact h.2 j hj e2
theorem hs_ready {u : Nat → Ch} {hi : Nat} {r : Int} (h : HS u hi r) (hh : hi < 4) : ready u = hi :=
  ready_low hh h.1.pend fun k hk => (h.2 k (by omega) (by omega)).2
theorem lhs_ready {u : Nat → Ch} {lo hi : Nat} {q r : Int} (h : LHS u lo hi q r) (hl : lo < hi) (hh : hi < 4) : ready u = lo :=
  ready_low (by omega) h.1.pend fun k hk => (h.2.2 k (by omega) (by omega) (by omega)).2
theorem hs_step {u : Nat → Ch} {hi : Nat} {r : Int} (h : HS u hi r) (hr : 1 < r) : stepD u hi = false ∧ HS (stepU u hi) hi (r - 1) := by
  obtain ⟨t1, t2, t3⟩ := run_took h.1 (hi : Int) (kept (u hi) (width (u hi) hi))
  refine ⟨by unfold stepD; rw [t1]; simp; omega, ?_, fun j hj e => ?_⟩
  · unfold stepU; rw [upd_same]; exact t2 (by omega)
  · unfold stepU; rw [upd_ne _ _ e]; exact h.2 j hj e
theorem lhs_step1 {u : Nat → Ch} {lo hi : Nat} {q r : Int} (h : LHS u lo hi q r) (hl : lo < hi) (hq : 1 < q) : stepD u lo = false ∧ LHS (stepU u lo) lo hi (q - 1) r := by
  obtain ⟨t1, t2, t3⟩ := run_took h.1 (lo : Int) (kept (u lo) (width (u lo) lo))
  refine ⟨by unfold stepD; rw [t1]; simp; omega, ?_, ?_, fun j hj e1 e2 => ?_⟩
  · unfold stepU; rw [upd_same]; exact t2 (by omega)
  · unfold stepU; rw [upd_ne _ _ (by omega)]; exact h.2.1
  · unfold stepU; rw [upd_ne _ _ e1]; exact h.2.2 j hj e1 e2
/-- Low is done: high runs on. -/
theorem lhs_step2 {u : Nat → Ch} {lo hi : Nat} {r : Int} (h : LHS u lo hi 1 r) (hl : lo < hi) (hh : hi < 4) : stepD u lo = true ∧ (stepU u lo hi).pend = true ∧ Run (stepU u lo hi) r ∧ ∀ k, k < hi → (stepU u lo k).pend = false := by
  obtain ⟨t1, t2, t3⟩ := run_took h.1 (lo : Int) (kept (u lo) (width (u lo) lo))
  have e : Run (stepU u lo hi) r := by unfold stepU; rw [upd_ne _ _ (by omega)]; exact h.2.1
  refine ⟨by unfold stepD; rw [t1]; rfl, e.pend, e, fun k hk => ?_⟩
  by_cases q : k = lo
  · subst q; unfold stepU; rw [upd_same]; exact t3 (by decide)
  · unfold stepU; rw [upd_ne _ _ q]; exact (h.2.2 k (by omega) q (by omega)).2
end Go.Proofs.Ytbpeppmajmhmiaa.Wf
