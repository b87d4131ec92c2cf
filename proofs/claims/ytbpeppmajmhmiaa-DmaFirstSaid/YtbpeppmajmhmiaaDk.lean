/- The channels' invariant, in plain terms; what a unit brings. No program here. -/
import Derived.Test.YtbpeppmajmhmiaaDj
namespace Go.Proofs.Ytbpeppmajmhmiaa.Dk
set_option linter.unusedVariables false
set_option linter.unusedSimpArgs false
open Go.RowKit Go.Proofs.Ytbpeppmajmhmiaa.Bt Go.Proofs.Ytbpeppmajmhmiaa.Wk Go.Proofs.Ytbpeppmajmhmiaa.Sg Go.Proofs.Ytbpeppmajmhmiaa.Dp Go.Proofs.Ytbpeppmajmhmiaa.Da Go.Proofs.Ytbpeppmajmhmiaa.Db Go.Proofs.Ytbpeppmajmhmiaa.Dc Go.Proofs.Ytbpeppmajmhmiaa.Dd Go.Proofs.Ytbpeppmajmhmiaa.De Go.Proofs.Ytbpeppmajmhmiaa.Fq Go.Proofs.Ytbpeppmajmhmiaa.Df Go.Proofs.Ytbpeppmajmhmiaa.Dg Go.Proofs.Ytbpeppmajmhmiaa.Dh

structure Ok (c : Ch) : Prop where
  wf : Wf c
  lf : on c = true → 1 ≤ c.left
  pn : c.pend = true → on c = true
def Iv (u : Nat → Ch) : Prop := ∀ i, i < 4 → Ok (u i)
theorem ok_zero : Ok zeroCh := ⟨wf_zero, fun h => by simp [on, zeroCh] at h, fun h => by simp [zeroCh] at h⟩
theorem iv_zero : Iv fun _ => zeroCh := fun _ _ => ok_zero
theorem iv_upd {u : Nat → Ch} {i : Nat} {c : Ch} (h : Iv u) (hc : Ok c) : Iv (upd u i c) := by
  intro k hk
  by_cases e : k = i
  · subst e; rw [upd_same]; exact hc
  · rw [upd_ne _ _ e]; exact h k hk
theorem most_bd (i : Int) : 1 ≤ most i ∧ most i ≤ 65536 ∧ (most i = 65536 ∨ most i = 16384) := by
  unfold most; split
  · exact ⟨by omega, by omega, .inl rfl⟩
  · exact ⟨by omega, by omega, .inr rfl⟩
theorem wf_ld {c : Ch} {i : Int} (f : Wf c) : Wf (ldC c i) := by
  have := most_bd i
  obtain ⟨a1, a2, a3, a4, a5, a6, a7, a8, a9, a10, a11, a12, a13, a14, a15, a16⟩ := f
  unfold ldC
  refine ⟨a1, a2, a3, a4, a5, a6, a7, a8, a9, a10, a11, a12, ?_, ?_, a15, a16⟩
  · show -1 ≤ (if sound c i = true then (4 : Int) else if c.count = 0 then most i else c.count)
    split
    · omega
    · split <;> omega
  · show (if sound c i = true then (4 : Int) else if c.count = 0 then most i else c.count) ≤ 65536
    split
    · omega
    · split <;> omega
theorem ld_left {c : Ch} {i : Int} (f : Wf c) : 1 ≤ (ldC c i).left := by
  have := most_bd i
  have h0 := f.n0
  show 1 ≤ (if sound c i = true then (4 : Int) else if c.count = 0 then most i else c.count)
  split
  · omega
  · split
    · omega
    · omega
theorem ok_wr {c : Ch} {i part x : Int} (h : Ok c) (x0 : 0 ≤ x) (x1 : x < 65536) : Ok (wrC c i part x) := by
  have f := h.wf
  have l := h.lf
  have p := h.pn
  unfold wrC
  split
  · have := f.s0; have := f.s1
    exact ⟨{ f with s0 := by show 0 ≤ c.src / 65536 * 65536 + x; omega, s1 := by show c.src / 65536 * 65536 + x < 4294967296; omega }, l, p⟩
  split
  · have := f.s0; have := f.s1
    exact ⟨{ f with s0 := by show 0 ≤ c.src % 65536 + (if i = 0 then x % 2048 else x % 4096) * 65536; split <;> omega, s1 := by show c.src % 65536 + (if i = 0 then x % 2048 else x % 4096) * 65536 < 4294967296; split <;> omega }, l, p⟩
  split
  · have := f.d0; have := f.d1
    exact ⟨{ f with d0 := by show 0 ≤ c.dst / 65536 * 65536 + x; omega, d1 := by show c.dst / 65536 * 65536 + x < 4294967296; omega }, l, p⟩
  split
  · have := f.d0; have := f.d1
    exact ⟨{ f with d0 := by show 0 ≤ c.dst % 65536 + (if i = 3 then x % 4096 else x % 2048) * 65536; split <;> omega, d1 := by show c.dst % 65536 + (if i = 3 then x % 4096 else x % 2048) * 65536 < 4294967296; split <;> omega }, l, p⟩
  split
  · obtain ⟨m1, m2, m3⟩ := most_bd i
    refine ⟨{ f with n0 := ?_, n1 := ?_ }, l, p⟩
    · show 0 ≤ x % most i
      rcases m3 with e | e <;> rw [e] <;> omega
    · show x % most i < 65536
      rcases m3 with e | e <;> rw [e] <;> omega
  split
  · obtain ⟨c0, c1⟩ := ctlX_bd x0 x1
    have fd : Wf { c with ctl := ctlX x } := { f with c0 := c0, c1 := c1 }
    dsimp only
    split
    · rename_i hoff
      refine ⟨{ fd with }, fun h => ?_, fun h => ?_⟩
      · have e : on { c with ctl := ctlX x, pend := false } = on { c with ctl := ctlX x } := rfl
        rw [e, hoff] at h; cases h
      · cases h
    · rename_i hon
      have hon' : on { c with ctl := ctlX x } = true := by simpa using hon
      split
      · rename_i hw
        exact ⟨fd, fun _ => l hw, fun _ => hon'⟩
      · have fe : Wf { c with ctl := ctlX x, at_ := c.src, to_ := c.dst } := { fd with a0 := f.s0, a1 := f.s1, t0 := f.d0, t1 := f.d1 }
        have fl := wf_ld (i := i) fe
        refine ⟨{ fl with }, fun _ => ld_left (i := i) fe, fun _ => hon'⟩
  · exact h
theorem ok_moment {c : Ch} {n : Int} (h : Ok c) : Ok (moment c n) := by
  unfold moment
  split
  · rename_i g; exact ⟨{ h.wf with }, h.lf, fun _ => g.2.1⟩
  · exact h
theorem sound_on {c : Ch} {i : Int} (h : sound c i = true) : on c = true := by
  unfold sound at h
  simp only [Bool.and_eq_true] at h
  exact h.1.1
theorem ok_hungry {c : Ch} {i a : Int} (h : Ok c) : Ok (hungry c i a) := by
  unfold hungry
  split
  · rename_i g; exact ⟨{ h.wf with }, h.lf, fun _ => sound_on g.1⟩
  · exact h
theorem moved_bd {a h n : Int} (a0 : 0 ≤ a) (a1 : a < 4294967296) : 0 ≤ moved a h n ∧ moved a h n < 4294967296 := by
  unfold moved
  split
  · omega
  · split
    · exact ⟨a0, a1⟩
    · omega
theorem width_or (c : Ch) (i : Int) : width c i = 2 ∨ width c i = 4 := by
  unfold width; split
  · exact .inr rfl
  · exact .inl rfl
theorem algn_bd {a n : Int} (hn : n = 2 ∨ n = 4) (a0 : 0 ≤ a) (a1 : a < 4294967296) : 0 ≤ algn a n ∧ algn a n < 4294967296 := by
  unfold algn; rcases hn with rfl | rfl <;> omega
theorem kept_bd {c : Ch} {n : Int} (f : Wf c) (hn : n = 2 ∨ n = 4) : 0 ≤ kept c n ∧ kept c n < 4294967296 := by
  obtain ⟨a2, a3⟩ := algn_bd hn f.a0 f.a1
  have vb := val_bd a2 a3
  have l0 := f.x0
  have l1 := f.x1
  unfold kept rdC
  split
  · split <;> omega
  · omega
theorem ok_took {c : Ch} {i l : Int} (h : Ok c) (hp : c.pend = true) (l0 : 0 ≤ l) (l1 : l < 4294967296) : Ok (took c i l).1 := by
  have f := h.wf
  have ho := h.pn hp
  have hl := h.lf ho
  have ha := moved_bd (h := c.ctl / 128 % 4) (n := width c i) f.a0 f.a1
  have ht := moved_bd (h := toHow c i) (n := width c i) f.t0 f.t1
  rw [took_eq (l := l) rfl rfl rfl]
  generalize moved c.at_ (c.ctl / 128 % 4) (width c i) = na at *
  generalize moved c.to_ (toHow c i) (width c i) = nt at *
  have l2 := f.l1
  split
  · rename_i hz
    exact ⟨{ f with a0 := ha.1, a1 := ha.2, t0 := ht.1, t1 := ht.2, l0 := by show -1 ≤ c.left - 1; omega, l1 := by show c.left - 1 ≤ 65536; omega, x0 := l0, x1 := l1 }, fun _ => by show 1 ≤ c.left - 1; omega, fun _ => ho⟩
  · split
    · have fe : Wf (if how c = 3 then { c with first := false, latch := l, at_ := na, to_ := c.dst, left := c.left - 1, pend := false } else { c with first := false, latch := l, at_ := na, to_ := nt, left := c.left - 1, pend := false }) := by
        split
        · exact { f with a0 := ha.1, a1 := ha.2, t0 := f.d0, t1 := f.d1, l0 := by show -1 ≤ c.left - 1; omega, l1 := by show c.left - 1 ≤ 65536; omega, x0 := l0, x1 := l1 }
        · exact { f with a0 := ha.1, a1 := ha.2, t0 := ht.1, t1 := ht.2, l0 := by show -1 ≤ c.left - 1; omega, l1 := by show c.left - 1 ≤ 65536; omega, x0 := l0, x1 := l1 }
      refine ⟨wf_ld fe, fun _ => ld_left fe, fun q => ?_⟩
      dsimp only [ldC] at q
      split at q <;> cases q
    · have h0 := f.c0
      refine ⟨{ f with a0 := ha.1, a1 := ha.2, t0 := ht.1, t1 := ht.2, l0 := by show -1 ≤ c.left - 1; omega, l1 := by show c.left - 1 ≤ 65536; omega, x0 := l0, x1 := l1, c0 := by show 0 ≤ c.ctl % 32768; omega, c1 := by show c.ctl % 32768 < 65536; omega }, fun q => ?_, fun q => by cases q⟩
      unfold on at q
      have : c.ctl % 32768 / 32768 = 0 := by omega
      simp [this] at q
theorem iv_wr {u : Nat → Ch} {i : Nat} {part x : Int} (h : Iv u) (hi : i < 4) (x0 : 0 ≤ x) (x1 : x < 65536) : Iv (upd u i (wrC (u i) i part x)) := iv_upd h (ok_wr (h i hi) x0 x1)
theorem iv_moment {u : Nat → Ch} {n : Int} (h : Iv u) : Iv (all u fun _ c => moment c n) := fun k hk => ok_moment (h k hk)
theorem iv_hungry {u : Nat → Ch} {a : Int} (h : Iv u) : Iv (all u fun k c => hungry c k a) := fun k hk => ok_hungry (h k hk)
theorem ready_pend {u : Nat → Ch} {i : Nat} (h : ready u = i) : i < 4 ∧ (u i).pend = true := by
  unfold ready at h
  split at h
  · rename_i g; obtain rfl : i = 0 := by omega
    exact ⟨by decide, g⟩
  split at h
  · rename_i g; obtain rfl : i = 1 := by omega
    exact ⟨by decide, g⟩
  split at h
  · rename_i g; obtain rfl : i = 2 := by omega
    exact ⟨by decide, g⟩
  split at h
  · rename_i g; obtain rfl : i = 3 := by omega
    exact ⟨by decide, g⟩
  · omega
/-- A unit brought: the channels behind it. -/
def stepU (u : Nat → Ch) (i : Nat) : Nat → Ch := upd u i (took (u i) i (kept (u i) (width (u i) i))).1
def stepD (u : Nat → Ch) (i : Nat) : Bool := (took (u i) i (kept (u i) (width (u i) i))).2.1
def stepA (u : Nat → Ch) (i : Nat) : Bool := (took (u i) i (kept (u i) (width (u i) i))).2.2
def cls (c : Ch) : Int := if c.first then 0 else 1
def stepP (u : Nat → Ch) (i : Nat) : Pl := planOf (u i) i (width (u i) i) (cls (u i))
def stepK (u : Nat → Ch) (i : Nat) : Int := kept (u i) (width (u i) i)
theorem iv_step {u : Nat → Ch} {i : Nat} (h : Iv u) (hr : ready u = i) : Iv (stepU u i) := by
  obtain ⟨hi, hp⟩ := ready_pend hr
  obtain ⟨k0, k1⟩ := kept_bd (h i hi).wf (width_or (u i) i)
  exact iv_upd h (ok_took (h i hi) hp k0 k1)
end Go.Proofs.Ytbpeppmajmhmiaa.Dk
