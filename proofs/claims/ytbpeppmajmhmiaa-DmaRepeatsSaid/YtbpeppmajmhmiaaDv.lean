/- A channel that begins again: its calls between the rounds and within. -/
import Derived.Test.YtbpeppmajmhmiaaDu
namespace Go.Proofs.Ytbpeppmajmhmiaa.Dv
set_option linter.unusedVariables false
set_option linter.unusedSimpArgs false
open Go.RowKit Go.Proofs.Ytbpeppmajmhmiaa.Bt Go.Proofs.Ytbpeppmajmhmiaa.Wk Go.Proofs.Ytbpeppmajmhmiaa.Sg Go.Proofs.Ytbpeppmajmhmiaa.Dp Go.Proofs.Ytbpeppmajmhmiaa.Da Go.Proofs.Ytbpeppmajmhmiaa.Db Go.Proofs.Ytbpeppmajmhmiaa.Dc Go.Proofs.Ytbpeppmajmhmiaa.Dd Go.Proofs.Ytbpeppmajmhmiaa.De Go.Proofs.Ytbpeppmajmhmiaa.Fq Go.Proofs.Ytbpeppmajmhmiaa.Df Go.Proofs.Ytbpeppmajmhmiaa.Dg Go.Proofs.Ytbpeppmajmhmiaa.Dh Go.Proofs.Ytbpeppmajmhmiaa.Di Go.Proofs.Ytbpeppmajmhmiaa.Dj Go.Proofs.Ytbpeppmajmhmiaa.Dk Go.Proofs.Ytbpeppmajmhmiaa.Dl Go.Proofs.Ytbpeppmajmhmiaa.Dm Go.Proofs.Ytbpeppmajmhmiaa.Dr Go.Proofs.Ytbpeppmajmhmiaa.Dt Go.Proofs.Ytbpeppmajmhmiaa.Du

section
variable {w1 wx : World} {n h : Int} {ag : Bool} {k j : Nat}
theorem rr_ready (H : Rr w1 n h ag k wx) : Calls Try.prog 13 #[.pointer (some ⟨w1.heap.size, 0, none⟩)] wx fun e w' => e = .returned (.int .i64 (-1)) ∧ wx = w' := by
  obtain ⟨c, ps, ws, C, hl, D⟩ := H
  have t := cfg_ready C
  have hp : c.pend = false := by
    rcases D with ⟨⟨_, L, rfl⟩, _⟩ | ⟨_, _, _, p, _⟩
    · rfl
    · exact p
  rw [ready3, hp] at t
  exact t
theorem ra_ready (H : Ra w1 n h ag k j wx) : Calls Try.prog 13 #[.pointer (some ⟨w1.heap.size, 0, none⟩)] wx fun e w' => e = .returned (.int .i64 3) ∧ wx = w' := by
  obtain ⟨L, ps, ws, C, hl, P, a⟩ := H
  have t := cfg_ready C
  rw [ready3] at t
  exact t
theorem rr_other (H : Rr w1 n h ag k wx) (h1 : h = 1 ∨ h = 2) : Calls Try.prog 15 #[.pointer (some ⟨w1.heap.size, 0, none⟩), .int .i64 (3 - h)] wx fun e w' => e = .returned (.tuple #[]) ∧ Rr w1 n h ag k w' := by
  obtain ⟨c, ps, ws, C, hl, D⟩ := H
  have t := cfg_moment C (3 - h)
  have hm : moment c (3 - h) = c := by
    rcases D with ⟨⟨_, L, rfl⟩, _⟩ | ⟨_, _, o, _, _⟩
    · exact mom_other h1
    · exact mom_off o
  rw [mom3, hm] at t
  refine t.mono ?_
  rintro e w' ⟨rfl, C'⟩
  exact ⟨rfl, c, ps, ws, C', hl, D⟩
theorem rr_go (H : Rr w1 n h ag k wx) (h1 : h = 1 ∨ h = 2) (a : ag = true ∨ k = 0) : Calls Try.prog 15 #[.pointer (some ⟨w1.heap.size, 0, none⟩), .int .i64 h] wx fun e w' => e = .returned (.tuple #[]) ∧ Ra w1 n h ag k 0 w' := by
  obtain ⟨c, ps, ws, C, hl, D⟩ := H
  rcases D with ⟨⟨_, L, rfl⟩, P⟩ | ⟨o1, o2, _⟩
  · have t := cfg_moment C h
    rw [mom3, mom_on h1] at t
    refine t.mono ?_
    rintro e w' ⟨rfl, C'⟩
    exact ⟨rfl, L, ps, ws, C', hl, by simpa using P, a⟩
  · exfalso
    rcases a with a | a
    · rw [o1] at a; cases a
    · omega
theorem rr_stay (H : Rr w1 n h ag k wx) (a : ¬ (ag = true ∨ k = 0)) : Calls Try.prog 15 #[.pointer (some ⟨w1.heap.size, 0, none⟩), .int .i64 h] wx fun e w' => e = .returned (.tuple #[]) ∧ Rr w1 n h ag (k + 1) w' := by
  obtain ⟨c, ps, ws, C, hl, D⟩ := H
  rcases D with ⟨⟨b, _⟩, _⟩ | ⟨o1, o2, o3, o4, P⟩
  · exact absurd b a
  · have t := cfg_moment C h
    rw [mom3, mom_off o3] at t
    refine t.mono ?_
    rintro e w' ⟨rfl, C'⟩
    exact ⟨rfl, c, ps, ws, C', hl, .inr ⟨o1, by omega, o3, o4, P⟩⟩
theorem mod_at {n : Int} {k j : Nat} (hj : (j : Int) < n) : ((k : Int) * n + j) % n = j := by
  rw [Int.add_comm, Int.add_mul_emod_self_right]
  exact Int.emod_eq_of_lt (by omega) hj
theorem ra_step (H : Ra w1 n h ag k j wx) (h1 : h = 1 ∨ h = 2) (hj : (j : Int) < n) (n2 : n ≤ 20) (hk : k ≤ 10) :
    Calls Try.prog 11 #[.pointer (some ⟨w1.heap.size, 0, none⟩), .iface 25 (.pointer (some ⟨w1.heap.size + 1, 0, none⟩))] wx fun e w' => ∃ b : Bool, e = .returned (.tuple #[.int .i64 3, .bool (decide ((j : Int) + 1 = n)), .bool b]) ∧
      (((j : Int) + 1 < n ∧ Ra w1 n h ag k (j + 1) w') ∨ ((j : Int) + 1 = n ∧ Rr w1 n h ag (k + 1) w')) := by
  obtain ⟨L, ps, ws, C, hl, P, a⟩ := H
  have n0 : 0 < n := by omega
  have b0 : 0 ≤ (k : Int) * n := Int.mul_nonneg (by omega) (by omega)
  have b1 : (k : Int) * n ≤ 200 := by
    have e1 : (k : Int) * n ≤ 10 * n := Int.mul_le_mul_of_nonneg_right (by omega) (by omega)
    omega
  have hlen : ps.length ≤ 90000 := by have := P.1; omega
  have rd : ready (u3 (cR n h ag k j true L)) = ((3 : Nat) : Int) := by rw [ready3]; rfl
  have e3 : u3 (cR n h ag k j true L) 3 = cR n h ag k j true L := upd_same _ _ _
  have t := cfg_step C rd hl hlen
  have wd := widthR (n := n) (ag := ag) (k := k) (j := j) (p := true) (L := L) h1
  have sU : stepU (u3 (cR n h ag k j true L)) 3 = u3 (took (cR n h ag k j true L) ((3 : Nat) : Int) (kept (cR n h ag k j true L) 2)).1 := by
    unfold stepU; rw [e3, wd]; unfold u3; rw [upd_upd]
  have sD : stepD (u3 (cR n h ag k j true L)) 3 = (took (cR n h ag k j true L) ((3 : Nat) : Int) (kept (cR n h ag k j true L) 2)).2.1 := by
    unfold stepD; rw [e3, wd]
  have sP : stepP (u3 (cR n h ag k j true L)) 3 = planOf (cR n h ag k j true L) ((3 : Nat) : Int) 2 (cls (cR n h ag k j true L)) := by
    unfold stepP; rw [e3, wd]
  obtain ⟨q1, q2, q3, q4⟩ := tookR (ag := ag) (L := L) (l := kept (cR n h ag k j true L) 2) h1 b0 (by omega) hj n2
  obtain ⟨p1, p2⟩ := planR (n := n) (ag := ag) (L := L) (cl := cls (cR n h ag k j true L)) (j := j) h1 b0
  rw [sU, sD, sP, q1] at t
  refine t.mono ?_
  rintro e w' ⟨rfl, C'⟩
  refine ⟨_, rfl, ?_⟩
  have P' := pn_add P p1 (by rw [p2, mod_at hj])
  by_cases e : (j : Int) + 1 = n
  · refine .inr ⟨e, ?_⟩
    have e2 : (k : Int) * n + j + 1 = ((k + 1 : Nat) : Int) * n := by
      have : ((k + 1 : Nat) : Int) * n = (k : Int) * n + n := by rw [Int.natCast_add, Int.add_mul]; simp
      rw [this]; omega
    cases ag
    · obtain ⟨o1, o2⟩ := q4 e rfl
      have k0 : k = 0 := by rcases a with a | a; · cases a
                            · exact a
      subst k0
      refine ⟨_, _, _, C', by simp [hl], .inr ⟨rfl, by omega, o1, o2, ?_⟩⟩
      have : ((0 : Nat) : Int) * n + j + 1 = n := by simp; omega
      rw [this] at P'
      exact P'
    · rw [q3 e rfl] at C'
      rw [e2] at P'
      exact ⟨_, _, _, C', by simp [hl], .inl ⟨⟨.inl rfl, _, rfl⟩, P'⟩⟩
  · refine .inl ⟨by omega, ?_⟩
    rw [q2 (by omega)] at C'
    refine ⟨_, _, _, C', by simp [hl], ?_, a⟩
    have e2 : (k : Int) * n + j + 1 = (k : Int) * n + ((j + 1 : Nat) : Int) := by omega
    rw [e2] at P'
    exact P'
def want (n : Int) (ag : Bool) (t : Int) : Int := if ag then n * t else n
theorem rr_end (H : Rr w1 n h ag k wx) (hk : 0 < k) : ∃ c ps ws, Cfg w1 wx (u3 c) ps ws ∧ Pn n ps (want n ag k) := by
  obtain ⟨c, ps, ws, C, hl, D⟩ := H
  refine ⟨c, ps, ws, C, ?_⟩
  unfold want
  rcases D with ⟨⟨a, _⟩, P⟩ | ⟨o1, _, _, _, P⟩
  · have : ag = true := by rcases a with a | a; · exact a
                           · omega
    rw [if_pos this, Int.mul_comm]
    exact P
  · rw [if_neg (by rw [o1]; decide)]
    exact P
end
end Go.Proofs.Ytbpeppmajmhmiaa.Dv
