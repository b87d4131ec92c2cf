/- The document's clock, in plain terms. No program here. -/
import Derived.Test.YtkgjikdkidjpjaaSp
namespace Go.Proofs.Ytkgjikdkidjpjaa.Up
set_option linter.unusedVariables false
set_option linter.unusedSimpArgs false
open Go.Proofs.Ytkgjikdkidjpjaa.Sp
abbrev Ev := Int × Int
def z2 : Ev := (0, 0)
def ev (e : Ent) : Ev := (e.1, e.2.1)
def at2 (l : List Ev) (i : Nat) : Ev := l.getD i z2
theorem at2_get {l : List Ev} {i : Nat} (h : i < l.length) : at2 l i = l[i] := by simp [at2, h]
def better (x y : Ev) : Prop := x.1 < y.1 ∨ x.1 = y.1 ∧ x.2 < y.2
instance (a b : Ev) : Decidable (better a b) := by unfold better; infer_instance
/-- The place of the first of the first k events; -1: there is none. -/
def firstGo (l : List Ev) : Nat → Int
  | 0 => -1
  | k + 1 => if firstGo l k < 0 ∨ better (at2 l k) (at2 l (firstGo l k).toNat) then k else firstGo l k
theorem firstGo_bd (l : List Ev) : ∀ k, -1 ≤ firstGo l k ∧ firstGo l k < k
  | 0 => by simp [firstGo]
  | k + 1 => by
    have := firstGo_bd l k
    unfold firstGo
    split <;> omega
theorem firstGo_pos (l : List Ev) : ∀ k, 0 < k → 0 ≤ firstGo l k
  | 0, h => absurd h (by omega)
  | k + 1, _ => by
    unfold firstGo
    split
    · omega
    · omega
theorem firstGo_min (l : List Ev) : ∀ k, 0 < k → (∀ i, i < k → ¬ better (at2 l i) (at2 l (firstGo l k).toNat)) ∧ (∀ i, i < (firstGo l k).toNat → better (at2 l (firstGo l k).toNat) (at2 l i))
  | 0, h => absurd h (by omega)
  | k + 1, _ => by
    by_cases k0 : k = 0
    · subst k0
      have : firstGo l (0 + 1) = 0 := by unfold firstGo; simp [firstGo]
      rw [this]
      refine ⟨fun i hi => ?_, fun i hi => absurd hi (by simp)⟩
      have : i = 0 := by omega
      subst this
      show ¬ better (at2 l 0) (at2 l 0)
      unfold better
      omega
    · obtain ⟨h1, h2⟩ := firstGo_min l k (by omega)
      have hp := firstGo_pos l k (by omega)
      have hb := firstGo_bd l k
      unfold firstGo
      split
      · rename_i h
        have hbt : better (at2 l k) (at2 l (firstGo l k).toNat) := by
          rcases h with h | h
          · omega
          · exact h
        rw [show ((k : Int)).toNat = k by omega]
        refine ⟨fun i hi => ?_, fun i hi => ?_⟩
        · by_cases e : i = k
          · subst e; unfold better; omega
          · have := h1 i (by omega)
            unfold better at *
            omega
        · have := h1 i (by omega)
          unfold better at *
          omega
      · rename_i h
        refine ⟨fun i hi => ?_, h2⟩
        by_cases e : i = k
        · subst e; exact fun g => h (.inr g)
        · exact h1 i (by omega)
theorem at2_map (L : List Ent) (i : Nat) (h : i < L.length) : at2 (L.map ev) i = ev (L[i]) := by
  rw [at2_get (by simpa using h)]; simp
theorem first_min {L : List Ent} (hs : L.Pairwise fun a b => a.2.2 < b.2.2) (h0 : 0 < L.length) : ∃ (j : Nat) (hj : j < L.length), firstGo (L.map ev) (L.map ev).length = j ∧ ∀ e, e ∈ L → ¬ lt e L[j] := by
  have l0 : 0 < (L.map ev).length := by simpa using h0
  have hb := firstGo_bd (L.map ev) (L.map ev).length
  have hp := firstGo_pos (L.map ev) _ l0
  obtain ⟨h1, h2⟩ := firstGo_min (L.map ev) _ l0
  obtain ⟨j, hj⟩ := Int.eq_ofNat_of_zero_le hp
  have ll : (L.map ev).length = L.length := by simp
  have jl : j < L.length := by omega
  rw [hj] at h1 h2
  simp only [Int.toNat_natCast] at h1 h2
  refine ⟨j, jl, hj, fun e he => ?_⟩
  obtain ⟨i, hi, rfl⟩ := List.getElem_of_mem he
  have g1 := h1 i (by omega)
  rw [at2_map L i hi, at2_map L j jl] at g1
  rcases Nat.lt_trichotomy i j with c | c | c
  · have g2 := h2 i c
    rw [at2_map L i hi, at2_map L j jl] at g2
    unfold better ev at *
    unfold lt
    dsimp only at *
    omega
  · subst c; exact lt_irrefl _
  · have := List.pairwise_iff_getElem.1 hs j i jl hi c
    unfold better ev at *
    unfold lt
    dsimp only at *
    omega
theorem nodup_of {L : List Ent} (hs : L.Pairwise fun a b => a.2.2 < b.2.2) : L.Nodup := by
  rw [List.nodup_iff_pairwise_ne]
  exact hs.imp fun {a b} h e => by rw [e] at h; omega
theorem erase_nd : ∀ {L : List Ent}, L.Nodup → ∀ (j : Nat) (hj : j < L.length), L.erase L[j] = L.take j ++ L.drop (j + 1)
  | [], _, j, hj => absurd hj (by simp)
  | a :: r, nd, 0, _ => by simp
  | a :: r, nd, j + 1, hj => by
    have nr := (List.nodup_cons.1 nd)
    have hj' : j < r.length := by simpa using hj
    have ne : ¬ (a == r[j]) = true := by
      intro e
      have : a = r[j] := by simpa using e
      exact nr.1 (by rw [this]; exact List.getElem_mem hj')
    show (a :: r).erase r[j] = _
    rw [List.erase_cons, if_neg ne, erase_nd nr.2 j hj']
    simp
theorem erase_at {L : List Ent} (hs : L.Pairwise fun a b => a.2.2 < b.2.2) (j : Nat) (hj : j < L.length) : (L.erase L[j]).map ev = (L.map ev).take j ++ (L.map ev).drop (j + 1) := by
  rw [erase_nd (nodup_of hs) j hj, List.map_append, List.map_take, List.map_drop]
end Go.Proofs.Ytkgjikdkidjpjaa.Up
