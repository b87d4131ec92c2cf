/- Heaps of events, in plain terms. No program here. -/
import Derived.RowKit
namespace Go.Proofs.Ytkgjikdkidjpjaa.Sp
set_option linter.unusedVariables false
set_option linter.unusedSimpArgs false
/-- An event: when, of which kind, the how manieth. -/
abbrev Ent := Int × Int × Int
def z : Ent := (0, 0, 0)
def lt (a b : Ent) : Prop := a.1 < b.1 ∨ a.1 = b.1 ∧ (a.2.1 < b.2.1 ∨ a.2.1 = b.2.1 ∧ a.2.2 < b.2.2)
instance (a b : Ent) : Decidable (lt a b) := by unfold lt; infer_instance
theorem lt_asymm {a b : Ent} (h : lt a b) : ¬ lt b a := by unfold lt at *; omega
theorem lt_trans {a b c : Ent} (h : lt a b) (g : lt b c) : lt a c := by unfold lt at *; omega
theorem nlt_trans {a b c : Ent} (h : ¬ lt a b) (g : ¬ lt b c) : ¬ lt a c := by unfold lt at *; omega
theorem lt_irrefl (a : Ent) : ¬ lt a a := by unfold lt; omega
def at' (l : List Ent) (i : Nat) : Ent := l.getD i z
def par (k : Nat) : Nat := (k - 1) / 2
def swp (l : List Ent) (i k : Nat) : List Ent := (l.set i (at' l k)).set k (at' l i)
theorem swp_length (l : List Ent) (i k : Nat) : (swp l i k).length = l.length := by simp [swp]
theorem at_swp {l : List Ent} {i k : Nat} (hi : i < l.length) (hk : k < l.length) (m : Nat) : at' (swp l i k) m = if m = k then at' l i else if m = i then at' l k else at' l m := by
  unfold swp at'
  rw [List.getD_eq_getElem?_getD, List.getElem?_set, List.getElem?_set]
  by_cases h : m = k
  · subst h; simp [hk]
  · rw [if_neg (fun e => h e.symm), if_neg h]
    by_cases g : m = i
    · subst g; simp [hi]
    · rw [if_neg (fun e => g e.symm), if_neg g, ← List.getD_eq_getElem?_getD]
theorem at_get {l : List Ent} {i : Nat} (h : i < l.length) : at' l i = l[i] := by simp [at', h]
theorem swp_perm {l : List Ent} {i k : Nat} (hi : i < l.length) (hk : k < l.length) : (swp l i k).Perm l := by
  rw [List.perm_iff_count]
  intro a
  unfold swp
  rw [List.count_set (by simpa using hk), List.count_set hi, at_get hi, at_get hk]
  have p1 : 0 < l.count l[i] := List.count_pos_iff.2 (List.getElem_mem hi)
  have p2 : 0 < l.count l[k] := List.count_pos_iff.2 (List.getElem_mem hk)
  rw [List.getElem_set]
  by_cases e1 : l[i] = a <;> by_cases e2 : l[k] = a <;> by_cases e3 : i = k <;> simp_all <;> omega
/-! ### heaps -/
def ok (l : List Ent) (k : Nat) : Prop := ¬ lt (at' l k) (at' l (par k))
def Heap (l : List Ent) (m : Nat) : Prop := ∀ k, 1 ≤ k → k < m → ok l k
/-- All is in order but at j, which may be too light. -/
def Up (l : List Ent) (m j : Nat) : Prop := (∀ k, 1 ≤ k → k < m → k ≠ j → ok l k) ∧ (∀ k, 1 ≤ k → k < m → par k = j → 1 ≤ j → ¬ lt (at' l k) (at' l (par j)))
theorem up_done {l : List Ent} {m j : Nat} (h : Up l m j) (hj : j = 0 ∨ ok l j) : Heap l m := fun k h1 h2 => by
  by_cases e : k = j
  · subst e
    rcases hj with h0 | h0
    · omega
    · exact h0
  · exact h.1 k h1 h2 e
theorem up_step {l : List Ent} {m j : Nat} (hm : m ≤ l.length) (h : Up l m j) (hj : j < m) (h1 : 1 ≤ j) (hlt : lt (at' l j) (at' l (par j))) : Up (swp l (par j) j) m (par j) := by
  have pj : par j < j := by unfold par; omega
  have S := @at_swp l (par j) j (by omega) (by omega)
  constructor
  · intro k k1 k2 kn
    unfold ok
    rw [S, S]
    by_cases e : k = j
    · subst e
      rw [if_pos rfl, if_neg (by omega), if_pos rfl]
      exact lt_asymm hlt
    · rw [if_neg e, if_neg kn]
      by_cases f : par k = j
      · rw [if_pos f]; exact h.2 k k1 k2 f h1
      · rw [if_neg f]
        by_cases g : par k = par j
        · rw [if_pos g]
          have := h.1 k k1 k2 e
          unfold ok at this
          rw [g] at this
          exact fun x => this (lt_trans x hlt)
        · rw [if_neg g]; exact h.1 k k1 k2 e
  · intro k k1 k2 kp hp
    have q : par (par j) < par j := by unfold par at *; omega
    rw [S, S]
    rw [if_neg (show par (par j) ≠ j by omega), if_neg (show par (par j) ≠ par j by omega)]
    have o := h.1 (par j) hp (by omega) (by omega)
    unfold ok at o
    by_cases e : k = j
    · subst e; rw [if_pos rfl]; exact o
    · have kn : k ≠ par j := by intro e'; rw [e'] at kp; omega
      rw [if_neg e, if_neg kn]
      have := h.1 k k1 k2 e
      unfold ok at this
      rw [kp] at this
      exact nlt_trans this o
/-- All is in order but below i, which may be too heavy; i0: where it began, which may be too light. -/
def Dn (l : List Ent) (m i i0 : Nat) : Prop := (∀ k, 1 ≤ k → k < m → par k ≠ i → (k = i0 → i ≠ i0) → ok l k) ∧ (∀ k, 1 ≤ k → k < m → par k = i → 1 ≤ i → ¬ lt (at' l k) (at' l (par i)))
theorem dn_step {l : List Ent} {m i i0 j : Nat} (hm : m ≤ l.length) (h : Dn l m i i0) (hi0 : i0 ≤ i) (hj : j < m) (h1 : 1 ≤ j) (hp : par j = i) (hlt : lt (at' l j) (at' l i))
    (hs : ∀ k, 1 ≤ k → k < m → par k = i → ¬ lt (at' l k) (at' l j)) : Dn (swp l i j) m j i0 := by
  have ij : i < j := by unfold par at hp; omega
  have S := @at_swp l i j (by omega) (by omega)
  constructor
  · intro k k1 k2 kp kn
    unfold ok
    rw [S, S, if_neg kp]
    by_cases e : k = j
    · subst e
      rw [if_pos rfl, if_pos hp]
      exact lt_asymm hlt
    · rw [if_neg e]
      by_cases f : k = i
      · subst f
        have q : par k < k := by unfold par; omega
        rw [if_pos rfl, if_neg (by omega)]
        exact h.2 j h1 hj hp k1
      · rw [if_neg f]
        by_cases g : par k = i
        · rw [if_pos g]; exact hs k k1 k2 g
        · rw [if_neg g]
          refine h.1 k k1 k2 g fun e0 => ?_
          intro hi
          exact f (by omega)
  · intro k k1 k2 kp hj1
    have jk : j < k := by unfold par at kp; omega
    rw [S, S, hp, if_neg (by omega), if_neg (by omega), if_neg (by omega), if_pos rfl]
    have := h.1 k k1 k2 (by omega) (fun e => by omega)
    unfold ok at this
    rwa [kp] at this
theorem dn_done {l : List Ent} {m i i0 : Nat} (h : Dn l m i i0) (hi : i0 < i) (hd : ∀ k, 1 ≤ k → k < m → par k = i → ok l k) : Heap l m := fun k k1 k2 => by
  by_cases e : par k = i
  · exact hd k k1 k2 e
  · exact h.1 k k1 k2 e fun _ => by omega
theorem dn_up {l : List Ent} {m i : Nat} (h : Dn l m i i) (hd : ∀ k, 1 ≤ k → k < m → par k = i → ok l k) : Up l m i := by
  constructor
  · intro k k1 k2 kn
    by_cases e : par k = i
    · exact hd k k1 k2 e
    · exact h.1 k k1 k2 e fun f => absurd f kn
  · exact h.2
theorem dn_heap0 {l : List Ent} {m : Nat} (h : Dn l m 0 0) (hd : ∀ k, 1 ≤ k → k < m → par k = 0 → ok l k) : Heap l m := up_done (dn_up h hd) (.inl rfl)
/-- The first of a heap is the least. -/
theorem heap_min {l : List Ent} {m : Nat} (h : Heap l m) : ∀ (k : Nat), k < m → ¬ lt (at' l k) (at' l 0) := by
  intro k
  induction k using Nat.strongRecOn with
  | _ k ih =>
    intro hk
    by_cases k0 : k = 0
    · subst k0; exact lt_irrefl _
    · have p : par k < k := by unfold par; omega
      exact nlt_trans (h k (by omega) hk) (ih _ p (by omega))
/-- Behind an exchange of place i and the last one. -/
theorem swp_dn {l : List Ent} {m i : Nat} (hl : m + 1 = l.length) (h : Heap l (m + 1)) (hi : i ≤ m) : Dn (swp l i m) m i i := by
  have S := @at_swp l i m (by omega) (by omega)
  constructor
  · intro k k1 k2 kp kn
    unfold ok
    have q : par k < k := by unfold par; omega
    rw [S, S, if_neg (by omega), if_neg (by intro e; exact kn e rfl), if_neg (by omega), if_neg kp]
    exact h k k1 (by omega)
  · intro k k1 k2 kp hi1
    have q : i < k := by unfold par at kp; omega
    have q' : par i < i := by unfold par; omega
    rw [S, S, if_neg (by omega), if_neg (by omega), if_neg (by omega), if_neg (by omega)]
    have a := h k k1 (by omega)
    have b := h i hi1 (by omega)
    unfold ok at a b
    rw [kp] at a
    exact nlt_trans a b
theorem push_up {l : List Ent} (h : Heap l l.length) (x : Ent) : Up (l ++ [x]) (l.length + 1) l.length := by
  have S : ∀ k, k < l.length → at' (l ++ [x]) k = at' l k := fun k hk => by
    unfold at'; rw [List.getD_eq_getElem?_getD, List.getElem?_append_left hk, ← List.getD_eq_getElem?_getD]
  constructor
  · intro k k1 k2 kn
    have q : par k < k := by unfold par; omega
    unfold ok
    rw [S k (by omega), S (par k) (by omega)]
    exact h k k1 (by omega)
  · intro k k1 k2 kp
    have q : par k < k := by unfold par; omega
    omega
theorem heap_take {l : List Ent} {m : Nat} (h : Heap l m) (n : Nat) (hm : m ≤ n) : Heap (l.take n) m := fun k k1 k2 => by
  have q : par k < k := by unfold par; omega
  have S : ∀ j, j < n → at' (l.take n) j = at' l j := fun j hj => by
    unfold at'; rw [List.getD_eq_getElem?_getD, List.getElem?_take, if_pos hj, ← List.getD_eq_getElem?_getD]
  unfold ok
  rw [S k (by omega), S (par k) (by omega)]
  exact h k k1 k2
end Go.Proofs.Ytkgjikdkidjpjaa.Sp
