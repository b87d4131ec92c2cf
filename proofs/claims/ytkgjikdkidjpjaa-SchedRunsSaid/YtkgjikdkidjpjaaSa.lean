/- The queue of events, walked. -/
import Derived.Test.YtkgjikdkidjpjaaProg
import Derived.Test.YtkgjikdkidjpjaaWk
import Derived.Test.YtkgjikdkidjpjaaSp
import Derived.WalkLawsBesides
import Derived.WalkSpells
import Derived.Outline
import Derived.Lib.Hide
import Derived.Deep.QuietTactic
import Derived.BigQuiet
import Derived.RegionTactic
import Derived.ChangeAlike
import Derived.LoopTactic
import Derived.StillTailTactics
import Derived.BigRegion
import Derived.Deep.RegionHeld3
import Derived.Maps.AppendAt
namespace Go.Proofs.Ytkgjikdkidjpjaa.Sa
set_option linter.unusedVariables false
set_option linter.unusedSimpArgs false
open Go.RowKit Go.Proofs.Ytkgjikdkidjpjaa.Wk Go.Proofs.Ytkgjikdkidjpjaa.Sp

/-- An entry's cells. -/
def cs (e : Ent) : List Value := [.int .i64 e.1, .int .i64 e.2.1, .int .i64 e.2.2]
def flat : List Ent → List Value
  | [] => []
  | e :: r => .int .i64 e.1 :: .int .i64 e.2.1 :: .int .i64 e.2.2 :: flat r
theorem flat_length : ∀ l, (flat l).length = l.length * 3
  | [] => rfl
  | e :: r => by simp [flat, flat_length r]; omega
theorem flat_append : ∀ l k, flat (l ++ k) = flat l ++ flat k
  | [], _ => rfl
  | e :: r, k => by simp [flat, flat_append r k]
theorem flat_at : ∀ (l : List Ent) (i j : Nat), i < l.length → j < 3 → (flat l)[i * 3 + j]? = (cs (at' l i))[j]?
  | [], i, j, h, _ => absurd h (by simp)
  | e :: r, 0, j, _, hj => by
    have : j = 0 ∨ j = 1 ∨ j = 2 := by omega
    rcases this with rfl | rfl | rfl <;> rfl
  | e :: r, i + 1, j, h, hj => by
    have := flat_at r i j (by simpa using h) hj
    rw [show (i + 1) * 3 + j = i * 3 + j + 3 by omega]
    exact this
theorem flat_take : ∀ (l : List Ent) (n : Nat), flat (l.take n) = (flat l).take (n * 3)
  | [], n => by simp [flat]
  | e :: r, 0 => rfl
  | e :: r, n + 1 => by
    rw [show (n + 1) * 3 = n * 3 + 3 by omega]
    simp [flat, flat_take r n]
/-- v is a slice of the entries l, in a block of its own. -/
def own (w : World) (B : Nat) (v : Value) (l : List Ent) : Prop := w.ownsRow B 58 3 v l.length (flat l)
theorem own_some {w : World} {B : Nat} {v : Value} {l : List Ent} (h : own w B v l) (hl : 0 < l.length) :
    ∃ g cap cur, v = .slice (some ⟨g, 0, none⟩) l.length cap ∧ B ≤ g ∧ w.heap[g]? = some (.cells cur 58 (0, 0)) ∧ l.length ≤ cap ∧ cap ≤ maxLen ∧ cur.size = cap * 3 ∧ cur.toList.take (l.length * 3) = flat l := by
  rcases h.2 with ⟨_, e⟩ | h
  · omega
  · exact h
theorem own_cell {w : World} {g : Nat} {cur : Array Value} {l : List Ent} (hg : w.heap[g]? = some (.cells cur 58 (0, 0))) (ht : cur.toList.take (l.length * 3) = flat l) {i : Nat} (hi : i < l.length) :
    w.cell? ⟨g, i * 3, none⟩ = some (.int .i64 (at' l i).1) ∧ w.cell? ⟨g, i * 3 + 1, none⟩ = some (.int .i64 (at' l i).2.1) ∧ w.cell? ⟨g, i * 3 + 2, none⟩ = some (.int .i64 (at' l i).2.2) := by
  have c : ∀ j, j < 3 → w.cell? ⟨g, i * 3 + j, none⟩ = (cs (at' l i))[j]? := fun j hj => by
    rw [cellsAt hg, ← flat_at l i j hi hj, ← ht, List.getElem?_take, if_pos (by omega)]
    simp
  exact ⟨c 0 (by decide), c 1 (by decide), c 2 (by decide)⟩
set_option maxHeartbeats 4000000 in
theorem less_any {w : World} {B : Nat} {v : Value} {l : List Ent} (h : own w B v l) (hl : l.length ≤ 16) (i k : Nat) (hi : i < l.length) (hk : k < l.length) :
    Calls Try.prog 46 #[v, .int .i64 i, .int .i64 k] w fun e w' => e = .returned (.bool (decide (lt (at' l i) (at' l k)))) ∧ Below w.heap.size w w' := by
  obtain ⟨g, cap, cur, rfl, hB, hg, hn, hm, hs, ht⟩ := own_some h (by omega)
  obtain ⟨a0, a1, a2⟩ := own_cell hg ht hi
  obtain ⟨b0, b1, b2⟩ := own_cell hg ht hk
  have sg := sizeAt hg
  generalize hD : decide (lt (at' l i) (at' l k)) = D
  generalize hx : at' l i = x at *
  generalize hy : at' l k = y at *
  obtain ⟨x1, x2, x3⟩ := x
  obtain ⟨y1, y2, y3⟩ := y
  dsimp only at *
  have DH := Lib.hid hD
  have i0 : (0 : Int) ≤ (i : Int) := by omega
  have k0 : (0 : Int) ≤ (k : Int) := by omega
  have i1 : (i : Int) < (l.length : Int) := by omega
  have k1 : (k : Int) < (l.length : Int) := by omega
  clear hD hx hy h hg hs ht hB hm hn
  generalize l.length = n at *
  go_enter Try.func46, Try.ntmps46
  go_wp2
  go_region_held3 (fun w' => w'.cell? ⟨g, i * 3, none⟩ = some (.int .i64 x1) ∧ w'.cell? ⟨g, i * 3 + 1, none⟩ = some (.int .i64 x2) ∧ w'.cell? ⟨g, i * 3 + 2, none⟩ = some (.int .i64 x3) ∧ w'.cell? ⟨g, k * 3, none⟩ = some (.int .i64 y1) ∧ w'.cell? ⟨g, k * 3 + 1, none⟩ = some (.int .i64 y2) ∧ w'.cell? ⟨g, k * 3 + 2, none⟩ = some (.int .i64 y3)) (go_keep) (fail)
  all_goals
    by_cases e1 : x1 = y1
    · have t1 : (x1 != y1) = false := by simpa using e1
      by_cases e2 : x2 = y2
      · have t2 : (x2 != y2) = false := by simpa using e2
        have E1 := Lib.hid e1
        have E2 := Lib.hid e2
        clear e1 e2
        go_wp2
        go_ret
        refine ⟨ret_b ?_, below_d1 (((Below.refl _ _).alloc (Nat.le_refl _) _).alloc (by simp) _)⟩
        have e1 := E1.out
        have e2 := E2.out
        rw [← DH.out]
        refine decide_eq_decide.2 ?_
        unfold lt
        dsimp only
        omega
      · have t2 : (x2 != y2) = true := by simpa using e2
        have E1 := Lib.hid e1
        clear e1
        go_wp2
        go_ret
        refine ⟨ret_b ?_, below_d1 (((Below.refl _ _).alloc (Nat.le_refl _) _).alloc (by simp) _)⟩
        have e1 := E1.out
        rw [← DH.out]
        refine decide_eq_decide.2 ?_
        unfold lt
        dsimp only
        omega
    · have t1 : (x1 != y1) = true := by simpa using e1
      go_wp2
      go_ret
      refine ⟨ret_b ?_, below_d1 (((Below.refl _ _).alloc (Nat.le_refl _) _).alloc (by simp) _)⟩
      rw [← DH.out]
      refine decide_eq_decide.2 ?_
      unfold lt
      dsimp only
      omega
theorem swp_of {l : List Ent} {i k : Nat} (hi : i < l.length) (hk : k < l.length) (cur : Array Value) (ht : cur.toList.take (l.length * 3) = flat l) (cap : Nat) (hs : cur.size = cap * 3) (hn : l.length ≤ cap) (new : Array Value) (hsz : new.size = cur.size)
    (hv : ∀ m j, m < l.length → j < 3 → new[m * 3 + j]? = (cs (if m = k then at' l i else if m = i then at' l k else at' l m))[j]?) : new.toList.take ((swp l i k).length * 3) = flat (swp l i k) := by
  apply List.ext_getElem?
  intro p
  rw [swp_length]
  by_cases hp : p < l.length * 3
  · rw [List.getElem?_take, if_pos hp]
    have e : p = p / 3 * 3 + p % 3 := by omega
    have := hv (p / 3) (p % 3) (by omega) (by omega)
    rw [← e] at this
    have f := flat_at (swp l i k) (p / 3) (p % 3) (by rw [swp_length]; omega) (by omega)
    rw [← e, at_swp hi hk] at f
    rw [f, ← this]
    simp
  · rw [List.getElem?_eq_none (by simp; omega), List.getElem?_eq_none (by rw [flat_length, swp_length]; omega)]
theorem cell_of {cur : Array Value} {l : List Ent} (ht : cur.toList.take (l.length * 3) = flat l) {m j : Nat} (hm : m < l.length) (hj : j < 3) : cur[m * 3 + j]? = (cs (at' l m))[j]? := by
  rw [← flat_at l m j hm hj, ← ht, List.getElem?_take, if_pos (by omega)]
  simp
set_option maxHeartbeats 8000000 in
theorem swap_any {w : World} {B : Nat} {v : Value} {l : List Ent} (h : own w B v l) (hl : l.length ≤ 16) (i k : Nat) (hi : i < l.length) (hk : k < l.length) :
    Calls Try.prog 47 #[v, .int .i64 i, .int .i64 k] w fun e w' => e = .returned (.tuple #[]) ∧ own w' B v (swp l i k) ∧ w.grownBy w' v.ownBlock := by
  obtain ⟨g, cap, cur, rfl, hB, hg, hn, hm, hs, ht⟩ := own_some h (by omega)
  obtain ⟨a0, a1, a2⟩ := own_cell hg ht hi
  obtain ⟨b0, b1, b2⟩ := own_cell hg ht hk
  have sg := sizeAt hg
  have fz := freeAt hg
  generalize hx : at' l i = x at *
  generalize hy : at' l k = y at *
  obtain ⟨x1, x2, x3⟩ := x
  obtain ⟨y1, y2, y3⟩ := y
  dsimp only at *
  have i0 : (0 : Int) ≤ (i : Int) := by omega
  have k0 : (0 : Int) ≤ (k : Int) := by omega
  have i1 : (i : Int) < (l.length : Int) := by omega
  have k1 : (k : Int) < (l.length : Int) := by omega
  have HX := Lib.hid hx
  have HY := Lib.hid hy
  have HT := Lib.hid ht
  have HG := Lib.hid hg
  have HS := Lib.hid hs
  have HB := Lib.hid hB
  have HN := Lib.hid hn
  have HM := Lib.hid hm
  clear hx hy h hg hs ht hB hm hn
  by_cases e : i = k
  · subst e
    obtain ⟨rfl, rfl, rfl⟩ : x1 = y1 ∧ x2 = y2 ∧ x3 = y3 := by
      have := HX.out.symm.trans HY.out
      simpa using this
    go_enter Try.func47, Try.ntmps47
    go_region
    go_end0
    have O := ((((((Only.refl HG.out).set (j := i * 3) (.int .i64 x1)).set (j := i * 3 + 1) (.int .i64 x2)).set (j := i * 3 + 2) (.int .i64 x3)).set (j := i * 3) (.int .i64 x1)).set (j := i * 3 + 1) (.int .i64 x2)).set (j := i * 3 + 2) (.int .i64 x3)
    have O := O.drew
    refine ⟨rfl, ⟨by rw [flat_length], .inr ⟨g, cap, _, by rw [swp_length], HB.out, O.at_, by rw [swp_length]; exact HN.out, HM.out, by simpa using HS.out, ?_⟩⟩, ⟨O.os, O.tape, O.output, O.size, fun q hq hn => O.block q hq fun e => hn (by rw [e]; rfl)⟩⟩
    refine swp_of hi hi cur HT.out cap HS.out HN.out _ (by simp) fun m j hm hj => ?_
    have c0 := cell_of HT.out (m := m) (j := j) hm hj
    have hc := HS.out
    have hn := HN.out
    simp only [Array.getElem?_setIfInBounds, Array.size_setIfInBounds]
    rw [HX.out]
    have j3 : j = 0 ∨ j = 1 ∨ j = 2 := by omega
    by_cases mk : m = i
    · subst mk
      rw [if_pos rfl]
      rcases j3 with rfl | rfl | rfl
      · simp [cs]; omega
      · simp [cs]; omega
      · simp [cs]; omega
    · rw [if_neg mk, if_neg mk, if_neg (by omega), if_neg (by omega), if_neg (by omega), if_neg (by omega), if_neg (by omega), if_neg (by omega)]
      exact c0
  · have d0 : ¬ (i * 3 = k * 3) := by omega
    have d1 : ¬ (k * 3 = i * 3) := by omega
    go_enter Try.func47, Try.ntmps47
    go_region
    go_end0
    have O := ((((((Only.refl HG.out).set (j := i * 3) (.int .i64 y1)).set (j := i * 3 + 1) (.int .i64 y2)).set (j := i * 3 + 2) (.int .i64 y3)).set (j := k * 3) (.int .i64 x1)).set (j := k * 3 + 1) (.int .i64 x2)).set (j := k * 3 + 2) (.int .i64 x3)
    have O := O.drew
    refine ⟨rfl, ⟨by rw [flat_length], .inr ⟨g, cap, _, by rw [swp_length], HB.out, O.at_, by rw [swp_length]; exact HN.out, HM.out, by simpa using HS.out, ?_⟩⟩, ⟨O.os, O.tape, O.output, O.size, fun q hq hn => O.block q hq fun e => hn (by rw [e]; rfl)⟩⟩
    refine swp_of hi hk cur HT.out cap HS.out HN.out _ (by simp) fun m j hm hj => ?_
    have c0 := cell_of HT.out (m := m) (j := j) hm hj
    have hc := HS.out
    have hn := HN.out
    simp only [Array.getElem?_setIfInBounds, Array.size_setIfInBounds]
    rw [HX.out, HY.out]
    have j3 : j = 0 ∨ j = 1 ∨ j = 2 := by omega
    by_cases mk : m = k
    · subst mk
      rw [if_pos rfl]
      rcases j3 with rfl | rfl | rfl
      · simp [cs]; omega
      · simp [cs]; omega
      · simp [cs]; omega
    · rw [if_neg mk]
      by_cases mi : m = i
      · subst mi
        rw [if_pos rfl, if_neg (by omega), if_neg (by omega), if_neg (by omega)]
        rcases j3 with rfl | rfl | rfl
        · simp [cs]; omega
        · simp [cs]; omega
        · simp [cs]; omega
      · rw [if_neg mi, if_neg (by omega), if_neg (by omega), if_neg (by omega), if_neg (by omega), if_neg (by omega), if_neg (by omega)]
        exact c0
end Go.Proofs.Ytkgjikdkidjpjaa.Sa
