/- A law for a statement whose order is open: one copy that nobody ahead waits for, quiet operations and quiet calls, then a chain of others. No program here. -/
import Derived.StillTail
import Derived.StillTactics
import Derived.WalkKit
namespace Go.Proofs.Ytbpeppmajmhmiaa.Ft
set_option linter.unusedVariables false
set_option linter.unusedSimpArgs false
open Go.RowKit

variable {P : Program} {ops : Array Oper} {md : Region.Mode} {w : World}

def sinkF (md : Region.Mode) (ops : Array Oper) (p n : Nat) : Bool :=
  (List.range n).all fun i => (i == p) || (List.range (n + 1)).any fun j => decide (i < j) && Region.waitsFor md ops j i
theorem not_p {p i : Nat} {listed : Array Bool} (hp : listed.getD p false = true) (hun : listed.getD i true = false) : i ≠ p := by
  rintro rfl
  rw [getD_both hun] at hp
  cases hp
theorem tail_waitsF {p n : Nat} {listed : Array Bool} (hs : sinkF md ops p n = true) (hc : Region.chainB md ops n = true) (hn : n < ops.size) (inv : HeadInv md ops n listed) (hp : listed.getD p false = true) :
    ∀ (d i : Nat), n - i = d → i < n → listed.getD i true = false → ∀ t, n ≤ t → t ∉ Region.ready md ops listed := by
  intro d
  induction d using Nat.strongRecOn with
  | _ d ih =>
    intro i hd hi hun t ht hr
    obtain ⟨_, ot, hot, hall⟩ := mem_ready.1 hr
    have htlt : t < ops.size := (Array.getElem?_eq_some_iff.1 hot).1
    have hip := not_p hp hun
    by_cases htn : t = n
    · subst htn
      have h1 := List.all_eq_true.1 hs i (List.mem_range.2 hi)
      simp only [Bool.or_eq_true, beq_iff_eq] at h1
      obtain ⟨j, hj, hj2⟩ := List.any_eq_true.1 (h1.resolve_left hip)
      simp only [Bool.and_eq_true, decide_eq_true_eq] at hj2
      obtain ⟨oj, hoj, e, he, hb, hon⟩ := Region.waitsFor_spec hj2.2
      have hjle : j ≤ t := by have := List.mem_range.1 hj; omega
      by_cases hjt : j = t
      · subst hjt
        have : oj = ot := Option.some.inj (hoj.symm.trans hot)
        subst this
        have h2 := hall e he hb
        rw [hon, getD_both hun] at h2
        cases h2
      · cases hl : listed.getD j false with
        | true =>
          have h2 := inv.closed j oj hoj hl e he hb
          rw [hon, getD_both hun] at h2
          cases h2
        | false =>
          have hjs : j < listed.size := by rw [inv.size]; omega
          exact ih (t - j) (by omega) j rfl (by omega) (getD_in hjs hl) t (Nat.le_refl _) hr
    · have h1 := List.all_eq_true.1 hc t (List.mem_range.2 htlt)
      simp only [Bool.or_eq_true, decide_eq_true_eq] at h1
      rcases h1 with h1 | h1
      · omega
      · obtain ⟨o', ho', e, he, hb, hon⟩ := Region.waitsFor_spec h1
        have : o' = ot := Option.some.inj (ho'.symm.trans hot)
        subst this
        have h2 := hall e he hb
        rw [hon, getD_both (inv.tail (t - 1) (by omega) (by omega))] at h2
        cases h2
theorem firstF {p n i : Nat} {oi : Oper} {v : Value} {L : Array Bool → Act → Prop} (hi : ops[i]? = some oi) (hsel : ∀ (j : Nat) (o : Oper) cs b, ops[j]? = some o → o.op ≠ .select cs b)
    (hs : sinkF md ops p n = true) (hc : Region.chainB md ops n = true) (hn : n < ops.size) (hin : i < n)
    (hdone : ∀ listed a, L listed a → ∀ j ∈ Region.ready md ops listed, n ≤ j) :
    ∀ (f : Nat) (listed : Array Bool) (a : Act), HeadInv md ops n listed → listed.getD p false = true →
      (∀ j oj, ops[j]? = some oj → j ≠ i → listed.getD j true = false → (∀ e ∈ oj.after, Region.binds md e = true → e.on ≠ i) → oi.apart ops oj = true) →
      i ∈ Region.ready md ops listed → YieldsAt P ops w oi v a →
      wpAnyL P md ops w n L f (listed.setIfInBounds i true) (a.put oi.dst v) → wpAnyL P md ops w n L (f + 1) listed a := by
  intro f
  induction f with
  | zero =>
    intro listed a inv hp _ hr hy H
    have hun := (mem_ready.1 hr).1
    refine ⟨fun h => (by rw [h] at hr; cases hr), fun j hj => ?_⟩
    have hjn : j < n := by
      rcases Nat.lt_or_ge j n with h | h
      · exact h
      · exact absurd hj (tail_waitsF hs hc hn inv hp _ i rfl hin hun j h)
    refine ⟨hjn, ?_⟩
    by_cases hji : j = i
    · subst hji; exact hy.stOp hi H
    · have := hdone _ _ H j (ready_mono hj hji)
      omega
  | succ f ih =>
    intro listed a inv hp hfree hr hy H
    have hun := (mem_ready.1 hr).1
    refine ⟨fun h => (by rw [h] at hr; cases hr), fun j hj => ?_⟩
    have hjn : j < n := by
      rcases Nat.lt_or_ge j n with h | h
      · exact h
      · exact absurd hj (tail_waitsF hs hc hn inv hp _ i rfl hin hun j h)
    refine ⟨hjn, ?_⟩
    by_cases hji : j = i
    · subst hji; exact hy.stOp hi H
    · have h1 := (H.2 j (ready_mono hj hji)).2
      obtain ⟨hjun, oj, hoj, hall⟩ := mem_ready.1 hj
      have hnot : ∀ e ∈ oj.after, Region.binds md e = true → e.on ≠ i := fun e he hb heq => by
        have h1 := hall e he hb
        rw [heq, getD_both hun] at h1
        cases h1
      have h2 := stOp_put hoj (hfree j oj hoj hji hjun hnot) (fun cs b => hsel i oi cs b hi) (fun cs b => hsel j oj cs b hoj) hy h1
      have hfree' : ∀ k ok, ops[k]? = some ok → k ≠ i → (listed.setIfInBounds j true).getD k true = false →
          (∀ e ∈ ok.after, Region.binds md e = true → e.on ≠ i) → oi.apart ops ok = true := fun k ok hk hki hun hno => by
        refine hfree k ok hk hki ?_ hno
        by_cases hjk : j = k
        · subst hjk; exact hjun
        · rw [getD_set_ne true hjk] at hun; exact hun
      refine stOp_mono (fun a' h3 => ih (listed.setIfInBounds j true) a' (inv.set hj hjn) (getD_set_true hp) hfree' (ready_mono hr (Ne.symm hji)) h3.1 ?_) h2
      rw [Array.setIfInBounds_comm _ _ hji]
      exact h3.2
def lexF (md : Region.Mode) (ops : Array Oper) (g p : Nat) : Nat → Nat → Array Bool → Bool
  | 0, k, listed => Region.seqB md ops g k listed
  | f + 1, k, listed => if k == p then lexF md ops g p f (k + 1) listed else
      (Region.ready md ops listed).contains k && Region.free md ops listed k && lexF md ops g p f (k + 1) (listed.setIfInBounds k true)
/-- But for number p. -/
def skipped (p : Nat) : Nat → List Oper → List Oper
  | _, [] => []
  | k, o :: l => if k == p then skipped p (k + 1) l else o :: skipped p (k + 1) l
theorem listF {p n g : Nat} {Lq : Act → Prop} (hsel : Region.noSelect ops = true) (hs : sinkF md ops p n = true) (hc : Region.chainB md ops n = true) (hn : n < ops.size) :
    ∀ (l : List Oper) (k : Nat) (listed : Array Bool) (a : Act), (∀ j, j < l.length → l[j]? = ops[k + j]?) → k + l.length = n → HeadInv md ops n listed → listed.getD p false = true →
    lexF md ops g p l.length k listed = true → wpStill P ops w Lq (skipped p k l) a →
    wpAnyL P md ops w n (fun listed' a' => Region.seqB md ops g n listed' = true ∧ Lq a') (skipped p k l).length listed a
  | [], k, listed, a, _, hk, _, _, hB, h => by
    have : k = n := by simpa using hk
    subst this
    exact ⟨by simpa [lexF] using hB, h⟩
  | o :: l, k, listed, a, hl, hk, inv, hp, hB, h => by
    have h0 : ops[k]? = some o := by simpa using (hl 0 (by simp)).symm
    have hkn : k < n := by simp only [List.length_cons] at hk; omega
    have hl' : ∀ j, j < l.length → l[j]? = ops[k + 1 + j]? := fun j hj => by have := hl (j + 1) (by simp; omega); simpa [Nat.add_assoc, Nat.add_comm 1 j] using this
    have hk' : k + 1 + l.length = n := by simp only [List.length_cons] at hk; omega
    cases e : (k == p) with
    | true =>
      simp only [List.length_cons, lexF, e, if_true] at hB
      simp only [skipped, e, if_true] at h ⊢
      exact listF hsel hs hc hn l (k + 1) listed a hl' hk' inv hp hB h
    | false =>
      simp only [List.length_cons, lexF, e, Bool.false_eq_true, if_false, Bool.and_eq_true] at hB
      obtain ⟨⟨hr, hf⟩, hB'⟩ := hB
      simp only [skipped, e, Bool.false_eq_true, if_false, List.length_cons] at h ⊢
      have hr' : k ∈ Region.ready md ops listed := by simpa using hr
      have hst : stOp P ops w k (wpStill P ops w Lq (skipped p (k + 1) l)) a := by unfold stOp; simp only [h0]; exact h
      obtain ⟨v, hy, hK⟩ := yieldsAt_of_stOp h0 hst
      exact firstF h0 (Region.noSelect_spec hsel) hs hc hn hkn (fun listed' a' hL => seqB_ready hL.1) _ listed a inv hp (Region.free_spec h0 hf) hr' hy
        (listF hsel hs hc hn l (k + 1) _ _ hl' hk' (inv.set hr' hkn) (getD_set_true hp) hB' hK)
def tailB (md : Region.Mode) (ops : Array Oper) (p n : Nat) : Bool :=
  Region.noSelect ops && decide (p < n) && decide (n < ops.size) && sinkF md ops p n && Region.chainB md ops n && (Region.ready md ops (Array.replicate ops.size false)).contains p &&
    Region.free md ops (Array.replicate ops.size false) p && lexF md ops (ops.size - n) p n 0 ((Array.replicate ops.size false).setIfInBounds p true)
theorem skipped_length : ∀ (p k : Nat) (l : List Oper), k ≤ p → p < k + l.length → (skipped p k l).length + 1 = l.length
  | p, k, [], h, h' => by simp at h'; omega
  | p, k, o :: l, h, h' => by
    unfold skipped
    by_cases e : k = p
    · subst e
      simp only [beq_self_eq_true, if_true, List.length_cons]
      congr 1
      have : ∀ (l : List Oper) (m : Nat), k < m → (skipped k m l).length = l.length := by
        intro l
        induction l with
        | nil => intro m _; rfl
        | cons o l ih =>
          intro m hm
          unfold skipped
          rw [if_neg (by simp; omega)]
          simp [ih (m + 1) (by omega)]
      exact this l (k + 1) (by omega)
    · rw [if_neg (by simpa using e)]
      simp only [List.length_cons]
      rw [skipped_length p (k + 1) l (by omega) (by simp only [List.length_cons] at h'; omega)]
/-- Number p, a copy, is taken first; the others below n are quiet; the rest follow one another. -/
theorem region_free_tail {id : Nat} {Q : Exit → Act → World → Prop} {a : Act} {w : World} {l : List Oper} {o : Oper} {x : Operand} (p n : Nat) (hm : P.follows .mixedOrders = true) (hB : tailB .any l.toArray p n = true)
    (ho : l[p]? = some o) (hop : o.op = .move x) (hg : o.guard = none)
    (hQ2 : ∀ c (a : Act) w v, Q (.panic c) (a.put o.dst v) w → Q (.panic c) a w)
    (h : wpStill P l.toArray { w with drawn := w.drawn + 1 } (fun a' => wpList P l.toArray Q (l.drop n) a' { w with drawn := w.drawn + 1 }) (skipped p 0 (l.take n)) (a.put o.dst (a.eval x))) : (Code.region id l.toArray true).wp P Q a w := by
  simp only [tailB, Bool.and_eq_true, decide_eq_true_eq] at hB
  obtain ⟨⟨⟨⟨⟨⟨⟨hsel, hpn⟩, hn⟩, hs⟩, hc⟩, hrd⟩, hfr⟩, hlex⟩ := hB
  have hn' : n < l.length := by simpa using hn
  have htl : (l.take n).length = n := by simp; omega
  have hdl : (l.drop n).length = l.toArray.size - n := by simp
  have hrd' : p ∈ Region.ready .any l.toArray (Array.replicate l.toArray.size false) := by simpa using hrd
  have ho' : l.toArray[p]? = some o := by simpa using ho
  have inv0 : HeadInv .any l.toArray n (Array.replicate l.toArray.size false) :=
    ⟨by simp, fun j oj _ hl => (by rw [getD_replicate_false] at hl; cases hl), fun t _ ht => getD_in (by simpa using ht) (getD_replicate_false _ _)⟩
  have inv1 := inv0.set hrd' hpn
  have hp1 : ((Array.replicate l.toArray.size false).setIfInBounds p true).getD p false = true := by
    have : p < l.length := by omega
    simp [this]
  have H := listF (md := .any) (g := l.toArray.size - n) hsel hs hc hn (l.take n) 0 _ _ (fun j hj => by
    have hj' : j < n := by rw [htl] at hj; exact hj
    simp [hj']) (by simpa using htl) inv1 hp1 (by rw [htl]; exact hlex) h
  have hy : Yields P l.toArray o (a.eval x) a := .inl ⟨by simp [Region.wanted, hg], fun w => by unfold execOp; simp [hop]⟩
  refine wp_region_any hm ?_
  have K := wpAny_of_head (Q' := Q) (g := l.toArray.size - n) (fun listed a' hL => by
    have := wpAny_of_seq (md := .any) (Q' := Q) (l.drop n) n listed a' { w with drawn := w.drawn + 1 } (fun j => by simp [List.getElem?_drop]) (by rw [hdl]; exact hL.1) hL.2
    rwa [hdl] at this) _ _ _ H
  have hsz : l.toArray.size = ((skipped p 0 (l.take n)).length + (l.toArray.size - n)) + 1 := by
    have := skipped_length p 0 (l.take n) (by omega) (by rw [htl]; omega)
    rw [htl] at this
    omega
  rw [hsz]
  refine wpAny_take ho' hsel ?_ ?_ (fun c a w => hQ2 c a w _) hy ?_
  · rw [← hsz]; exact hfr
  · rw [← hsz]; exact hrd
  · rw [← hsz]; exact K
end Go.Proofs.Ytbpeppmajmhmiaa.Ft
