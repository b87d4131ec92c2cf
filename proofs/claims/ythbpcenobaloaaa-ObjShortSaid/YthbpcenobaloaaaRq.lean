/- A law for a statement whose order is open: quiet operations, calls that may draw, one allocation among them, then a chain of others. No program here. -/
import Derived.StillTail
import Derived.Deep.QuietTactic
import Derived.WalkKit
namespace Go.Proofs.Ythbpcenobaloaaa.Rq
set_option linter.unusedVariables false
set_option linter.unusedSimpArgs false
open Go.RowKit

variable {P : Program} {ops : Array Oper} {md : Region.Mode} {S C0 C1 : World → Prop} {A : Nat} {vA : Value}

/-- In every world of S the operation yields v and leaves that world, but for draws. -/
def YieldsD (P : Program) (ops : Array Oper) (S : World → Prop) (o : Oper) (v : Value) (a : Act) : Prop :=
  (Region.wanted o (yielded ops a.tmps) = true ∧ ∀ w, S w → o.quietAt P a (fun w'' => ∃ n, w'' = w.drewN n) w v) ∨ (Region.wanted o (yielded ops a.tmps) = false ∧ v = undef)
theorem YieldsD.of_same {o : Oper} {v : Value} {a a' : Act} (hy : YieldsD P ops S o v a) (he : execOp a'.eval o = execOp a.eval o)
    (hw : Region.wanted o (yielded ops a'.tmps) = Region.wanted o (yielded ops a.tmps)) : YieldsD P ops S o v a' := by
  unfold YieldsD Oper.quietAt at *
  rw [he, hw]
  exact hy
/-- Operation i's value is settled: the allocation's is known, another's comes in every world. -/
def Det (P : Program) (ops : Array Oper) (S : World → Prop) (A : Nat) (vA : Value) (i : Nat) (o : Oper) (v : Value) (a : Act) : Prop := if i = A then v = vA else YieldsD P ops S o v a
theorem Det.of_same {i : Nat} {o : Oper} {v : Value} {a a' : Act} (h : Det P ops S A vA i o v a) (he : execOp a'.eval o = execOp a.eval o)
    (hw : Region.wanted o (yielded ops a'.tmps) = Region.wanted o (yielded ops a.tmps)) : Det P ops S A vA i o v a' := by
  unfold Det at *
  split
  · rename_i e; rwa [if_pos e] at h
  · rename_i e; rw [if_neg e] at h; exact h.of_same he hw
def xOp (P : Program) (ops : Array Oper) (S : World → Prop) (A : Nat) (vA : Value) (i : Nat) (K : Act → Prop) (a : Act) : Prop := ∃ o v, ops[i]? = some o ∧ Det P ops S A vA i o v a ∧ K (a.put o.dst v)
theorem xOp_mono {i : Nat} {a : Act} {K K' : Act → Prop} (h : ∀ a, K a → K' a) (hh : xOp P ops S A vA i K a) : xOp P ops S A vA i K' a :=
  let ⟨o, v, h1, h2, h3⟩ := hh
  ⟨o, v, h1, h2, h _ h3⟩
theorem xOp_put {i j : Nat} {oi oj : Oper} {v : Value} (hj : ops[j]? = some oj) (hap : oi.apart ops oj = true)
    (hsi : ∀ cs b, oi.op ≠ .select cs b) (hsj : ∀ cs b, oj.op ≠ .select cs b) {K : Act → Prop} {a : Act}
    (hy : Det P ops S A vA i oi v a) (h : xOp P ops S A vA j K (a.put oi.dst v)) :
    xOp P ops S A vA j (fun a' => Det P ops S A vA i oi v a' ∧ K (a'.put oi.dst v)) a := by
  obtain ⟨h1, h2, h3⟩ := Oper.apart_spec hap
  obtain ⟨o, u, ho, hd, hk⟩ := h
  obtain rfl : oj = o := Option.some.inj (hj.symm.trans ho)
  refine ⟨oj, u, hj, hd.of_same (execOp_put oj hsj a oi.dst v h1).symm (wanted_put oj a oi.dst v h1).symm, hy.of_same (execOp_put oi hsi a oj.dst u h3) (wanted_put oi a oj.dst u h3), ?_⟩
  rw [← Act.put_comm a v u h2]
  exact hk
def headX (P : Program) (md : Region.Mode) (ops : Array Oper) (S : World → Prop) (A : Nat) (vA : Value) (n : Nat) (L : Array Bool → Act → Prop) : Nat → Array Bool → Act → Prop
  | 0, listed, a => L listed a
  | f + 1, listed, a => Region.ready md ops listed ≠ [] ∧ ∀ i ∈ Region.ready md ops listed, i < n ∧ xOp P ops S A vA i (headX P md ops S A vA n L f (listed.setIfInBounds i true)) a
/-- Which worlds there are, by what has come up. -/
def Cls (C0 C1 : World → Prop) (A : Nat) (listed : Array Bool) (w : World) : Prop := if listed.getD A false = true then C1 w else C0 w
theorem any_of_head {n g : Nat} {L : Array Bool → Act → Prop} {Q' : Exit → Act → World → Prop} {oA : Oper} (hA : ops[A]? = some oA) (gA : oA.guard = none)
    (kA : ∀ a w, C0 w → ∃ w', (execOp (Act.eval a) oA).run P w = .ok (.value vA) w' ∧ C1 w') (s0 : ∀ w, C0 w → S w) (s1 : ∀ w, C1 w → S w) (d0 : ∀ w n, C0 w → C0 (w.drewN n)) (d1 : ∀ w n, C1 w → C1 (w.drewN n))
    (hL : ∀ listed a w, Cls C0 C1 A listed w → L listed a → wpAny P md ops Q' g listed a w) :
    ∀ (f : Nat) (listed : Array Bool) (a : Act) (w : World), listed.size = ops.size → Cls C0 C1 A listed w → headX P md ops S A vA n L f listed a → wpAny P md ops Q' (f + g) listed a w
  | 0, listed, a, w, _, hw, h => by rw [Nat.zero_add]; exact hL _ _ _ hw h
  | f + 1, listed, a, w, hz, hw, h => by
    rw [show f + 1 + g = (f + g) + 1 by omega]
    refine ⟨fun h0 => absurd h0 h.1, fun i hi => ?_⟩
    obtain ⟨hin, o, v, ho, hd, hk⟩ := h.2 i hi
    have hun := (mem_ready.1 hi).1
    have hlt : i < ops.size := (Array.getElem?_eq_some_iff.1 ho).1
    have ih := fun w' (hc : Cls C0 C1 A (listed.setIfInBounds i true) w') => any_of_head hA gA kA s0 s1 d0 d1 hL f (listed.setIfInBounds i true) (a.put o.dst v) w' (by simpa using hz) hc hk
    unfold wpOp
    simp only [ho]
    unfold Det at hd
    by_cases e : i = A
    · subst e
      rw [if_pos rfl] at hd
      subst hd
      obtain rfl : oA = o := Option.some.inj (hA.symm.trans ho)
      have hw0 : C0 w := by
        unfold Cls at hw
        rw [if_neg (by rw [getD_both hun]; decide)] at hw
        exact hw
      have wt : Region.wanted oA (yielded ops a.tmps) = true := by unfold Region.wanted; rw [gA]
      rw [if_pos wt]
      obtain ⟨w', hr, hc⟩ := kA a w hw0
      left
      unfold Oper.wp
      rw [hr]
      refine ih w' ?_
      unfold Cls
      rw [if_pos (by simp [hz, hlt])]
      exact hc
    · rw [if_neg e] at hd
      have same : ∀ w', Cls C0 C1 A listed w' → Cls C0 C1 A (listed.setIfInBounds i true) w' := fun w' hc => by
        unfold Cls at *
        rwa [getD_set_ne false e]
      have hs : S w := by
        unfold Cls at hw
        split at hw
        · exact s1 w hw
        · exact s0 w hw
      have hdn : ∀ m, Cls C0 C1 A listed (w.drewN m) := fun m => by
        unfold Cls at *
        split
        · rename_i q; rw [if_pos q] at hw; exact d1 w m hw
        · rename_i q; rw [if_neg q] at hw; exact d0 w m hw
      rcases hd with ⟨wt, hv⟩ | ⟨wt, rfl⟩
      · rw [if_pos wt]
        left
        have h3 := hv w hs
        unfold Oper.quietAt at h3
        unfold Oper.wp
        generalize (execOp a.eval o).run P w = r at *
        cases r with
        | ok nx w' =>
          cases nx <;> simp only [Oper.quietUpon] at h3 <;> simp only [Oper.upon]
          case value u =>
            obtain ⟨e1, e2⟩ := h3
            rw [e1, e2]
            exact ih _ (same _ hw)
          case skip =>
            obtain ⟨e1, e2⟩ := h3
            rw [e1, ← e2]
            exact ih _ (same _ hw)
          case enter fn args =>
            obtain ⟨e1, hc⟩ := h3
            rw [e1]
            exact hc.mono fun e w'' ⟨he, m, hm⟩ => by subst he; subst hm; exact ih _ (same _ (hdn m))
        | halt x w' => simp only [Oper.quietUpon] at h3
      · rw [if_neg (by rw [wt]; decide)]
        exact ih _ (same _ hw)
theorem first_x {n i : Nat} {oi : Oper} {v : Value} {L : Array Bool → Act → Prop} (hi : ops[i]? = some oi) (hsel : ∀ (j : Nat) (o : Oper) cs b, ops[j]? = some o → o.op ≠ .select cs b)
    (hs : Region.sinkB md ops n = true) (hc : Region.chainB md ops n = true) (hn : n < ops.size) (hin : i < n)
    (hdone : ∀ listed a, L listed a → ∀ j ∈ Region.ready md ops listed, n ≤ j) :
    ∀ (f : Nat) (listed : Array Bool) (a : Act), HeadInv md ops n listed →
      (∀ j oj, ops[j]? = some oj → j ≠ i → listed.getD j true = false → (∀ e ∈ oj.after, Region.binds md e = true → e.on ≠ i) → oi.apart ops oj = true) →
      i ∈ Region.ready md ops listed → Det P ops S A vA i oi v a →
      headX P md ops S A vA n L f (listed.setIfInBounds i true) (a.put oi.dst v) → headX P md ops S A vA n L (f + 1) listed a := by
  intro f
  induction f with
  | zero =>
    intro listed a inv _ hr hy H
    have hun := (mem_ready.1 hr).1
    refine ⟨fun h => (by rw [h] at hr; cases hr), fun j hj => ?_⟩
    have hjn : j < n := by
      rcases Nat.lt_or_ge j n with h | h
      · exact h
      · exact absurd hj (tail_waits hs hc hn inv _ i rfl hin hun j h)
    refine ⟨hjn, ?_⟩
    by_cases hji : j = i
    · subst hji; exact ⟨oi, v, hi, hy, H⟩
    · have := hdone _ _ H j (ready_mono hj hji)
      omega
  | succ f ih =>
    intro listed a inv hfree hr hy H
    have hun := (mem_ready.1 hr).1
    refine ⟨fun h => (by rw [h] at hr; cases hr), fun j hj => ?_⟩
    have hjn : j < n := by
      rcases Nat.lt_or_ge j n with h | h
      · exact h
      · exact absurd hj (tail_waits hs hc hn inv _ i rfl hin hun j h)
    refine ⟨hjn, ?_⟩
    by_cases hji : j = i
    · subst hji; exact ⟨oi, v, hi, hy, H⟩
    · have h1 := (H.2 j (ready_mono hj hji)).2
      obtain ⟨hjun, oj, hoj, hall⟩ := mem_ready.1 hj
      have hnot : ∀ e ∈ oj.after, Region.binds md e = true → e.on ≠ i := fun e he hb heq => by
        have h1 := hall e he hb
        rw [heq, getD_both hun] at h1
        cases h1
      have h2 := xOp_put hoj (hfree j oj hoj hji hjun hnot) (fun cs b => hsel i oi cs b hi) (fun cs b => hsel j oj cs b hoj) hy h1
      have hfree' : ∀ k ok, ops[k]? = some ok → k ≠ i → (listed.setIfInBounds j true).getD k true = false →
          (∀ e ∈ ok.after, Region.binds md e = true → e.on ≠ i) → oi.apart ops ok = true := fun k ok hk hki hun hno => by
        refine hfree k ok hk hki ?_ hno
        by_cases hjk : j = k
        · subst hjk; exact hjun
        · rw [getD_set_ne true hjk] at hun; exact hun
      refine xOp_mono (fun a' h3 => ih (listed.setIfInBounds j true) a' (inv.set hj hjn) hfree' (ready_mono hr (Ne.symm hji)) h3.1 ?_) h2
      rw [Array.setIfInBounds_comm _ _ hji]
      exact h3.2
/-- The walk in the order of the text. -/
def wpX (P : Program) (ops : Array Oper) (S : World → Prop) (A : Nat) (vA : Value) (Lq : Act → Prop) : Nat → List Oper → Act → Prop
  | _, [], a => Lq a
  | k, o :: rest, a => ∃ v, Det P ops S A vA k o v a ∧ wpX P ops S A vA Lq (k + 1) rest (a.put o.dst v)
def headB (md : Region.Mode) (ops : Array Oper) (B : Array Bool → Bool) : Nat → Nat → Array Bool → Bool
  | 0, _, listed => B listed
  | f + 1, k, listed => (Region.ready md ops listed).contains k && Region.free md ops listed k && headB md ops B f (k + 1) (listed.setIfInBounds k true)
theorem lex_x {n : Nat} {Lq : Act → Prop} {B : Array Bool → Bool} (hsel : Region.noSelect ops = true) (hs : Region.sinkB md ops n = true) (hc : Region.chainB md ops n = true) (hn : n < ops.size)
    (hB0 : ∀ listed, B listed = true → ∀ j ∈ Region.ready md ops listed, n ≤ j) :
    ∀ (l : List Oper) (k : Nat) (listed : Array Bool) (a : Act), (∀ j, j < l.length → l[j]? = ops[k + j]?) → k + l.length = n → HeadInv md ops n listed →
    headB md ops B l.length k listed = true → wpX P ops S A vA Lq k l a →
    headX P md ops S A vA n (fun listed' a' => B listed' = true ∧ Lq a') l.length listed a
  | [], k, listed, a, _, hk, _, hB, h => ⟨by simpa [headB] using hB, h⟩
  | o :: l, k, listed, a, hl, hk, inv, hB, h => by
    have h0 : ops[k]? = some o := by simpa using (hl 0 (by simp)).symm
    simp only [List.length_cons, headB, Bool.and_eq_true] at hB
    obtain ⟨⟨hr, hf⟩, hB'⟩ := hB
    have hkn : k < n := by simp only [List.length_cons] at hk; omega
    have hr' : k ∈ Region.ready md ops listed := by simpa using hr
    obtain ⟨v, hy, hK⟩ := h
    exact first_x h0 (Region.noSelect_spec hsel) hs hc hn hkn (fun listed' a' hL => hB0 _ hL.1) l.length listed a inv (Region.free_spec h0 hf) hr' hy
      (lex_x hsel hs hc hn hB0 l (k + 1) _ _ (fun j hj => by have := hl (j + 1) (by simp; omega); simpa [Nat.add_assoc, Nat.add_comm 1 j] using this) (by simp only [List.length_cons] at hk; omega) (inv.set hr' hkn) hB' hK)
def endB (ops : Array Oper) (n A : Nat) (listed : Array Bool) : Bool := Region.seqB .any ops (ops.size - n) n listed && listed.getD A false
def allB (ops : Array Oper) (n A : Nat) : Bool :=
  Region.noSelect ops && decide (n < ops.size) && Region.sinkB .any ops n && Region.chainB .any ops n && headB .any ops (endB ops n A) n 0 (Array.replicate ops.size false)
theorem alloc_drewN (w : World) (o : Obj) (n : Nat) : (w.alloc o).drewN n = (w.drewN n).alloc o := rfl
/-- The first n are quiet but for an allocation, the rest follow one another. -/
theorem region_quiet_alloc {id : Nat} {Q : Exit → Act → World → Prop} {a : Act} {w : World} {l : List Oper} (n A : Nat) (hm : P.follows .mixedOrders = true) (hB : allB l.toArray n A = true)
    (oA : Oper) (z : Obj) (hA : l[A]? = some oA) (gA : oA.guard = none)
    (kA : ∀ a w, (execOp (Act.eval a) oA).run P w = .ok (.value (.pointer (some ⟨w.heap.size, 0, none⟩))) (w.alloc z))
    (h : wpX P l.toArray (Below w.heap.size w) A (.pointer (some ⟨w.heap.size, 0, none⟩)) (fun a' => ∀ k, wpList P l.toArray Q (l.drop n) a' ((w.drewN k).alloc z)) 0 (l.take n) a) :
    (Code.region id l.toArray true).wp P Q a w := by
  simp only [allB, Bool.and_eq_true, decide_eq_true_eq] at hB
  obtain ⟨⟨⟨⟨hsel, hn⟩, hs⟩, hc⟩, hlex⟩ := hB
  have hn' : n < l.length := by simpa using hn
  have htl : (l.take n).length = n := by simp; omega
  have hdl : (l.drop n).length = l.toArray.size - n := by simp
  have inv0 : HeadInv .any l.toArray n (Array.replicate l.toArray.size false) :=
    ⟨by simp, fun j oj _ hl => (by rw [getD_replicate_false] at hl; cases hl), fun t _ ht => getD_in (by simpa using ht) (getD_replicate_false _ _)⟩
  have H := lex_x (md := .any) (B := endB l.toArray n A) hsel hs hc hn (fun listed hb => by
    unfold endB at hb
    rw [Bool.and_eq_true] at hb
    exact seqB_ready hb.1) (l.take n) 0 _ a (fun j hj => by
    have hj' : j < n := by rw [htl] at hj; exact hj
    simp [hj']) (by simpa using htl) inv0 (by rw [htl]; exact hlex) h
  refine wp_region_any hm ?_
  have := any_of_head (Q' := Q) (g := l.toArray.size - n) (C0 := fun w' => ∃ k, w' = w.drewN k) (C1 := fun w' => ∃ k, w' = (w.drewN k).alloc z) (oA := oA) (by simpa using hA) gA
    (fun a w' ⟨k, hk⟩ => ⟨_, by rw [hk]; exact kA a _, k, rfl⟩)
    (fun w' ⟨k, hk⟩ => by rw [hk]; exact ⟨rfl, rfl, rfl, Nat.le_refl _, fun _ _ => rfl⟩)
    (fun w' ⟨k, hk⟩ => by rw [hk]; exact (show Below w.heap.size w (w.drewN k) from ⟨rfl, rfl, rfl, Nat.le_refl _, fun _ _ => rfl⟩).alloc (Nat.le_refl _) _)
    (fun w' m ⟨k, hk⟩ => ⟨k + m, by rw [hk, World.drewN_drewN]⟩)
    (fun w' m ⟨k, hk⟩ => ⟨k + m, by rw [hk, alloc_drewN, World.drewN_drewN]⟩)
    (fun listed a' w' hw' hL => by
      obtain ⟨hb, hq⟩ := hL
      unfold endB at hb
      rw [Bool.and_eq_true] at hb
      unfold Cls at hw'
      rw [if_pos hb.2] at hw'
      obtain ⟨k, hk⟩ := hw'
      have := wpAny_of_seq (P := P) (ops := l.toArray) (md := .any) (Q' := Q) (l.drop n) n listed a' w' (fun j => by simp [List.getElem?_drop]) (by rw [hdl]; exact hb.1) (by rw [hk]; exact hq k)
      rwa [hdl] at this) _ _ _ { w with drawn := w.drawn + 1 } (by simp) (by
        unfold Cls
        rw [if_neg (by rw [getD_replicate_false]; decide)]
        exact ⟨1, rfl⟩) H
  rw [htl, show n + (l.toArray.size - n) = l.toArray.size by omega] at this
  exact this
/-- One operation in one world, its value behind K. -/
def stillD (P : Program) (o : Oper) (a : Act) (w : World) (K : Value → Prop) : Prop :=
  match (execOp a.eval o).run P w with
  | .ok (.value u) w' => w' = w ∧ K u
  | .ok .skip w' => w' = w ∧ K undef
  | .ok (.enter f args) w' => w' = w ∧ ∃ u, Calls P f args w (fun e w2 => e = .returned u ∧ ∃ n, w2 = w.drewN n) ∧ K u
  | _ => False
theorem wpX_next {K : Act → Prop} {k : Nat} {o : Oper} {rest : List Oper} {a : Act} (hk : k ≠ A) (v : Value)
    (h : ∀ w', S w' → ∀ J : Value → Prop, J v → if Region.wanted o (yielded ops a.tmps) then stillD P o a w' J else J undef)
    (h2 : ∀ L : Act → Prop, (∀ a, wpX P ops S A vA K (k + 1) rest a → L a) → L (a.put o.dst v)) (w0 : World) (s0 : S w0) : wpX P ops S A vA K k (o :: rest) a := by
  refine ⟨v, ?_, h2 _ fun _ x => x⟩
  unfold Det
  rw [if_neg hk]
  by_cases hw : Region.wanted o (yielded ops a.tmps) = true
  · refine .inl ⟨hw, fun w' s => ?_⟩
    have t := h w' s (fun u => u = v) rfl
    rw [if_pos hw] at t
    unfold stillD at t
    unfold Oper.quietAt
    cases hr : (execOp a.eval o).run P w' with
    | ok n w'' =>
      rw [hr] at t
      cases n with
      | value u => obtain ⟨rfl, rfl⟩ := t; exact ⟨rfl, rfl⟩
      | skip => obtain ⟨rfl, e⟩ := t; exact ⟨rfl, e.symm⟩
      | enter f args => obtain ⟨rfl, u, hc, rfl⟩ := t; exact ⟨rfl, hc⟩
      | _ => exact t.elim
    | halt x w'' => rw [hr] at t; exact t.elim
  · have t := h w0 s0 (fun u => u = v) rfl
    rw [if_neg hw] at t
    exact .inr ⟨by simpa using hw, t.symm⟩
theorem wpX_alloc {K : Act → Prop} {k : Nat} {o : Oper} {rest : List Oper} {a : Act} (hk : k = A) (h : wpX P ops S A vA K (k + 1) rest (a.put o.dst vA)) : wpX P ops S A vA K k (o :: rest) a := by
  refine ⟨vA, ?_, h⟩
  unfold Det
  rw [if_pos hk]
theorem wpX_nil {K : Act → Prop} {k : Nat} {a : Act} (h : K a) : wpX P ops S A vA K k [] a := h
end Go.Proofs.Ythbpcenobaloaaa.Rq
