/- A law for a statement whose order is open: quiet operations and quiet calls, beside them an allocation whose block is stored into at last. No program here. -/
import Derived.OrdersHeld
import Derived.StillTail
import Derived.Still
import Derived.WalkKit
import Derived.Laws.Tables
import Derived.Lib.Hide
import Derived.Deep.RegionHeld3
namespace Go.Proofs.Ytlpjadpjjcpfgaa.Rg
set_option linter.unusedVariables false
set_option linter.unusedSimpArgs false
open Go.RowKit

variable {P : Program} {ops : Array Oper} {Q : Exit → Act → World → Prop} {md : Region.Mode} {S : World → Prop}

/-- In every world that meets S the operation yields v, and leaves the world alone. -/
def Sure (P : Program) (ops : Array Oper) (S : World → Prop) (o : Oper) (v : Value) (a : Act) : Prop := ∀ w, S w → YieldsAt P ops w o v a
theorem Sure.same {o : Oper} {v : Value} {a a' : Act} (h : Sure P ops S o v a) (he : execOp a'.eval o = execOp a.eval o) (hw : Region.wanted o (yielded ops a'.tmps) = Region.wanted o (yielded ops a.tmps)) : Sure P ops S o v a' :=
  fun w s => (h w s).of_same he hw
theorem Sure.op {i : Nat} {o : Oper} {v : Value} {a : Act} (hi : ops[i]? = some o) (h : Sure P ops S o v a) {K : Act → World → Prop} {w : World} (s : S w) (k : K (a.put o.dst v) w) : wpOp P ops Q i K a w :=
  wpOp_of_stOp (K := fun a' => K a' w) (fun _ x => x) ((h w s).stOp hi k)
/-- Another operation, apart from this one: whether this one's value is there already is all the same. -/
theorem wpOp_sure {j : Nat} {oi oj : Oper} {v : Value} (hj : ops[j]? = some oj) (hap : oi.apart ops oj = true)
    (hsi : ∀ cs b, oi.op ≠ .select cs b) (hsj : ∀ cs b, oj.op ≠ .select cs b)
    (hQ : ∀ c a w, Q (.panic c) (a.put oi.dst v) w → Q (.panic c) a w) {K : Act → World → Prop} {a : Act} {w : World}
    (hy : Sure P ops S oi v a) (h : wpOp P ops Q j K (a.put oi.dst v) w) :
    wpOp P ops Q j (fun a' w' => Sure P ops S oi v a' ∧ K (a'.put oi.dst v) w') a w := by
  obtain ⟨h1, h2, h3⟩ := Oper.apart_spec hap
  have stay : ∀ u, Sure P ops S oi v (a.put oj.dst u) := fun u => hy.same (execOp_put oi hsi a oj.dst u h3) (wanted_put oi a oj.dst u h3)
  unfold wpOp at h ⊢
  simp only [hj] at h ⊢
  rw [wanted_put oj a oi.dst v h1] at h
  by_cases hw : Region.wanted oj (yielded ops a.tmps) = true
  · rw [if_pos hw] at h ⊢
    rcases h with h | ⟨ha, hl⟩
    · left
      unfold Oper.wp at h ⊢
      rw [execOp_put oj hsj a oi.dst v h1] at h
      cases hr : (execOp a.eval oj).run P w with
      | ok n w' =>
        rw [hr] at h
        cases n with
        | value u => exact ⟨stay u, by rw [← Act.put_comm a v u h2]; exact h⟩
        | skip => exact ⟨stay _, by rw [← Act.put_comm a v undef h2]; exact h⟩
        | defer d =>
          have t : Sure P ops S oi v ({ a with defers := d :: a.defers } : Act) := hy.same rfl rfl
          refine ⟨t.same (execOp_put oi hsi _ oj.dst _ h3) (wanted_put oi _ oj.dst _ h3), ?_⟩
          rw [← Act.put_comm _ v undef h2, ← Act.put_defers]
          exact h
        | enter f args =>
          refine Calls.mono h fun e w'' he => ?_
          cases e with
          | returned u => exact ⟨stay u, by rw [← Act.put_comm a v u h2]; exact he⟩
          | panicked c => exact hQ _ _ _ he
          | outgrown => exact he
        | row row args => exact Rows.mono h fun u w'' he => ⟨stay u, by rw [← Act.put_comm a v u h2]; exact he⟩
        | _ => exact h
      | halt x w' =>
        rw [hr] at h
        cases x with
        | panic u => exact hQ _ _ _ h
        | _ => exact h
    · exact .inr ⟨by unfold Oper.asks at *; rw [execOp_put oj hsj a oi.dst v h1] at ha; exact ha, hl⟩
  · rw [if_neg hw] at h ⊢
    exact ⟨stay _, by rw [← Act.put_comm a v undef h2]; exact h⟩
/-- Such an operation may be taken first. -/
theorem sure_first {i : Nat} {oi : Oper} {v : Value} (hi : ops[i]? = some oi) (hs : Region.noSelect ops = true)
    (hQ : ∀ c a w, Q (.panic c) (a.put oi.dst v) w → Q (.panic c) a w) :
    ∀ (fuel : Nat) (listed : Array Bool) (a : Act) (w : World),
      (∀ j oj, ops[j]? = some oj → j ≠ i → listed.getD j true = false → (∀ e ∈ oj.after, Region.binds md e = true → e.on ≠ i) → oi.apart ops oj = true) →
      i ∈ Region.ready md ops listed → Sure P ops S oi v a → S w →
      wpAnyH P md ops Q S fuel (listed.setIfInBounds i true) (a.put oi.dst v) w → wpAnyH P md ops Q S (fuel + 1) listed a w
  | fuel, listed, a, w, free, hr, hy, s, H => by
    refine ⟨fun e => (by rw [e] at hr; cases hr), fun j hj => ?_⟩
    by_cases hji : j = i
    · subst hji; exact hy.op hi s ⟨s, H⟩
    · have rj := ready_mono hj hji
      cases fuel with
      | zero => rw [H.1] at rj; cases rj
      | succ fuel =>
        obtain ⟨un, oj, hoj, hall⟩ := mem_ready.1 hj
        have ui := (mem_ready.1 hr).1
        have no : ∀ e ∈ oj.after, Region.binds md e = true → e.on ≠ i := fun e he hb q => by
          have t := hall e he hb
          rw [q] at t
          rcases Nat.lt_or_ge i listed.size with l | l
          · simp [l] at ui t; rw [ui] at t; cases t
          · simp [Array.getElem?_eq_none l] at t
        refine wpOp_mono (fun a' w' k => ⟨k.2.1, sure_first hi hs hQ fuel (listed.setIfInBounds j true) a' w' ?_ (ready_mono hr (Ne.symm hji)) k.1 k.2.1 ?_⟩)
          (wpOp_sure hoj (free j oj hoj hji un no) (fun cs b => Region.noSelect_spec hs i oi cs b hi) (fun cs b => Region.noSelect_spec hs j oj cs b hoj) hQ hy (H.2 j rj))
        · intro k ok hk hki hun hno
          refine free k ok hk hki ?_ hno
          by_cases q : j = k
          · subst q; exact un
          · rw [getD_set_ne true q] at hun; exact hun
        · rw [Array.setIfInBounds_comm _ _ hji]; exact k.2.2
/-- The walk over the quiet ones, in the order of the text: each leaves one frame, in every world that meets S. -/
def wpSure (P : Program) (ops : Array Oper) (S : World → Prop) (K : Act → Prop) : List Oper → Act → Prop
  | [], a => K a
  | o :: rest, a => ∃ v, Sure P ops S o v a ∧ wpSure P ops S K rest (a.put o.dst v)
def headB (md : Region.Mode) (ops : Array Oper) (B : Array Bool → Bool) : Nat → Nat → Array Bool → Bool
  | 0, _, listed => B listed
  | f + 1, k, listed => (Region.ready md ops listed).contains k && Region.free md ops listed k && headB md ops B f (k + 1) (listed.setIfInBounds k true)
theorem sure_head {B : Array Bool → Bool} (hs : Region.noSelect ops = true) (hQ : ∀ c a d v w, Q (.panic c) (a.put d v) w → Q (.panic c) a w) {K : Act → Prop} {w : World} (s : S w) (g : Nat)
    (hK : ∀ listed a, B listed = true → K a → wpAnyH P md ops Q S g listed a w) :
    ∀ (l : List Oper) (k : Nat) (listed : Array Bool) (a : Act), (∀ j, j < l.length → l[j]? = ops[k + j]?) → headB md ops B l.length k listed = true → wpSure P ops S K l a → wpAnyH P md ops Q S (l.length + g) listed a w
  | [], k, listed, a, _, hB, h => by
    rw [show ([] : List Oper).length + g = g by simp]
    exact hK _ _ hB h
  | o :: l, k, listed, a, hl, hB, h => by
    have h0 : ops[k]? = some o := by simpa using (hl 0 (by simp)).symm
    simp only [List.length_cons, headB, Bool.and_eq_true] at hB
    obtain ⟨⟨hr, hf⟩, hB'⟩ := hB
    obtain ⟨v, hv, hrest⟩ := h
    rw [show (o :: l).length + g = (l.length + g) + 1 by simp; omega]
    refine sure_first h0 hs (fun c a w => hQ c a _ _ w) _ _ _ _ (Region.free_spec h0 hf) (by simpa using hr) hv s ?_
    exact sure_head hs hQ s g hK l (k + 1) _ _ (fun j hj => by have := hl (j + 1) (by simp; omega); simpa [Nat.add_assoc, Nat.add_comm 1 j] using this) hB' hrest
/-- One operation in one world, its value behind K. -/
def stillK (P : Program) (o : Oper) (a : Act) (w : World) (K : Value → Prop) : Prop :=
  match (execOp a.eval o).run P w with
  | .ok (.value u) w' => w' = w ∧ K u
  | .ok .skip w' => w' = w ∧ K undef
  | .ok (.enter f args) w' => w' = w ∧ ∃ u, Calls P f args w (fun e w2 => e = .returned u ∧ w2 = w) ∧ K u
  | _ => False
theorem wpSure_step {K : Act → Prop} {o : Oper} {rest : List Oper} {a : Act} (v : Value)
    (h : ∀ w', S w' → ∀ J : Value → Prop, J v → if Region.wanted o (yielded ops a.tmps) then stillK P o a w' J else J undef)
    (h2 : wpSure P ops S K rest (a.put o.dst v)) : wpSure P ops S K (o :: rest) a := by
  refine ⟨v, fun w' s => ?_, h2⟩
  have t := h w' s (fun u => u = v) rfl
  by_cases hw : Region.wanted o (yielded ops a.tmps) = true
  · rw [if_pos hw] at t
    refine .inl ⟨hw, ?_⟩
    unfold stillK at t
    cases hr : (execOp a.eval o).run P w' with
    | ok n w'' =>
      rw [hr] at t
      cases n with
      | value u => obtain ⟨rfl, rfl⟩ := t; exact .inl rfl
      | skip => obtain ⟨rfl, e⟩ := t; exact .inr (.inl ⟨rfl, e.symm⟩)
      | enter f args => obtain ⟨rfl, u, hc, rfl⟩ := t; exact .inr (.inr ⟨f, args, rfl, hc⟩)
      | _ => exact t.elim
    | halt x w'' => rw [hr] at t; exact t.elim
  · rw [if_neg hw] at t
    exact .inr ⟨by simpa using hw, t.symm⟩
theorem wpSure_next {K : Act → Prop} {o : Oper} {rest : List Oper} {a : Act} (v : Value)
    (h : ∀ w', S w' → ∀ J : Value → Prop, J v → if Region.wanted o (yielded ops a.tmps) then stillK P o a w' J else J undef)
    (h2 : ∀ L : Act → Prop, (∀ a, wpSure P ops S K rest a → L a) → L (a.put o.dst v)) : wpSure P ops S K (o :: rest) a := wpSure_step v h (h2 _ fun _ x => x)
theorem wpSure_nil {K : Act → Prop} {a : Act} (h : K a) : wpSure P ops S K [] a := h
/-- The worlds in which what stood at W is as it was. -/
def Old (W w : World) : Prop := W.heap.size ≤ w.heap.size ∧ ∀ b o, b < W.heap.size → w.cell? ⟨b, o, none⟩ = W.cell? ⟨b, o, none⟩
theorem old_alloc {W w : World} (h : Old W w) (o : Obj) : Old W (w.alloc o) := by
  refine ⟨by have := h.1; simp; omega, fun b j hb => ?_⟩
  rw [← h.2 b j hb]
  have : b < w.heap.size := by have := h.1; omega
  unfold World.cell?
  rw [(MapKept.heap_alloc w o).2 b this]
theorem old_setRow {W w : World} (h : Old W w) (cs : Array Value) : Old W (w.setRow W.heap.size cs) := by
  refine ⟨by simpa using h.1, fun b j hb => ?_⟩
  rw [← h.2 b j hb]
  exact cell_setRow_other w _ cs _ (by show b ≠ W.heap.size; omega)
theorem alloc_setRow (W : World) (z cs : Array Value) (t : TypeId) (fr : Nat × Nat) : (W.alloc (.cells z t fr)).setRow W.heap.size cs = W.alloc (.cells cs t fr) := by
  show ({ W with heap := _ } : World) = { W with heap := _ }
  congr 1
  show (W.heap.push (Obj.cells z t fr)).modify W.heap.size _ = W.heap.push (Obj.cells cs t fr)
  apply Array.ext
  · simp
  · intro i h1 h2
    rw [Array.getElem_modify]
    by_cases e : W.heap.size = i
    · subst e; simp
    · rw [if_neg e]
      simp at h1
      rw [Array.getElem_push_lt (by omega), Array.getElem_push_lt (by omega)]
def tailB (ops : Array Oper) (n : Nat) (listed : Array Bool) : Bool :=
  decide (Region.ready .any ops listed = [n]) && decide (Region.ready .any ops (listed.setIfInBounds n true) = [n + 1]) && (Region.ready .any ops ((listed.setIfInBounds n true).setIfInBounds (n + 1) true)).isEmpty
def allB (ops : Array Oper) (n : Nat) : Bool := Region.noSelect ops && headB .any ops (tailB ops n) n 0 (Array.replicate ops.size false)
/-- Quiet operations, an allocation somewhere among them, and at last the store into the new block. -/
theorem region_alloc {id : Nat} {a : Act} {w : World} {l : List Oper} (n : Nat) (hm : P.follows .mixedOrders = true) (hB : allB l.toArray n = true)
    (oA oS : Oper) (ty : TypeId) (p q : Tmp) (z : Array Value) (hl : l.length = n + 2)
    (hA : l[n]? = some oA) (hS : l[n + 1]? = some oS) (gA : oA.guard = none) (gS : oS.guard = none)
    (kA : ∀ a w, (execOp (Act.eval a) oA).run P w = .ok (.value (.pointer (some ⟨w.heap.size, 0, none⟩))) (w.alloc (.cells z ty (0, 0))))
    (dA : oA.dst = some p) (kS : oS.op = .store ty (.tmp p) (.tmp q)) (dS : oS.dst = none) (hpq : p ≠ q) (hp : p < a.tmps.size)
    (hi : (P.info? ty).map (·.size) = some z.size)
    (head : wpSure P l.toArray (Old w.drew) (fun a' => a'.tmps.size = a.tmps.size ∧ ∃ cells, a'.eval (.tmp q) = .agg cells ∧ cells.size = z.size ∧ cells.all (·.oneCell') = true ∧ Q .normal (a'.put (some p) (.pointer (some ⟨w.heap.size, 0, none⟩))) (w.drew.alloc (.cells cells ty (0, 0)))) (l.take n) a) :
    (Code.region id l.toArray true).wp P Q a w := by
  unfold allB at hB
  rw [Bool.and_eq_true] at hB
  refine wp_region_noPanic ?_
  refine wp_region_any hm ?_
  show wpAny P .any l.toArray (NoPanic Q) l.toArray.size (Array.replicate l.toArray.size false) a w.drew
  refine wpAny_of_held (S := Old w.drew) _ _ _ _ ?_
  have hs0 : Old w.drew w.drew := ⟨Nat.le_refl _, fun _ _ _ => rfl⟩
  have htl : (l.take n).length = n := by simp; omega
  rw [show l.toArray.size = (l.take n).length + 2 by simp; omega]
  refine sure_head (B := tailB l.toArray n) hB.1 (fun c a d v w h => h) hs0 2 ?_ (l.take n) 0 _ a (fun j hj => by rw [htl] at hj; simp [hj]) (by rw [htl]; have := hB.2; rw [show l.toArray.size = n + 2 by simp; omega] at this; exact this) head
  intro listed a' hb ⟨hsz, cells, hq, hc, h1, k⟩
  unfold tailB at hb
  simp only [Bool.and_eq_true, decide_eq_true_eq] at hb
  obtain ⟨⟨r1, r2⟩, r3⟩ := hb
  have hA' : l.toArray[n]? = some oA := by simpa using hA
  have hS' : l.toArray[n + 1]? = some oS := by simpa using hS
  refine ⟨fun e => (by rw [r1] at e; cases e), fun i hi' => ?_⟩
  rw [r1] at hi'
  have e : i = n := by simpa using hi'
  obtain rfl : n = i := e.symm
  unfold wpOp
  simp only [hA']
  have w1 : Region.wanted oA (yielded l.toArray a'.tmps) = true := by unfold Region.wanted; rw [gA]
  rw [if_pos w1]
  left
  unfold Oper.wp
  rw [kA a' w.drew]
  show Old w.drew _ ∧ _
  rw [dA]
  refine ⟨old_alloc hs0 _, fun e => (by rw [r2] at e; cases e), fun i hi' => ?_⟩
  rw [r2] at hi'
  have e : i = n + 1 := by simpa using hi'
  obtain rfl : n + 1 = i := e.symm
  unfold wpOp
  simp only [hS']
  have w2 : Region.wanted oS (yielded l.toArray (a'.put (some p) (Value.pointer (some ⟨w.drew.heap.size, 0, none⟩))).tmps) = true := by unfold Region.wanted; rw [gS]
  rw [if_pos w2]
  left
  refine wp_store_row ty (.tmp p) (.tmp q) kS w.heap.size cells ?_ ?_ ty z ?_ (hc ▸ hi) hc.symm h1 ?_
  · simp [Act.eval, Act.put, hsz, hp]
  · rw [← hq]
    exact Act.eval_put (fun d hd => by cases hd; intro e; cases e; exact hpq rfl)
  · exact (MapKept.heap_alloc w.drew _).1
  · rw [dS]
    refine ⟨old_setRow (old_alloc hs0 _) cells, by simpa using r3, ?_⟩
    have := alloc_setRow w.drew z cells ty (0, 0)
    refine NoPanic.normal ?_
    show Q .normal _ ((w.drew.alloc (.cells z ty (0, 0))).setRow w.drew.heap.size cells)
    rw [this]
    exact k
end Go.Proofs.Ytlpjadpjjcpfgaa.Rg
