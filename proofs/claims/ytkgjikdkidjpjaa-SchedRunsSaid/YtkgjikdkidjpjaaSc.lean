/- The clock's calls, walked. -/
import Derived.Test.YtkgjikdkidjpjaaSi
namespace Go.Proofs.Ytkgjikdkidjpjaa.Sc
set_option linter.unusedVariables false
set_option linter.unusedSimpArgs false
open Go.RowKit Go.Proofs.Ytkgjikdkidjpjaa.Wk Go.Proofs.Ytkgjikdkidjpjaa.Sp Go.Proofs.Ytkgjikdkidjpjaa.Sa Go.Proofs.Ytkgjikdkidjpjaa.Sb Go.Proofs.Ytkgjikdkidjpjaa.Sh Go.Proofs.Ytkgjikdkidjpjaa.Si

structure Inv (turn : Int) (L : List Ent) : Prop where
  sorted : L.Pairwise fun a b => a.2.2 < b.2.2
  old : ∀ e, e ∈ L → 0 ≤ e.2.2 ∧ e.2.2 < turn
  rng : ∀ e, e ∈ L → 0 ≤ e.1 ∧ e.1 ≤ 2199023255552 ∧ 0 ≤ e.2.1
/-- A clock, and the events in the order in which they were added. -/
structure St (w : World) (B sb : Nat) (now turn : Int) (v : Value) (L : List Ent) : Prop where
  rep : ∃ l, Rep w B sb now turn v l ∧ l.Perm L ∧ Heap l l.length
  inv : Inv turn L
  n0 : 0 ≤ now
  n1 : now ≤ 1099511627776
  t0 : 0 ≤ turn
structure Step (w : World) (sb : Nat) (v : Value) (w' : World) (v' : Value) : Prop where
  fr : Fr (Foot sb v) w w'
  own : v'.ownBlock = v.ownBlock ∨ ∃ g, v'.ownBlock = some g ∧ w.heap.size ≤ g
theorem Step.refl (w : World) (sb : Nat) (v : Value) : Step w sb v w v := ⟨Fr.refl _ _, .inl rfl⟩
theorem Step.trans {w w' w'' : World} {sb : Nat} {v v' v'' : Value} (h : Step w sb v w' v') (h' : Step w' sb v' w'' v'') : Step w sb v w'' v'' := by
  refine ⟨h.fr.trans h'.fr fun k hk hlt => ?_, ?_⟩
  · rcases hk with e | e
    · exact .inl e
    · rcases h.own with f | ⟨g, f, hg⟩
      · exact .inr (by rw [← f]; exact e)
      · rw [f] at e; cases e; omega
  · rcases h'.own with f | ⟨g, f, hg⟩
    · rcases h.own with f' | ⟨g, f', hg⟩
      · exact .inl (f.trans f')
      · exact .inr ⟨g, f.trans f', hg⟩
    · exact .inr ⟨g, f, Nat.le_trans h.fr.size hg⟩
theorem Step.below {w w' : World} {sb : Nat} {v : Value} (h : Below w.heap.size w w') : Step w sb v w' v := ⟨Fr.of_below h, .inl rfl⟩
theorem St.keep {S : Nat → Prop} {w w' : World} {B sb : Nat} {now turn : Int} {v : Value} {L : List Ent} (h : St w B sb now turn v L) (hf : Fr S w w') (h1 : ¬ S sb) (h2 : ∀ g, v.ownBlock = some g → ¬ S g) : St w' B sb now turn v L := by
  obtain ⟨l, R, p, H⟩ := h.rep
  exact ⟨⟨l, R.keep hf h1 h2, p, H⟩, h.inv, h.n0, h.n1, h.t0⟩
theorem St.below {w w' : World} {B sb : Nat} {now turn : Int} {v : Value} {L : List Ent} (h : St w B sb now turn v L) (hb : Below w.heap.size w w') : St w' B sb now turn v L :=
  h.keep (Fr.of_below (S := fun _ => False) hb) (fun e => e) (fun _ _ e => e)
theorem St.len {w : World} {B sb : Nat} {now turn : Int} {v : Value} {L : List Ent} (h : St w B sb now turn v L) : L.length ≤ 16 := by
  obtain ⟨l, R, p, H⟩ := h.rep
  rw [← p.length_eq]; exact R.len
theorem St.le {w : World} {B sb : Nat} {now turn : Int} {v : Value} {L : List Ent} (h : St w B sb now turn v L) : B ≤ sb := by
  obtain ⟨l, R, p, H⟩ := h.rep
  exact R.le
theorem St.lt {w : World} {B sb : Nat} {now turn : Int} {v : Value} {L : List Ent} (h : St w B sb now turn v L) : sb < w.heap.size := by
  obtain ⟨l, R, p, H⟩ := h.rep
  exact sizeAt R.blk
theorem St.own_lt {w : World} {B sb : Nat} {now turn : Int} {v : Value} {L : List Ent} (h : St w B sb now turn v L) {g : Nat} (hg : v.ownBlock = some g) : B ≤ g ∧ g < w.heap.size := by
  obtain ⟨l, R, p, H⟩ := h.rep
  exact Sb.own_lt R.own hg
/-- All that the clock writes lies at B or behind. -/
theorem St.bel {w w' W : World} {B sb : Nat} {now turn : Int} {v v' : Value} {L : List Ent} (h : St w B sb now turn v L) (s : Step w sb v w' v') (hb : Below B W w) : Below B W w' :=
  Fr.below hb s.fr (fun k hk => by
    rcases hk with e | e
    · rw [e]; exact h.le
    · exact (h.own_lt e).1) (by have := h.le; have := h.lt; omega)
theorem slice_form {w : World} {B : Nat} {v : Value} {l : List Ent} (h : own w B v l) : ∃ a c, v = .slice a l.length c := by
  rcases h.2 with ⟨e, f⟩ | ⟨g, cap, cur, e, _⟩
  · rw [f]; exact ⟨_, _, e⟩
  · exact ⟨_, _, e⟩
/-! ### the least -/
def isMin (L : List Ent) (m : Ent) : Prop := m ∈ L ∧ ∀ e, e ∈ L → ¬ lt e m
theorem isMin_unique {L : List Ent} {a b : Ent} (ha : isMin L a) (hb : isMin L b) : a = b := by
  have h1 := ha.2 b hb.1
  have h2 := hb.2 a ha.1
  obtain ⟨a1, a2, a3⟩ := a
  obtain ⟨b1, b2, b3⟩ := b
  unfold lt at h1 h2
  dsimp only at h1 h2
  have e1 : a1 = b1 := by omega
  have e2 : a2 = b2 := by omega
  have e3 : a3 = b3 := by omega
  rw [e1, e2, e3]
theorem heap_isMin {l L : List Ent} (p : l.Perm L) (H : Heap l l.length) (h0 : 0 < l.length) : isMin L (at' l 0) := by
  constructor
  · rw [at_get h0]; exact p.mem_iff.1 (List.getElem_mem h0)
  · intro e he
    obtain ⟨i, hi, rfl⟩ := List.getElem_of_mem (p.mem_iff.2 he)
    have := heap_min H i hi
    rwa [at_get hi] at this
theorem new_any (w : World) : Calls Try.prog 9 #[] w fun e w' => e = .returned (.pointer (some ⟨w.heap.size, 0, none⟩)) ∧ w' = w.alloc (.cells #[.int .i64 0, .int .i64 0, .slice none 0 0] 54) := by
  go_enter Try.func9, Try.ntmps9
  go_wp2
  go_ret
  exact ⟨rfl, rfl⟩
theorem st_new (w : World) (B : Nat) (hB : B ≤ w.heap.size) : St (w.alloc (.cells #[.int .i64 0, .int .i64 0, .slice none 0 0] 54)) B w.heap.size 0 0 (.slice none 0 0) [] :=
  ⟨⟨[], ⟨alloc_new _ _, World.ownsRow_nil _ _ _ _, by simp [Value.ownBlock], hB, by simp⟩, List.Perm.refl _, fun k _ h => by simp at h⟩, ⟨List.Pairwise.nil, fun _ h => by simp at h, fun _ h => by simp at h⟩, by decide, by decide, by decide⟩
/-! ### Now, Len -/
theorem now_any {w : World} {B sb : Nat} {now turn : Int} {v : Value} {L : List Ent} (h : St w B sb now turn v L) : Calls Try.prog 13 #[.pointer (some ⟨sb, 0, none⟩)] w fun e w' => e = .returned (.int .i64 now) ∧ w = w' := by
  obtain ⟨l, R, p, H⟩ := h.rep
  have C : w.cell? ⟨sb, 0, none⟩ = some (.int .i64 now) := cellsAt R.blk 0
  clear h R p H
  go_enter Try.func13, Try.ntmps13
  go_wp2
  go_ret
  exact ⟨rfl, rfl⟩
theorem slen_any {w : World} {B sb : Nat} {now turn : Int} {v : Value} {L : List Ent} (h : St w B sb now turn v L) : Calls Try.prog 11 #[.pointer (some ⟨sb, 0, none⟩)] w fun e w' => e = .returned (.int .i64 L.length) ∧ w = w' := by
  obtain ⟨l, R, p, H⟩ := h.rep
  obtain ⟨a, c, rfl⟩ := slice_form R.own
  have C : w.cell? ⟨sb, 2, none⟩ = some (.slice a l.length c) := cellsAt R.blk 2
  have e := p.length_eq
  have b := R.len
  rw [← e]
  clear h R p H e
  go_enter Try.func11, Try.ntmps11
  go_wp2
  go_ret
  exact ⟨rfl, rfl⟩
/-! ### Pass -/
theorem pass_bad {w : World} {B sb : Nat} {now turn : Int} {v : Value} {L : List Ent} (h : St w B sb now turn v L) (n : Int) (hn : n < 0 ∨ 1099511627776 - now < n) :
    Calls Try.prog 12 #[.pointer (some ⟨sb, 0, none⟩), .int .i64 n] w fun e w' => e = .returned (.int .i64 1) ∧ w = w' := by
  obtain ⟨l, R, p, H⟩ := h.rep
  have C : w.cell? ⟨sb, 0, none⟩ = some (.int .i64 now) := cellsAt R.blk 0
  have b0 := h.n0
  have b1 := h.n1
  clear h R p H
  by_cases h0 : n < 0
  · have t : decide (n < 0) = true := by simpa using h0
    go_enter Try.func12, Try.ntmps12
    go_wp2
    go_ret
    exact ⟨rfl, rfl⟩
  · have t : decide (n < 0) = false := by simpa using h0
    have h1 : 1099511627776 - now < n := by omega
    have t2 : decide (1099511627776 - now < n) = true := by simpa using h1
    go_enter Try.func12, Try.ntmps12
    go_wp2
    go_ret
    exact ⟨rfl, rfl⟩
theorem pass_ok {w : World} {B sb : Nat} {now turn : Int} {v : Value} {L : List Ent} (h : St w B sb now turn v L) (n : Int) (h0 : 0 ≤ n) (h1 : n ≤ 1099511627776 - now) :
    Calls Try.prog 12 #[.pointer (some ⟨sb, 0, none⟩), .int .i64 n] w fun e w' => e = .returned (.int .i64 0) ∧ St w' B sb (now + n) turn v L ∧ Step w sb v w' v := by
  obtain ⟨l, R, p, H⟩ := h.rep
  have C : w.cell? ⟨sb, 0, none⟩ = some (.int .i64 now) := cellsAt R.blk 0
  have F := freeAt R.blk 0
  have b0 := h.n0
  have b1 := h.n1
  have t : decide (n < 0) = false := by simpa using h0
  have t2 : decide (1099511627776 - now < n) = false := by simpa using h1
  have O := (Only.refl R.blk).set (j := 0) (.int .i64 (now + n))
  have S : St (w.setCell ⟨sb, 0, none⟩ (.int .i64 (now + n))) B sb (now + n) turn v L ∧ Step w sb v (w.setCell ⟨sb, 0, none⟩ (.int .i64 (now + n))) v :=
    ⟨⟨⟨l, ⟨O.at_, (Fr.of_only O).own R.own (fun g e k => R.ne (by rw [e, k])), R.ne, R.le, R.len⟩, p, H⟩, h.inv, by omega, by omega, h.t0⟩, ⟨(Fr.of_only O).mono fun k e _ => .inl e, .inl rfl⟩⟩
  have SH := Lib.hid S
  clear h R p H O S
  go_enter Try.func12, Try.ntmps12
  go_wp2
  go_ret
  exact ⟨rfl, SH.out⟩
end Go.Proofs.Ytkgjikdkidjpjaa.Sc
