/- The queue of events, walked: Len, Pop, Push. -/
import Derived.Test.YtkgjikdkidjpjaaSa
import Derived.Deep.AppendLies
import Derived.Deep.RegionLaw
import Derived.Deep.RegionHeldLaw
namespace Go.Proofs.Ytkgjikdkidjpjaa.Sb
set_option linter.unusedVariables false
set_option linter.unusedSimpArgs false
open Go.RowKit Go.Proofs.Ytkgjikdkidjpjaa.Wk Go.Proofs.Ytkgjikdkidjpjaa.Sp Go.Proofs.Ytkgjikdkidjpjaa.Sa

/-- What lay in w lies unturned in w', but for the blocks in S. -/
structure Fr (S : Nat → Prop) (w w' : World) : Prop where
  os : w'.os = w.os
  tape : w'.tape = w.tape
  output : w'.output = w.output
  size : w.heap.size ≤ w'.heap.size
  block : ∀ k, k < w.heap.size → ¬ S k → w'.heap[k]? = w.heap[k]?
theorem Fr.refl (S : Nat → Prop) (w : World) : Fr S w w := ⟨rfl, rfl, rfl, Nat.le_refl _, fun _ _ _ => rfl⟩
theorem Fr.trans {S T : Nat → Prop} {w w' w'' : World} (h : Fr S w w') (h' : Fr T w' w'') (hT : ∀ k, T k → k < w.heap.size → S k) : Fr S w w'' :=
  ⟨h'.os.trans h.os, h'.tape.trans h.tape, h'.output.trans h.output, Nat.le_trans h.size h'.size, fun k hk hn => (h'.block k (Nat.lt_of_lt_of_le hk h.size) fun t => hn (hT k t hk)).trans (h.block k hk hn)⟩
theorem Fr.mono {S T : Nat → Prop} {w w' : World} (h : Fr S w w') (hT : ∀ k, S k → k < w.heap.size → T k) : Fr T w w' := ⟨h.os, h.tape, h.output, h.size, fun k hk hn => h.block k hk fun s => hn (hT k s hk)⟩
theorem Fr.of_below {S : Nat → Prop} {w w' : World} (h : Below w.heap.size w w') : Fr S w w' := ⟨h.os, h.tape, h.output, h.size, fun k hk _ => h.block k hk⟩
theorem Fr.of_grown {w w' : World} {r : Option Nat} (h : w.grownBy w' r) : Fr (fun k => some k = r) w w' := ⟨h.os, h.tape, h.output, h.size, fun k hk hn => h.block k hk hn⟩
theorem Fr.of_only {w w' : World} {b : Nat} {o : Obj} (h : Only b o w w') : Fr (fun k => k = b) w w' := ⟨h.os, h.tape, h.output, h.size, fun k hk hn => h.block k hk hn⟩
theorem Fr.below {S : Nat → Prop} {B : Nat} {w W W' : World} (h : Below B w W) (h' : Fr S W W') (hS : ∀ k, S k → B ≤ k) (hB : B ≤ W.heap.size) : Below B w W' :=
  ⟨h'.os.trans h.os, h'.tape.trans h.tape, h'.output.trans h.output, Nat.le_trans h.size h'.size, fun k hk => (h'.block k (by omega) fun s => by have := hS k s; omega).trans (h.block k hk)⟩
theorem Fr.keep {S : Nat → Prop} {w w' : World} {c : Nat} {x : Obj} (h : Fr S w w') (hc : w.heap[c]? = some x) (hn : ¬ S c) : w'.heap[c]? = some x := by
  rw [h.block c (sizeAt hc) hn]; exact hc
theorem Fr.own {S : Nat → Prop} {w w' : World} {B : Nat} {v : Value} {l : List Ent} (h : Fr S w w') (ho : own w B v l) (hn : ∀ g, v.ownBlock = some g → ¬ S g) : own w' B v l := by
  refine ⟨ho.1, ?_⟩
  rcases ho.2 with e | ⟨g, cap, cur, rfl, hb, hg, rest⟩
  · exact .inl e
  · exact .inr ⟨g, cap, cur, rfl, hb, h.keep hg (hn g rfl), rest⟩
theorem own_lt {w : World} {B : Nat} {v : Value} {l : List Ent} (h : own w B v l) {g : Nat} (hg : v.ownBlock = some g) : B ≤ g ∧ g < w.heap.size := World.ownsRow.lt h g hg
/-- The clock, and its events. -/
structure Rep (w : World) (B sb : Nat) (now turn : Int) (v : Value) (l : List Ent) : Prop where
  blk : w.heap[sb]? = some (.cells #[.int .i64 now, .int .i64 turn, v] 54 (0, 0))
  own : own w B v l
  ne : v.ownBlock ≠ some sb
  le : B ≤ sb
  len : l.length ≤ 16
/-- What is written by the clock's calls. -/
def Foot (sb : Nat) (v : Value) (k : Nat) : Prop := k = sb ∨ v.ownBlock = some k
theorem Rep.keep {S : Nat → Prop} {w w' : World} {B sb : Nat} {now turn : Int} {v : Value} {l : List Ent} (h : Rep w B sb now turn v l) (hf : Fr S w w') (h1 : ¬ S sb) (h2 : ∀ g, v.ownBlock = some g → ¬ S g) : Rep w' B sb now turn v l :=
  ⟨hf.keep h.blk h1, hf.own h.own h2, h.ne, h.le, h.len⟩
set_option maxHeartbeats 1000000 in
theorem len_any {w : World} {B : Nat} {v : Value} {l : List Ent} (h : own w B v l) (hl : l.length ≤ 16) : Calls Try.prog 45 #[v] w fun e w' => e = .returned (.int .i64 l.length) ∧ w = w' := by
  obtain ⟨a, n, c, rfl, hn⟩ : ∃ a n c, v = .slice a n c ∧ n = l.length := by
    rcases h.2 with ⟨e, f⟩ | ⟨g, cap, cur, e, _⟩
    · exact ⟨_, _, _, e, f.symm⟩
    · exact ⟨_, _, _, e, rfl⟩
  have n1 : n ≤ 16 := by omega
  have HN := Lib.hid hn
  clear hn h hl
  rw [← HN.out]
  go_enter Try.func45, Try.ntmps45
  go_wp2
  go_ret
  exact ⟨rfl, rfl⟩
theorem own_take {w : World} {B g n cap : Nat} {l : List Ent} (h : own w B (.slice (some ⟨g, 0, none⟩) n cap) l) (k : Nat) (hk : k ≤ l.length) : own w B (.slice (some ⟨g, 0, none⟩) k cap) (l.take k) := by
  rcases h.2 with ⟨e, _⟩ | ⟨g', cap', cur, e, hb, hg, hn, hm, hs, ht⟩
  · cases e
  · cases e
    refine ⟨by rw [flat_length], .inr ⟨g, cap, cur, by simp [Nat.min_eq_left hk], hb, hg, by simp; omega, hm, hs, ?_⟩⟩
    rw [flat_take, ← ht, List.take_take]
    congr 1
    simp
set_option maxHeartbeats 4000000 in
theorem qpop_any {w : World} {B sb : Nat} {now turn : Int} {v : Value} {l : List Ent} (h : Rep w B sb now turn v l) (n : Nat) (hl : l.length = n + 1) :
    Calls Try.prog 48 #[.pointer (some ⟨sb, 2, none⟩)] w fun e w' => e = .returned (.iface 58 (.agg (cs (at' l n)).toArray)) ∧ (∃ v', Rep w' B sb now turn v' (l.take n) ∧ v'.ownBlock = v.ownBlock) ∧ Fr (fun k => k = sb) w w' := by
  obtain ⟨g, cap, cur, rfl, hB, hg, hn, hm, hs, ht⟩ := own_some h.own (by omega)
  obtain ⟨a0, a1, a2⟩ := own_cell hg ht (i := n) (by omega)
  have sg := sizeAt hg
  have sz := sizeAt h.blk
  have C2 : w.cell? ⟨sb, 2, none⟩ = some (.slice (some ⟨g, 0, none⟩) l.length cap) := cellsAt h.blk 2
  have F2 := freeAt h.blk 2
  have ll : l.length ≤ 16 := h.len
  have n0 : (0 : Int) ≤ (n : Int) := by omega
  have n1 : (n : Int) ≤ 15 := by omega
  have c1 : (n : Int) ≤ (cap : Int) := by omega
  have c2 : n + 1 ≤ cap := by omega
  have cm : cap ≤ 9223372036854775807 := by unfold maxLen at hm; exact hm
  have hO := own_take h.own n (by omega)
  have R := Lib.hid h
  have O := Lib.hid hO
  rw [hl] at C2
  have HL := Lib.hid hl
  have nsb : g ≠ sb := fun e => h.ne (by rw [e]; rfl)
  generalize hx : at' l n = x at *
  obtain ⟨x1, x2, x3⟩ := x
  dsimp only at *
  have HX := Lib.hid hx
  clear h hO hx hg hs ht hB hm hn hl ll
  go_enter Try.func48, Try.ntmps48
  go_wp2
  go_ret
  have O1 := ((Only.refl R.out.blk).set (j := 2) (.slice (some ⟨g, 0, none⟩) n cap)).alloc (.cells #[.int .i64 x1, .int .i64 x2, .int .i64 x3] 58)
  refine ⟨rfl, ⟨.slice (some ⟨g, 0, none⟩) n cap, ⟨O1.at_, (Fr.of_only O1).own O.out fun g' e hs => nsb ?_, fun e => nsb ?_, R.out.le, by have := R.out.len; simp; omega⟩, rfl⟩, Fr.of_only O1⟩
  · simp [Value.ownBlock] at e; omega
  · simpa [Value.ownBlock] using e
theorem info58 : (Try.prog.info? 58).map (fun i => (i.zero, i.size, i.bytes)) = some (some (.agg #[.int .i64 0, .int .i64 0, .int .i64 0]), 3, 24) := by kernel_rfl
theorem own_grown {w w' : World} {B sb : Nat} {now turn : Int} {v : Value} {l : List Ent} {c : Nat} {x : Obj} (hg : w.grownBy w' v.ownBlock) (hn : v.ownBlock ≠ some c) (hc : w.heap[c]? = some x) : w'.heap[c]? = some x := by
  rw [hg.block c (sizeAt hc) (fun e => hn e.symm)]; exact hc
theorem push_close {w w1 : World} {B sb g cap : Nat} {now turn : Int} {v : Value} {l : List Ent} {x : Ent} (R : Rep w B sb now turn v l) (hl : l.length < 16) (X : Obj)
    (hgrow : (w.alloc X).drew.grownBy w1 v.ownBlock) (hown : w1.ownsRow B 58 3 (.slice (some ⟨g, 0, none⟩) (l.length + 1) cap) (l.length + 1) (flat l ++ [.int .i64 x.1, .int .i64 x.2.1, .int .i64 x.2.2])) (hat : v.ownBlock = some g ∨ g = w.heap.size + 1) :
    (∃ v', Rep (w1.setCell ⟨sb, 2, none⟩ (.slice (some ⟨g, 0, none⟩) (l.length + 1) cap)) B sb now turn v' (l ++ [x]) ∧ (v'.ownBlock = v.ownBlock ∨ ∃ g, v'.ownBlock = some g ∧ w.heap.size ≤ g)) ∧ Fr (Foot sb v) w (w1.setCell ⟨sb, 2, none⟩ (.slice (some ⟨g, 0, none⟩) (l.length + 1) cap)) := by
  have hs := sizeAt R.blk
  have ng : g ≠ sb := by
    rcases hat with h | h
    · intro e; exact R.ne (by rw [h, e])
    · omega
  have b1 := own_grown (sb := sb) (now := now) (turn := turn) (l := l) (B := B) hgrow R.ne (drew_heap (alloc_old X R.blk))
  have O1 := (Only.refl b1).set (j := 2) (.slice (some ⟨g, 0, none⟩) (l.length + 1) cap)
  have F : Fr (Foot sb v) w w1 := by
    have f0 : Fr (fun _ => False) w (w.alloc X).drew := ⟨rfl, rfl, rfl, by simp, fun k hk _ => (MapKept.heap_alloc w X).2 k hk⟩
    exact (f0.mono (T := Foot sb v) fun k hk _ => hk.elim).trans (Fr.of_grown hgrow) fun k hk _ => .inr hk.symm
  have hw : own w1 B (.slice (some ⟨g, 0, none⟩) (l.length + 1) cap) (l ++ [x]) := by
    unfold own
    rw [flat_append, List.length_append]
    exact hown
  refine ⟨⟨_, ⟨O1.at_, (Fr.of_only O1).own hw fun g' e hs' => ng (by simp [Value.ownBlock] at e; omega), fun e => ng (by simpa [Value.ownBlock] using e), R.le, by simp; omega⟩, ?_⟩, ?_⟩
  · rcases hat with h | h
    · exact .inl h.symm
    · exact .inr ⟨g, rfl, by omega⟩
  · exact F.trans (Fr.of_only O1) fun k hk _ => .inl hk
theorem assert58 (x1 x2 x3 : Int) (w : World) : (Instr.typeAssert (.iface 58 (.agg #[.int .i64 x1, .int .i64 x2, .int .i64 x3])) 20 58 false).run Try.prog w = .ok (.agg #[.int .i64 x1, .int .i64 x2, .int .i64 x3]) w := by kernel_rfl
set_option maxHeartbeats 8000000 in
theorem qpush_any {w : World} {B sb : Nat} {now turn : Int} {v : Value} {l : List Ent} (h : Rep w B sb now turn v l) (hl : l.length < 16) (x1 x2 x3 : Int) :
    Calls Try.prog 49 #[.pointer (some ⟨sb, 2, none⟩), .iface 58 (.agg #[.int .i64 x1, .int .i64 x2, .int .i64 x3])] w fun e w' => e = .returned (.tuple #[]) ∧ (∃ v', Rep w' B sb now turn v' (l ++ [(x1, x2, x3)]) ∧ (v'.ownBlock = v.ownBlock ∨ ∃ g, v'.ownBlock = some g ∧ w.heap.size ≤ g)) ∧ Fr (Foot sb v) w w' := by
  obtain ⟨i0, hi, hz0, hz1, hz2⟩ := info_parts info58
  have sz := sizeAt h.blk
  have C2 : w.cell? ⟨sb, 2, none⟩ = some v := cellsAt h.blk 2
  have F2 := freeAt h.blk 2
  have R := Lib.hid h
  have hO : (w.alloc (.cells #[.int .i64 x1, .int .i64 x2, .int .i64 x3] 58)).ownsRow B 58 3 v l.length (flat l) := h.own.alloc _
  have hN := alloc_new w (.cells #[.int .i64 x1, .int .i64 x2, .int .i64 x3] 58)
  have hlt : B ≤ w.heap.size := by have := h.le; omega
  have O := Lib.hid hO
  have N := Lib.hid hN
  have Z0 := Lib.hid hz0
  have Z1 := Lib.hid hz1
  have Z2 := Lib.hid hz2
  have HI := Lib.hid hi
  have mx : l.length + 1 ≤ maxLen := by unfold maxLen; omega
  have MX := Lib.hid mx
  clear h hO hN hz0 hz1 hz2 hi mx
  have TA := assert58 x1 x2 x3
  have A1 := alloc_old (.cells #[.int .i64 x1, .int .i64 x2, .int .i64 x3] 58) R.out.blk
  have K1 := Lib.hid (cellsAt (drew_heap A1) 2)
  have K2 := Lib.hid (freeAt (drew_heap A1) 2)
  clear A1
  go_enter Try.func49, Try.ntmps49
  go_region_law (refine step_append_lies _ (by rfl) _ _ _ (by rfl) B 58 i0 _ 3 24 Try.underlying52 HI.out Z0.out Z1.out Z2.out rfl (by decide) v l.length (flat l) (by rfl) (by exact O.out) ⟨w.heap.size, 0, none⟩ 1 1 [.int .i64 x1, .int .i64 x2, .int .i64 x3] (by rfl) rfl (World.news_of_block (by exact N.out)) (by simp [Value.oneCell']) (by decide) MX.out (by omega) (by simp; omega) (w.heap.size + 1) (by simp) ?_; intro g cap w1 hown1 hgrow hat hlt1; have S1 := (hgrow.cell_far ⟨sb, 2, none⟩ (by simp; omega) (fun e => R.out.ne e.symm)).trans K1.out; have S2 := (hgrow.frozen_far ⟨sb, 2, none⟩ (by simp; omega) (fun e => R.out.ne e.symm)).trans K2.out)
  all_goals go_end0
  all_goals exact ⟨rfl, push_close R.out hl (.cells #[.int .i64 x1, .int .i64 x2, .int .i64 x3] 58) hgrow hown1 hat⟩
end Go.Proofs.Ytkgjikdkidjpjaa.Sb
