/- What lay in a world lies unturned in a later one, but for some blocks; slices of rows of any make. No program here. -/
import Derived.Test.YtbpeppmajmhmiaaWk
import Derived.Laws.AppendOwn
import Derived.Maps.AppendAt
import Derived.RegionTactic
namespace Go.Proofs.Ytbpeppmajmhmiaa.Fq
set_option linter.unusedVariables false
set_option linter.unusedSimpArgs false
open Go.RowKit Go.Proofs.Ytbpeppmajmhmiaa.Wk

theorem bl (w : World) (o : Obj) : Below w.heap.size w (w.alloc o) := (Below.refl _ _).alloc (Nat.le_refl _) _
theorem bl2 {w w' : World} (h : Below w.heap.size w w') (o : Obj) : Below w.heap.size w (w'.alloc o) := h.alloc h.size o
theorem bd (w : World) : Below w.heap.size w w.drew := below_d1 (Below.refl _ _)
/-- What lay in w lies unturned in w', but for the blocks in S. -/
structure Fr (S : Nat → Prop) (w w' : World) : Prop where
  os : w'.os = w.os
  tape : w'.tape = w.tape
  output : w'.output = w.output
  size : w.heap.size ≤ w'.heap.size
  block : ∀ k, k < w.heap.size → ¬ S k → w'.heap[k]? = w.heap[k]?
theorem Fr.refl (S : Nat → Prop) (w : World) : Fr S w w := ⟨rfl, rfl, rfl, Nat.le_refl _, fun _ _ _ => rfl⟩
theorem Fr.trans {S T : Nat → Prop} {w w' w'' : World} (h : Fr S w w') (h' : Fr T w' w'') (hT : ∀ k, T k → k < w.heap.size → S k) : Fr S w w'' :=
  ⟨h'.os.trans h.os, h'.tape.trans h.tape, h'.output.trans h.output, Nat.le_trans h.size h'.size, fun k hk hn => (h'.block k (Nat.lt_of_lt_of_le hk h.size) fun t => hn (hT k t hk)).trans (h.block k hk hn)⟩
theorem Fr.mono {S T : Nat → Prop} {w w' : World} (h : Fr S w w') (hT : ∀ k, S k → k < w.heap.size → T k) : Fr T w w' := ⟨h.os, h.tape, h.output, h.size, fun k hk hn => h.block k hk fun s => hn (hT k s hk)⟩
theorem Fr.of_below {S : Nat → Prop} {w w' : World} (h : Below w.heap.size w w') : Fr S w w' := ⟨h.os, h.tape, h.output, h.size, fun k hk _ => h.block k hk⟩
theorem Fr.of_grown {w w' : World} {r : Option Nat} (h : w.grownBy w' r) : Fr (fun k => r = some k) w w' := ⟨h.os, h.tape, h.output, h.size, fun k hk hn => h.block k hk fun e => hn e.symm⟩
theorem Fr.of_only {w w' : World} {b : Nat} {o : Obj} (h : Only b o w w') : Fr (fun k => k = b) w w' := ⟨h.os, h.tape, h.output, h.size, fun k hk hn => h.block k hk hn⟩
theorem Fr.below {S : Nat → Prop} {B : Nat} {w W W' : World} (h : Below B w W) (h' : Fr S W W') (hS : ∀ k, S k → B ≤ k) (hB : B ≤ W.heap.size) : Below B w W' :=
  ⟨h'.os.trans h.os, h'.tape.trans h.tape, h'.output.trans h.output, Nat.le_trans h.size h'.size, fun k hk => (h'.block k (by omega) fun s => by have := hS k s; omega).trans (h.block k hk)⟩
theorem Fr.keep {S : Nat → Prop} {w w' : World} {c : Nat} {x : Obj} (h : Fr S w w') (hc : w.heap[c]? = some x) (hn : ¬ S c) : w'.heap[c]? = some x := by
  rw [h.block c (sizeAt hc) hn]; exact hc
/-! ### rows -/
section
variable {α : Type} (enc : α → List Value)
def flat : List α → List Value
  | [] => []
  | e :: r => enc e ++ flat r
variable {enc}
theorem flat_length {s : Nat} (he : ∀ a, (enc a).length = s) : ∀ l, (flat enc l).length = l.length * s
  | [] => by simp [flat]
  | e :: r => by simp [flat, flat_length he r, he, Nat.add_mul]; omega
theorem flat_append : ∀ l k, flat enc (l ++ k) = flat enc l ++ flat enc k
  | [], _ => rfl
  | e :: r, k => by simp [flat, flat_append r k]
theorem flat_at {s : Nat} (he : ∀ a, (enc a).length = s) : ∀ (l : List α) (i j : Nat) (hi : i < l.length), j < s → (flat enc l)[i * s + j]? = (enc l[i])[j]?
  | [], i, j, h, _ => absurd h (by simp)
  | e :: r, 0, j, _, hj => by
    show (enc e ++ flat enc r)[0 * s + j]? = _
    rw [List.getElem?_append_left (by rw [he]; omega)]
    simp
  | e :: r, i + 1, j, h, hj => by
    have := flat_at he r i j (by simpa using h) hj
    show (enc e ++ flat enc r)[(i + 1) * s + j]? = _
    rw [List.getElem?_append_right (by rw [he, Nat.add_mul]; omega), he, show (i + 1) * s + j - s = i * s + j by rw [Nat.add_mul]; omega, this]
    simp
theorem flat_one (h : ∀ a u, u ∈ enc a → u.oneCell' = true) : ∀ (l : List α) (u : Value), u ∈ flat enc l → u.oneCell' = true
  | [], u, m => by simp [flat] at m
  | e :: r, u, m => by
    simp only [flat, List.mem_append] at m
    rcases m with m | m
    · exact h e u m
    · exact flat_one h r u m
end
/-- v is a slice of the rows l, in a block of its own. -/
def own {α : Type} (enc : α → List Value) (e : TypeId) (s : Nat) (w : World) (B : Nat) (v : Value) (l : List α) : Prop := w.ownsRow B e s v l.length (flat enc l)
section
variable {α : Type} {enc : α → List Value} {e : TypeId} {s : Nat} {w : World} {B : Nat} {v : Value} {l : List α}
theorem own_some (h : own enc e s w B v l) (hl : 0 < l.length) :
    ∃ g cap cur, v = .slice (some ⟨g, 0, none⟩) l.length cap ∧ B ≤ g ∧ w.heap[g]? = some (.cells cur e (0, 0)) ∧ l.length ≤ cap ∧ cap ≤ maxLen ∧ cur.size = cap * s ∧ cur.toList.take (l.length * s) = flat enc l := by
  rcases h.2 with ⟨_, q⟩ | h
  · omega
  · exact h
theorem own_form (h : own enc e s w B v l) : ∃ a c, v = .slice a l.length c := by
  rcases h.2 with ⟨q, f⟩ | ⟨g, cap, cur, q, _⟩
  · rw [f]; exact ⟨_, _, q⟩
  · exact ⟨_, _, q⟩
theorem rows_form {n : Nat} {xs : List Value} (h : w.ownsRow B e s v n xs) : ∃ a c, v = .slice a n c := by
  rcases h.2 with ⟨rfl, rfl⟩ | ⟨g, cap, cur, rfl, _⟩
  · exact ⟨_, _, rfl⟩
  · exact ⟨_, _, rfl⟩
theorem own_lt (h : own enc e s w B v l) {g : Nat} (hg : v.ownBlock = some g) : B ≤ g ∧ g < w.heap.size := World.ownsRow.lt h g hg
theorem own_keep {S : Nat → Prop} {w' : World} (h : Fr S w w') (ho : own enc e s w B v l) (hn : ∀ g, v.ownBlock = some g → ¬ S g) : own enc e s w' B v l := by
  refine ⟨ho.1, ?_⟩
  rcases ho.2 with q | ⟨g, cap, cur, rfl, hb, hg, rest⟩
  · exact .inl q
  · exact .inr ⟨g, cap, cur, rfl, hb, h.keep hg (hn g rfl), rest⟩
theorem own_cell (he : ∀ a, (enc a).length = s) {g : Nat} {cur : Array Value} (hg : w.heap[g]? = some (.cells cur e (0, 0))) (ht : cur.toList.take (l.length * s) = flat enc l) {i j : Nat} (hi : i < l.length) (hj : j < s) :
    w.cell? ⟨g, i * s + j, none⟩ = (enc l[i])[j]? := by
  have lt : i * s + j < l.length * s := by
    have : (i + 1) * s ≤ l.length * s := Nat.mul_le_mul_right s hi
    rw [Nat.add_mul] at this
    omega
  rw [cellsAt hg, ← flat_at he l i j hi hj, ← ht, List.getElem?_take, if_pos lt]
  simp
end
/-- append of what lies at an address, none at all being welcome, at a step of a region that draws. -/
theorem step_append_any {P : Program} {w : World} {ops : Array Oper} {o : Oper} {a : Act} {K : Act → World → Prop} {Q : Exit → Act → World → Prop} {E : Prop} (hgd : o.guard = none) (s x : Operand) (t : TypeId)
    (ho : o.op = .call { callee := .builtin .append, args := #[s, x], argTypes := #[t, t] })
    (base : Nat) (e : TypeId) (i : TypeInfo) (z : Value) (size bytes : Nat) (ht : P.underlying t = some (.slice e)) (hi : P.info? e = some i) (hz : i.zero = some z)
    (hsize : i.size = size) (hby : i.bytes = bytes) (hzs : z.cells.size = size) (hsz : 0 < size)
    (v : Value) (n : Nat) (xs : List Value) (hs : a.eval s = v) (hown : w.ownsRow base e size v n xs)
    (ad : Addr) (m c : Nat) (news : List Value) (hx : a.eval x = .slice (some ad) m c) (hl : news.length = m * size) (hnews : ∀ j u, news[j]? = some u → w.cell? (ad.add j) = some u) (h1 : ∀ u ∈ news, u.oneCell' = true)
    (h63 : n + m ≤ maxLen) (hbytes : (n + m) * bytes ≤ 140737488355328) (hbase : base ≤ w.heap.size) (H : Nat) (hH : w.heap.size = H)
    (h : ∀ v' w', w'.ownsRow base e size v' (n + m) (xs ++ news) → w.grownBy w' v.ownBlock → (v'.ownBlock = v.ownBlock ∨ v'.ownBlock = some H) → K (a.put o.dst v') w') :
    if Region.wanted o (yielded ops a.tmps) = true then Oper.wp P o a w K Q else E := by
  have hw : Region.wanted o (yielded ops a.tmps) = true := by simp [Region.wanted, hgd]
  rw [if_pos hw]
  obtain ⟨v', w', hr, h2, h3, _, h5⟩ := run_append_own_at (P := P) w base t o.type e i z size bytes ht hi hz hsize hby hzs hsz v n xs hown ad m c news hl hnews h1 h63 hbytes hbase
  unfold Oper.wp execOp
  simp only [ho, resolve, invoke, builtin, Sem.run_bind, Sem.run_pure, Result.andThen_ok, List.map_toArray, List.map_cons, List.map_nil, hs, hx, hr]
  exact h v' w' h2 h3 (by rw [← hH]; exact h5)
end Go.Proofs.Ytbpeppmajmhmiaa.Fq
