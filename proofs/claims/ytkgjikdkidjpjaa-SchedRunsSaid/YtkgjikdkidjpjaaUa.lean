/- The document's clock, walked: first, Next, Pass, Add. -/
import Derived.Test.YtkgjikdkidjpjaaSk
import Derived.Test.YtkgjikdkidjpjaaUp
namespace Go.Proofs.Ytkgjikdkidjpjaa.Ua
set_option linter.unusedVariables false
set_option linter.unusedSimpArgs false
open Go.RowKit Go.Proofs.Ytkgjikdkidjpjaa.Wk Go.Proofs.Ytkgjikdkidjpjaa.Sp Go.Proofs.Ytkgjikdkidjpjaa.Sa Go.Proofs.Ytkgjikdkidjpjaa.Sb Go.Proofs.Ytkgjikdkidjpjaa.Sc Go.Proofs.Ytkgjikdkidjpjaa.Sd Go.Proofs.Ytkgjikdkidjpjaa.Sk Go.Proofs.Ytkgjikdkidjpjaa.Up

def cs2 (e : Ev) : List Value := [.int .i64 e.1, .int .i64 e.2]
def flat2 : List Ev → List Value
  | [] => []
  | e :: r => .int .i64 e.1 :: .int .i64 e.2 :: flat2 r
theorem flat2_length : ∀ l, (flat2 l).length = l.length * 2
  | [] => rfl
  | e :: r => by simp [flat2, flat2_length r]; omega
theorem flat2_append : ∀ l k, flat2 (l ++ k) = flat2 l ++ flat2 k
  | [], _ => rfl
  | e :: r, k => by simp [flat2, flat2_append r k]
theorem flat2_at : ∀ (l : List Ev) (i j : Nat), i < l.length → j < 2 → (flat2 l)[i * 2 + j]? = (cs2 (at2 l i))[j]?
  | [], i, j, h, _ => absurd h (by simp)
  | e :: r, 0, j, _, hj => by
    have : j = 0 ∨ j = 1 := by omega
    rcases this with rfl | rfl <;> rfl
  | e :: r, i + 1, j, h, hj => by
    have := flat2_at r i j (by simpa using h) hj
    rw [show (i + 1) * 2 + j = i * 2 + j + 2 by omega]
    exact this
theorem flat2_take : ∀ (l : List Ev) (n : Nat), flat2 (l.take n) = (flat2 l).take (n * 2)
  | [], n => by simp [flat2]
  | e :: r, 0 => rfl
  | e :: r, n + 1 => by
    rw [show (n + 1) * 2 = n * 2 + 2 by omega]
    simp [flat2, flat2_take r n]
theorem flat2_drop : ∀ (l : List Ev) (n : Nat), flat2 (l.drop n) = (flat2 l).drop (n * 2)
  | [], n => by simp [flat2]
  | e :: r, 0 => by simp
  | e :: r, n + 1 => by
    rw [show (n + 1) * 2 = n * 2 + 2 by omega]
    simp [flat2, flat2_drop r n]
def own2 (w : World) (B : Nat) (v : Value) (l : List Ev) : Prop := w.ownsRow B 28 2 v l.length (flat2 l)
theorem own2_some {w : World} {B : Nat} {v : Value} {l : List Ev} (h : own2 w B v l) (hl : 0 < l.length) :
    ∃ g cap cur, v = .slice (some ⟨g, 0, none⟩) l.length cap ∧ B ≤ g ∧ w.heap[g]? = some (.cells cur 28 (0, 0)) ∧ l.length ≤ cap ∧ cap ≤ maxLen ∧ cur.size = cap * 2 ∧ cur.toList.take (l.length * 2) = flat2 l := by
  rcases h.2 with ⟨_, e⟩ | h
  · omega
  · exact h
theorem own2_cell {w : World} {g : Nat} {cur : Array Value} {l : List Ev} (hg : w.heap[g]? = some (.cells cur 28 (0, 0))) (ht : cur.toList.take (l.length * 2) = flat2 l) {i : Nat} (hi : i < l.length) :
    w.cell? ⟨g, i * 2, none⟩ = some (.int .i64 (at2 l i).1) ∧ w.cell? ⟨g, i * 2 + 1, none⟩ = some (.int .i64 (at2 l i).2) := by
  have c : ∀ j, j < 2 → w.cell? ⟨g, i * 2 + j, none⟩ = (cs2 (at2 l i))[j]? := fun j hj => by
    rw [cellsAt hg, ← flat2_at l i j hi hj, ← ht, List.getElem?_take, if_pos (by omega)]
    simp
  exact ⟨c 0 (by decide), c 1 (by decide)⟩
theorem slice2_form {w : World} {B : Nat} {v : Value} {l : List Ev} (h : own2 w B v l) : ∃ a c, v = .slice a l.length c := by
  rcases h.2 with ⟨e, f⟩ | ⟨g, cap, cur, e, _⟩
  · rw [f]; exact ⟨_, _, e⟩
  · exact ⟨_, _, e⟩
theorem Fr.own2 {S : Nat → Prop} {w w' : World} {B : Nat} {v : Value} {l : List Ev} (h : Fr S w w') (ho : own2 w B v l) (hn : ∀ g, v.ownBlock = some g → ¬ S g) : own2 w' B v l := by
  refine ⟨ho.1, ?_⟩
  rcases ho.2 with e | ⟨g, cap, cur, rfl, hb, hg, rest⟩
  · exact .inl e
  · exact .inr ⟨g, cap, cur, rfl, hb, h.keep hg (hn g rfl), rest⟩
theorem own2_lt {w : World} {B : Nat} {v : Value} {l : List Ev} (h : own2 w B v l) {g : Nat} (hg : v.ownBlock = some g) : B ≤ g ∧ g < w.heap.size := World.ownsRow.lt h g hg
/-- The document's clock. -/
structure RepM (w : World) (B mb : Nat) (now : Int) (v : Value) (E : List Ev) : Prop where
  blk : w.heap[mb]? = some (.cells #[.int .i64 now, v] 43 (0, 0))
  own : own2 w B v E
  ne : v.ownBlock ≠ some mb
  le : B ≤ mb
  len : E.length ≤ 16
theorem RepM.keep {S : Nat → Prop} {w w' : World} {B mb : Nat} {now : Int} {v : Value} {E : List Ev} (h : RepM w B mb now v E) (hf : Fr S w w') (h1 : ¬ S mb) (h2 : ∀ g, v.ownBlock = some g → ¬ S g) : RepM w' B mb now v E :=
  ⟨hf.keep h.blk h1, Fr.own2 hf h.own h2, h.ne, h.le, h.len⟩
theorem RepM.below {w w' : World} {B mb : Nat} {now : Int} {v : Value} {E : List Ev} (h : RepM w B mb now v E) (hb : Below w.heap.size w w') : RepM w' B mb now v E :=
  h.keep (Fr.of_below (S := fun _ => False) hb) (fun e => e) (fun _ _ e => e)
theorem RepM.lt {w : World} {B mb : Nat} {now : Int} {v : Value} {E : List Ev} (h : RepM w B mb now v E) : mb < w.heap.size := sizeAt h.blk
structure StepM (w : World) (mb : Nat) (v : Value) (w' : World) (v' : Value) : Prop where
  fr : Fr (Foot mb v) w w'
  own : ∀ g, v'.ownBlock = some g → v.ownBlock = some g ∨ w.heap.size ≤ g
theorem StepM.refl (w : World) (mb : Nat) (v : Value) : StepM w mb v w v := ⟨Fr.refl _ _, fun g h => .inl h⟩
theorem StepM.trans {w w' w'' : World} {mb : Nat} {v v' v'' : Value} (h : StepM w mb v w' v') (h' : StepM w' mb v' w'' v'') : StepM w mb v w'' v'' := by
  refine ⟨h.fr.trans h'.fr fun k hk hlt => ?_, fun g hg => ?_⟩
  · rcases hk with e | e
    · exact .inl e
    · rcases h.own k e with f | f
      · exact .inr f
      · omega
  · rcases h'.own g hg with f | f
    · exact h.own g f
    · exact .inr (Nat.le_trans h.fr.size f)
theorem StepM.below {w w' : World} {mb : Nat} {v : Value} (h : Below w.heap.size w w') : StepM w mb v w' v := ⟨Fr.of_below h, fun g h => .inl h⟩
theorem RepM.bel {w w' W : World} {B mb : Nat} {now : Int} {v v' : Value} {E : List Ev} (h : RepM w B mb now v E) (s : StepM w mb v w' v') (hb : Below B W w) : Below B W w' :=
  Fr.below hb s.fr (fun k hk => by
    rcases hk with e | e
    · rw [e]; exact h.le
    · exact (own2_lt h.own e).1) (by have := h.le; have := h.lt; omega)
/-! ### first -/
set_option maxHeartbeats 4000000 in
theorem first_any {w : World} {B mb : Nat} {now : Int} {v : Value} {E : List Ev} (h : RepM w B mb now v E) :
    Calls Try.prog 25 #[.pointer (some ⟨mb, 0, none⟩)] w fun e w' => e = .returned (.int .i64 (firstGo E E.length)) ∧ Below w.heap.size w w' := by
  have HH := Lib.hid h
  have n16 := h.len
  clear h
  go_enter Try.func25, Try.ntmps25
  go_wp2
  go_loopw [3, 4] (fun av iv wr => ∃ k : Nat, iv = .int .i64 k ∧ k ≤ E.length ∧ av = .int .i64 (firstGo E k) ∧ Below w.heap.size w wr) (fun _ iv _ => E.length - (intOf iv).toNat)
  case atStart => exact ⟨0, rfl, by omega, rfl, Below.refl _ _⟩
  case round =>
    obtain ⟨k, rfl, hk, rfl, hb⟩ := hrel
    have R := HH.out.below hb
    have sz := sizeAt R.blk
    by_cases hlt : k < E.length
    · obtain ⟨g, cap, cur, rfl, hB, hg, hn, hm, hs, ht⟩ := own2_some R.own (by omega)
      obtain ⟨a0, a1⟩ := own2_cell hg ht hlt
      have C : wr.cell? ⟨mb, 1, none⟩ = some (.slice (some ⟨g, 0, none⟩) E.length cap) := cellsAt R.blk 1
      have sg := sizeAt hg
      have fb := firstGo_bd E k
      have fs : firstGo E (k + 1) = if firstGo E k < 0 ∨ better (at2 E k) (at2 E (firstGo E k).toNat) then (k : Int) else firstGo E k := rfl
      obtain ⟨f, hf⟩ : ∃ f, firstGo E k = f := ⟨_, rfl⟩
      rw [hf] at fb fs ⊢
      have t : decide ((k : Int) < (E.length : Int)) = true := by simpa using hlt
      by_cases f0 : f < 0
      · have t0 : decide (f < 0) = true := by simpa using f0
        have FS := Lib.hid (show firstGo E (k + 1) = k by rw [fs, if_pos (.inl f0)])
        have HB := Lib.hid hb
        clear R hB hg hn hm hs ht fs hf hb f0
        generalize at2 E k = x at *
        obtain ⟨x1, x2⟩ := x
        dsimp only at *
        go_wp2
        go_quiet (fail)
        go_wp2
        go_roundw
        case rel => exact ⟨k + 1, by go_num, by omega, by rw [FS.out], below_dn (HB.out.alloc HB.out.size _) _⟩
        case measure => simp [intOf]; omega
      · obtain ⟨j, rfl⟩ := Int.eq_ofNat_of_zero_le (show 0 ≤ f by omega)
        rw [Int.toNat_natCast] at fs
        obtain ⟨b0, b1⟩ := own2_cell hg ht (show j < E.length by omega)
        have t0 : decide ((j : Int) < 0) = false := decide_eq_false (by omega)
        have jl : (j : Int) < (E.length : Int) := by omega
        have j0 : (0 : Int) ≤ (j : Int) := by omega
        have HB := Lib.hid hb
        have FS := Lib.hid fs
        clear R hB hg hn hm hs ht fs hf hb f0
        generalize at2 E k = x at *
        generalize at2 E j = y at *
        obtain ⟨x1, x2⟩ := x
        obtain ⟨y1, y2⟩ := y
        dsimp only at *
        by_cases c1 : x1 < y1
        · have t1 : decide (x1 < y1) = true := by simpa using c1
          have FT := Lib.hid (show firstGo E (k + 1) = k by rw [FS.out, if_pos (.inr (.inl c1))])
          clear FS
          go_wp2
          go_quiet (fail)
          go_wp2
          go_roundw
          case rel => exact ⟨k + 1, by go_num, by omega, by rw [FT.out], below_dn (HB.out.alloc HB.out.size _) _⟩
          case measure => simp [intOf]; omega
        · have t1 : decide (x1 < y1) = false := by simpa using c1
          by_cases c2 : x1 = y1
          · have t2 : (x1 == y1) = true := by simpa using c2
            by_cases c3 : x2 < y2
            · have t3 : decide (x2 < y2) = true := by simpa using c3
              have FT := Lib.hid (show firstGo E (k + 1) = k by rw [FS.out, if_pos (.inr (.inr ⟨c2, c3⟩))])
              clear FS c2
              go_wp2
              go_quiet (fail)
              go_wp2
              go_roundw
              case rel => exact ⟨k + 1, by go_num, by omega, by rw [FT.out], below_dn (HB.out.alloc HB.out.size _) _⟩
              case measure => simp [intOf]; omega
            · have t3 : decide (x2 < y2) = false := by simpa using c3
              have FT := Lib.hid (show firstGo E (k + 1) = j by rw [FS.out, if_neg (by unfold better; dsimp only; omega)])
              clear FS c2
              go_wp2
              go_quiet (fail)
              go_wp2
              go_roundw
              case rel => exact ⟨k + 1, by go_num, by omega, by rw [FT.out], below_dn (HB.out.alloc HB.out.size _) _⟩
              case measure => simp [intOf]; omega
          · have t2 : (x1 == y1) = false := by simpa using c2
            have FT := Lib.hid (show firstGo E (k + 1) = j by rw [FS.out, if_neg (by unfold better; dsimp only; omega)])
            clear FS
            go_wp2
            go_quiet (fail)
            go_wp2
            go_roundw
            case rel => exact ⟨k + 1, by go_num, by omega, by rw [FT.out], below_dn (HB.out.alloc HB.out.size _) _⟩
            case measure => simp [intOf]; omega
    · have hk' : k = E.length := by omega
      subst hk'
      obtain ⟨a, c, rfl⟩ := slice2_form R.own
      have C : wr.cell? ⟨mb, 1, none⟩ = some (.slice a E.length c) := cellsAt R.blk 1
      have t : decide ((E.length : Int) < (E.length : Int)) = false := by simp
      have HB := Lib.hid hb
      clear R hb
      go_wp2
      go_ret
      exact ⟨rfl, HB.out⟩
end Go.Proofs.Ytkgjikdkidjpjaa.Ua
