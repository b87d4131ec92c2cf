/- The tape, walked: value, Load, Store. -/
import Derived.Test.YtbpeppmajmhmiaaDe
import Derived.Test.YtbpeppmajmhmiaaFq
import Derived.Deep.RegionLaw
import Derived.Deep.AppendLies
namespace Go.Proofs.Ytbpeppmajmhmiaa.Df
set_option linter.unusedVariables false
set_option linter.unusedSimpArgs false
open Go.RowKit Go.Proofs.Ytbpeppmajmhmiaa.Bt Go.Proofs.Ytbpeppmajmhmiaa.Wk Go.Proofs.Ytbpeppmajmhmiaa.Sg Go.Proofs.Ytbpeppmajmhmiaa.Dp Go.Proofs.Ytbpeppmajmhmiaa.Fq

structure Pl where
  ch : Int
  reads : Bool
  frm : Int
  to_ : Int
  wid : Int
  cls : Int
def encP (p : Pl) : List Value := [.int .i64 p.ch, .bool p.reads, .int .u32 p.frm, .int .u32 p.to_, .int .i64 p.wid, .int .i64 p.cls]
def encW (x : Int) : List Value := [.int .u32 x]
def val (a : Int) : Int := Go.bits .xor .u32 (a * 2654435761 % 4294967296) (a / 128)
theorem info36 : (Try.prog.info? 36).map (fun i => (i.zero, i.size, i.bytes)) = some (some (.agg #[.int .i64 0, .bool false, .int .u32 0, .int .u32 0, .int .i64 0, .int .i64 0]), 6, 40) := by kernel_rfl
theorem info34 : (Try.prog.info? 34).map (fun i => (i.zero, i.size, i.bytes)) = some (some (.int .u32 0), 1, 4) := by kernel_rfl
theorem info_parts {t : TypeId} {z : Value} {s b : Nat} (h : (Try.prog.info? t).map (fun i => (i.zero, i.size, i.bytes)) = some (some z, s, b)) : ∃ i, Try.prog.info? t = some i ∧ i.zero = some z ∧ i.size = s ∧ i.bytes = b := by
  cases q : Try.prog.info? t with
  | none => rw [q] at h; cases h
  | some i => rw [q] at h; injection h with h; injection h with h1 h2; injection h2 with h2 h3; exact ⟨i, rfl, h1, h2, h3⟩
/-- The tape. -/
structure Tp (w : World) (B tb : Nat) (pv wv : Value) (ps : List Pl) (ws : List Int) : Prop where
  blk : w.heap[tb]? = some (.cells #[pv, wv] 29 (0, 0))
  op : own encP 36 6 w B pv ps
  ow : own encW 34 1 w B wv ws
  np : pv.ownBlock ≠ some tb
  nw : wv.ownBlock ≠ some tb
  npw : ∀ g, pv.ownBlock = some g → wv.ownBlock ≠ some g
  le : B ≤ tb
/-- The blocks of the tape. -/
def Foot (tb : Nat) (pv wv : Value) (k : Nat) : Prop := k = tb ∨ pv.ownBlock = some k ∨ wv.ownBlock = some k
theorem Tp.keep {S : Nat → Prop} {w w' : World} {B tb : Nat} {pv wv : Value} {ps : List Pl} {ws : List Int} (h : Tp w B tb pv wv ps ws) (hf : Fr S w w') (hn : ∀ k, Foot tb pv wv k → ¬ S k) : Tp w' B tb pv wv ps ws :=
  ⟨hf.keep h.blk (hn tb (.inl rfl)), own_keep hf h.op fun g hg => hn g (.inr (.inl hg)), own_keep hf h.ow fun g hg => hn g (.inr (.inr hg)), h.np, h.nw, h.npw, h.le⟩
theorem Tp.lt {w : World} {B tb : Nat} {pv wv : Value} {ps : List Pl} {ws : List Int} (h : Tp w B tb pv wv ps ws) : tb < w.heap.size := sizeAt h.blk
theorem value_any (a : Int) (h0 : 0 ≤ a) (h1 : a < 4294967296) (w : World) : Calls Try.prog 12 #[.int .u32 a] w fun e w' => e = .returned (.int .u32 (val a)) ∧ w = w' := by
  unfold val
  go_enter Try.func12, Try.ntmps12
  go_wp2
  go_ret
  exact ⟨rfl, rfl⟩
/-- A new slice stands in a block of its own or of the world's end. -/
def Moves (w : World) (v v' : Value) : Prop := v'.ownBlock = v.ownBlock ∨ ∃ g, v'.ownBlock = some g ∧ w.heap.size ≤ g
/-- Behind a call of the tape. -/
structure TEnd (w w' : World) (B tb : Nat) (pv wv pv' wv' : Value) (ps : List Pl) (ws : List Int) : Prop where
  tape : Tp w' B tb pv' wv' ps ws
  mp : Moves w pv pv'
  mw : Moves w wv wv'
  fr : Fr (Foot tb pv wv) w w'
theorem load_close {w W w1 : World} {B tb : Nat} {pv wv pv' : Value} {ps : List Pl} {ws : List Int} {p : Pl} {H : Nat} (R : Tp w B tb pv wv ps ws) (hb : Below w.heap.size w W) (hH : w.heap.size ≤ H)
    (hgrow : W.grownBy w1 pv.ownBlock) (hown : w1.ownsRow B 36 6 pv' (ps.length + 1) (flat encP ps ++ encP p)) (hat : pv'.ownBlock = pv.ownBlock ∨ pv'.ownBlock = some H) :
    TEnd w (w1.setCell ⟨tb, 0, none⟩ pv') B tb pv wv pv' wv (ps ++ [p]) ws := by
  have hs := R.lt
  have FG : Fr (fun k => pv.ownBlock = some k) w w1 := ((Fr.of_below hb : Fr (fun _ => False) w W).mono fun k h _ => h.elim).trans (Fr.of_grown hgrow) fun k hk _ => hk
  have b1 := FG.keep R.blk R.np
  have O1 := (Only.refl b1).set (j := 0) pv'
  have F1 := Fr.of_only O1
  have W1 : own encW 34 1 w1 B wv ws := own_keep FG R.ow fun g hg h => R.npw g h hg
  have nt : pv'.ownBlock ≠ some tb := by
    rcases hat with e | e
    · rw [e]; exact R.np
    · rw [e]; intro q; cases q; omega
  have P1 : own encP 36 6 w1 B pv' (ps ++ [p]) := by
    unfold own; rw [List.length_append, flat_append, show flat encP [p] = encP p by simp [flat]]; exact hown
  refine ⟨⟨O1.at_, own_keep F1 P1 fun g hg h => nt (by rw [hg, h]), own_keep F1 W1 fun g hg h => R.nw (by rw [hg, h]), nt, R.nw, ?_, R.le⟩, ?_, .inl rfl, ?_⟩
  · intro g hg hw
    rcases hat with e | e
    · exact R.npw g (by rw [← e, hg]) hw
    · have := own_lt R.ow hw
      rw [e] at hg; cases hg; omega
  · rcases hat with e | e
    · exact .inl e
    · exact .inr ⟨H, e, hH⟩
  · exact (FG.mono fun k hk _ => .inr (.inl hk)).trans F1 fun k hk _ => .inl hk
theorem wrote_close {w W w1 : World} {B tb : Nat} {pv wv wv' : Value} {ps : List Pl} {ws : List Int} {x : Int} {H : Nat} (R : Tp w B tb pv wv ps ws) (hb : Below w.heap.size w W) (hH : w.heap.size ≤ H)
    (hgrow : W.grownBy w1 wv.ownBlock) (hown : w1.ownsRow B 34 1 wv' (ws.length + 1) (flat encW ws ++ encW x)) (hat : wv'.ownBlock = wv.ownBlock ∨ wv'.ownBlock = some H) :
    TEnd w (w1.setCell ⟨tb, 1, none⟩ wv') B tb pv wv pv wv' ps (ws ++ [x]) := by
  have hs := R.lt
  have FG : Fr (fun k => wv.ownBlock = some k) w w1 := ((Fr.of_below hb : Fr (fun _ => False) w W).mono fun k h _ => h.elim).trans (Fr.of_grown hgrow) fun k hk _ => hk
  have b1 := FG.keep R.blk R.nw
  have O1 := (Only.refl b1).set (j := 1) wv'
  have F1 := Fr.of_only O1
  have P1 : own encP 36 6 w1 B pv ps := own_keep FG R.op fun g hg h => R.npw g hg h
  have nt : wv'.ownBlock ≠ some tb := by
    rcases hat with e | e
    · rw [e]; exact R.nw
    · rw [e]; intro q; cases q; omega
  have W1 : own encW 34 1 w1 B wv' (ws ++ [x]) := by
    unfold own; rw [List.length_append, flat_append, show flat encW [x] = encW x by simp [flat]]; exact hown
  refine ⟨⟨O1.at_, own_keep F1 P1 fun g hg h => R.np (by rw [hg, h]), own_keep F1 W1 fun g hg h => nt (by rw [hg, h]), R.np, nt, ?_, R.le⟩, .inl rfl, ?_, ?_⟩
  · intro g hg hw
    rcases hat with e | e
    · exact R.npw g hg (by rw [← e, hw])
    · have := own_lt R.op hg
      rw [e] at hw; cases hw; omega
  · rcases hat with e | e
    · exact .inl e
    · exact .inr ⟨H, e, hH⟩
  · exact (FG.mono fun k hk _ => .inr (.inr hk)).trans F1 fun k hk _ => .inl hk
set_option maxHeartbeats 8000000 in
theorem load_any {w : World} {B tb : Nat} {pv wv : Value} {ps : List Pl} {ws : List Int} (h : Tp w B tb pv wv ps ws) (hl : ps.length ≤ 100000) (ch a wd cl : Int) (a0 : 0 ≤ a) (a1 : a < 4294967296) :
    Calls Try.prog 50 #[.pointer (some ⟨tb, 0, none⟩), .int .i64 ch, .int .u32 a, .int .i64 wd, .int .i64 cl] w fun e w' => e = .returned (.int .u32 (val a)) ∧ ∃ pv', TEnd w w' B tb pv wv pv' wv (ps ++ [⟨ch, true, a, 0, wd, cl⟩]) ws := by
  obtain ⟨i0, hi, hz0, hz1, hz2⟩ := info_parts info36
  obtain ⟨q, c, hq⟩ := own_form h.op
  have V := value_any a a0 a1
  generalize hp : (⟨ch, true, a, 0, wd, cl⟩ : Pl) = p
  have hX : encP p = [.int .i64 ch, .bool true, .int .u32 a, .int .u32 0, .int .i64 wd, .int .i64 cl] := by rw [← hp]; rfl
  have RX := Lib.hid h
  have HP := Lib.hid hp
  have HX := Lib.hid hX
  subst hq
  have O := Lib.hid (h.op.alloc (.cells #[.int .i64 ch, .bool true, .int .u32 a, .int .u32 0, .int .i64 wd, .int .i64 cl] 36))
  have N := Lib.hid (alloc_new w (.cells #[.int .i64 ch, .bool true, .int .u32 a, .int .u32 0, .int .i64 wd, .int .i64 cl] 36))
  have sz := h.lt
  have C : w.cell? ⟨tb, 0, none⟩ = some (.slice q ps.length c) := cellsAt h.blk 0
  have Fz := freeAt h.blk 0
  have hlt : B ≤ w.heap.size := by have := h.le; omega
  have A2 := alloc_old (.cells #[.int .i64 ch, .bool true, .int .u32 a, .int .u32 0, .int .i64 wd, .int .i64 cl] 36) h.blk
  have P1 := Lib.hid (cellsAt A2 0)
  have P2 := Lib.hid (freeAt A2 0)
  have Z0 := Lib.hid hz0
  have Z1 := Lib.hid hz1
  have Z2 := Lib.hid hz2
  have HI := Lib.hid hi
  have mx : ps.length + 1 ≤ maxLen := by unfold maxLen; omega
  have MX := Lib.hid mx
  have VH := Lib.hid V
  clear A2 hz0 hz1 hz2 hi mx h V hp hX
  go_enter Try.func50, Try.ntmps50
  go_wp2_with (first | (at_builtin; refine wpList_append_own_at _ rfl _ _ 26 rfl B 36 i0 _ 6 40 Try.underlying26 HI.out Z0.out Z1.out Z2.out rfl (by decide) (.slice q ps.length c) ps.length (flat encP ps) rfl O.out ⟨w.heap.size, 0, none⟩ 1 1 [.int .i64 ch, .bool true, .int .u32 a, .int .u32 0, .int .i64 wd, .int .i64 cl] rfl rfl (World.news_of_block N.out) (by simp [Value.oneCell']) MX.out (by omega) (by simp; omega) ?_; intro v' w1 hown1 hgrow hnil hat; obtain ⟨q', c', rfl⟩ := rows_form hown1; have S1 := (hgrow.cell_far ⟨tb, 0, none⟩ (by simp; omega) (fun e => RX.out.np e.symm)).trans P1.out; have S2 := (hgrow.frozen_far ⟨tb, 0, none⟩ (by simp; omega) (fun e => RX.out.np e.symm)).trans P2.out; have E := Lib.hid (load_close (p := p) (H := w.heap.size + 1) RX.out (bl w _) (Nat.le_succ _) hgrow (by rw [HX.out]; exact hown1) (by simpa using hat)); clear hown1 hgrow hat hnil C Fz) | ((with_reducible refine (VH.out _).mono ?_); rintro e w2 ⟨rfl, rfl⟩))
  go_ret
  exact ⟨rfl, _, E.out⟩
theorem TEnd.refl {w : World} {B tb : Nat} {pv wv : Value} {ps : List Pl} {ws : List Int} (h : Tp w B tb pv wv ps ws) : TEnd w w B tb pv wv pv wv ps ws := ⟨h, .inl rfl, .inl rfl, Fr.refl _ _⟩
theorem moves_trans {w w1 : World} {v v1 v2 : Value} (h : Moves w v v1) (h' : Moves w1 v1 v2) (hs : w.heap.size ≤ w1.heap.size) : Moves w v v2 := by
  rcases h' with e | ⟨g, e, hg⟩
  · rcases h with f | ⟨g, f, hg⟩
    · exact .inl (e.trans f)
    · exact .inr ⟨g, e.trans f, hg⟩
  · exact .inr ⟨g, e, Nat.le_trans hs hg⟩
theorem moves_old {w : World} {v v' : Value} {k : Nat} (h : Moves w v v') (e : v'.ownBlock = some k) (hk : k < w.heap.size) : v.ownBlock = some k := by
  rcases h with f | ⟨g, f, hg⟩
  · rw [← f, e]
  · rw [e] at f; cases f; omega
theorem TEnd.trans {w w1 w2 : World} {B tb : Nat} {pv wv pv1 wv1 pv2 wv2 : Value} {ps1 ps2 : List Pl} {ws1 ws2 : List Int} (h : TEnd w w1 B tb pv wv pv1 wv1 ps1 ws1) (h' : TEnd w1 w2 B tb pv1 wv1 pv2 wv2 ps2 ws2) : TEnd w w2 B tb pv wv pv2 wv2 ps2 ws2 := by
  refine ⟨h'.tape, moves_trans h.mp h'.mp h.fr.size, moves_trans h.mw h'.mw h.fr.size, h.fr.trans h'.fr ?_⟩
  rintro k (e | e | e) hk
  · exact .inl e
  · exact .inr (.inl (moves_old h.mp e hk))
  · exact .inr (.inr (moves_old h.mw e hk))
theorem take_set {α : Type} (l : List α) (n i : Nat) (x : α) : (l.set i x).take n = (l.take n).set i x := by
  apply List.ext_getElem?
  intro k
  simp only [List.getElem?_take, List.getElem?_set, List.length_take]
  by_cases h : k < n
  · simp only [h, if_true]
    by_cases e : i = k
    · subst e
      by_cases f : i < l.length
      · rw [if_pos rfl, if_pos f, if_pos rfl, if_pos (by omega)]
      · rw [if_pos rfl, if_neg f, if_pos rfl, if_neg (by omega)]
    · rw [if_neg e, if_neg e]
  · simp [h]
    omega
/-- The last plan is told its end. -/
theorem to_close {w : World} {B tb g cap n : Nat} {wv : Value} {qs : List Pl} {p : Pl} {ws : List Int} {a : Int} (R : Tp w B tb (.slice (some ⟨g, 0, none⟩) (n + 1) cap) wv (qs ++ [p]) ws) (hn : qs.length = n) :
    TEnd w (w.setCell ⟨g, n * 6 + 3, none⟩ (.int .u32 a)) B tb (.slice (some ⟨g, 0, none⟩) (n + 1) cap) wv (.slice (some ⟨g, 0, none⟩) (n + 1) cap) wv (qs ++ [{ p with to_ := a }]) ws := by
  obtain ⟨g', cap', cur, e, hB, hg, hc, hm, hs, ht⟩ := own_some R.op (by simp)
  have hl : (qs ++ [p]).length = n + 1 := by simp [hn]
  rw [hl] at e hc ht
  obtain ⟨rfl, rfl⟩ : g = g' ∧ cap = cap' := by injection e with e1 e2 e3; injection e1 with e1; injection e1 with e1; exact ⟨e1, e3⟩
  have O1 := (Only.refl hg).set (j := n * 6 + 3) (.int .u32 a)
  have F1 := Fr.of_only O1
  have gt : g ≠ tb := fun e => R.np (by rw [← e]; rfl)
  have hl' : (qs ++ [({ p with to_ := a } : Pl)]).length = n + 1 := by simp [hn]
  refine ⟨⟨F1.keep R.blk (fun e => gt e.symm), ?_, own_keep F1 R.ow fun k hk e => R.npw g rfl (by rw [hk, e]), R.np, R.nw, R.npw, R.le⟩, .inl rfl, .inl rfl, F1.mono fun k hk _ => .inr (.inl (by rw [hk]; rfl))⟩
  unfold own
  rw [hl']
  refine ⟨by rw [flat_length (s := 6) (fun _ => rfl), hl'], .inr ⟨g, cap, _, rfl, hB, O1.at_, hc, hm, by simp [hs], ?_⟩⟩
  rw [Array.toList_setIfInBounds, take_set, ht, flat_append, flat_append, List.set_append, if_neg (by rw [flat_length (s := 6) (fun _ => rfl)]; omega), flat_length (s := 6) (fun _ => rfl), hn, show n * 6 + 3 - n * 6 = 3 by omega]
  rfl
end Go.Proofs.Ytbpeppmajmhmiaa.Df
