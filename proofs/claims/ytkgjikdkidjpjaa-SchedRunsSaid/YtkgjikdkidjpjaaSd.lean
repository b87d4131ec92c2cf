/- The clock's calls, walked: Add, Due, Next. -/
import Derived.Test.YtkgjikdkidjpjaaSc
import Derived.Deep.DeepCutAuto
namespace Go.Proofs.Ytkgjikdkidjpjaa.Sd
set_option linter.unusedVariables false
set_option linter.unusedSimpArgs false
open Go.RowKit Go.Proofs.Ytkgjikdkidjpjaa.Wk Go.Proofs.Ytkgjikdkidjpjaa.Sp Go.Proofs.Ytkgjikdkidjpjaa.Sa Go.Proofs.Ytkgjikdkidjpjaa.Sb Go.Proofs.Ytkgjikdkidjpjaa.Sh Go.Proofs.Ytkgjikdkidjpjaa.Si Go.Proofs.Ytkgjikdkidjpjaa.Sc

def bad (a k : Int) : Prop := a < 0 ∨ 2199023255552 < a ∨ k < 0
theorem add_bad (sb : Nat) (a k : Int) (hx : bad a k) (w : World) : Calls Try.prog 10 #[.pointer (some ⟨sb, 0, none⟩), .agg #[.int .i64 a, .int .i64 k]] w fun e w' => e = .returned (.int .i64 1) ∧ Below w.heap.size w w' := by
  by_cases h0 : a < 0
  · have t : decide (a < 0) = true := by simpa using h0
    clear hx
    go_enter Try.func10, Try.ntmps10
    go_wp2
    go_ret
    exact ⟨rfl, (Below.refl _ _).alloc (Nat.le_refl _) _⟩
  · have t : decide (a < 0) = false := by simpa using h0
    by_cases h1 : 2199023255552 < a
    · have t1 : decide (2199023255552 < a) = true := by simpa using h1
      clear hx
      go_enter Try.func10, Try.ntmps10
      go_wp2
      go_ret
      exact ⟨rfl, (Below.refl _ _).alloc (Nat.le_refl _) _⟩
    · have t1 : decide (2199023255552 < a) = false := by simpa using h1
      have h2 : k < 0 := by unfold bad at hx; omega
      have t2 : decide (k < 0) = true := by simpa using h2
      clear hx
      go_enter Try.func10, Try.ntmps10
      go_wp2
      go_ret
      exact ⟨rfl, (Below.refl _ _).alloc (Nat.le_refl _) _⟩
theorem not_bad {a k : Int} (h : ¬ bad a k) : decide (a < 0) = false ∧ decide (2199023255552 < a) = false ∧ decide (k < 0) = false := by
  unfold bad at h
  exact ⟨by simp; omega, by simp; omega, by simp; omega⟩
theorem add_full {w : World} {B sb : Nat} {now turn : Int} {v : Value} {L : List Ent} (h : St w B sb now turn v L) (a k : Int) (hx : ¬ bad a k) (hl : 16 ≤ L.length) :
    Calls Try.prog 10 #[.pointer (some ⟨sb, 0, none⟩), .agg #[.int .i64 a, .int .i64 k]] w fun e w' => e = .returned (.int .i64 70) ∧ Below w.heap.size w w' := by
  obtain ⟨l, R, p, H⟩ := h.rep
  obtain ⟨q, c, rfl⟩ := slice_form R.own
  have C : w.cell? ⟨sb, 2, none⟩ = some (.slice q l.length c) := cellsAt R.blk 2
  have sz := sizeAt R.blk
  have e := p.length_eq
  have b : 16 ≤ l.length := by omega
  have b' := R.len
  obtain ⟨t0, t1, t2⟩ := not_bad hx
  have t3 : decide ((16 : Int) ≤ (l.length : Int)) = true := by simp; omega
  clear h R p H e hx hl
  go_enter Try.func10, Try.ntmps10
  go_wp2
  go_ret
  exact ⟨rfl, (Below.refl _ _).alloc (Nat.le_refl _) _⟩
theorem inv_add {turn : Int} {L : List Ent} (h : Inv turn L) (t0 : 0 ≤ turn) {a k : Int} (hx : ¬ bad a k) : Inv (turn + 1) (L ++ [(a, k, turn)]) := by
  refine ⟨?_, fun e he => ?_, fun e he => ?_⟩
  · rw [List.pairwise_append]
    refine ⟨h.sorted, by simp, fun x hx y hy => ?_⟩
    have : y = (a, k, turn) := by simpa using hy
    subst this
    exact (h.old x hx).2
  · rcases List.mem_append.1 he with g | g
    · have := h.old e g; omega
    · have : e = (a, k, turn) := by simpa using g
      subst this
      dsimp only; omega
  · rcases List.mem_append.1 he with g | g
    · exact h.rng e g
    · have : e = (a, k, turn) := by simpa using g
      subst this
      unfold bad at hx
      dsimp only; omega
def AddEnd (w : World) (B sb : Nat) (now turn : Int) (v : Value) (L : List Ent) (x : Ent) (w' : World) : Prop := ∃ v', St w' B sb now (turn + 1) v' (L ++ [x]) ∧ Step w sb v w' v'
set_option maxHeartbeats 4000000 in
theorem add_ok {w : World} {B sb : Nat} {now turn : Int} {v : Value} {L : List Ent} (h : St w B sb now turn v L) (a k : Int) (hx : ¬ bad a k) (hl : L.length < 16) (ht : turn < 4611686018427387904) :
    Calls Try.prog 10 #[.pointer (some ⟨sb, 0, none⟩), .agg #[.int .i64 a, .int .i64 k]] w fun e w' => e = .returned (.int .i64 0) ∧ AddEnd w B sb now turn v L (a, k, turn) w' := by
  have hb1 : Below w.heap.size w (w.alloc (.cells #[.int .i64 a, .int .i64 k] 28)).drew := below_d1 ((Below.refl _ _).alloc (Nat.le_refl _) _)
  have h1 := h.below hb1
  obtain ⟨l, R, p, H⟩ := h1.rep
  have R0 := R
  obtain ⟨l', R', p', H'⟩ := h.rep
  obtain ⟨q, c, rfl⟩ := slice_form R'.own
  have sz := sizeAt R'.blk
  have e' := p'.length_eq
  have C : w.cell? ⟨sb, 2, none⟩ = some (.slice q l'.length c) := cellsAt R'.blk 2
  have C1 : w.cell? ⟨sb, 1, none⟩ = some (.int .i64 turn) := cellsAt R'.blk 1
  have b : l'.length < 16 := by omega
  have b2 : l.length < 16 := by have := p.length_eq; omega
  obtain ⟨t0, t1, t2⟩ := not_bad hx
  have t3 : decide ((16 : Int) ≤ (l'.length : Int)) = false := by simp; omega
  have P := Lib.hid (hpush_any R b2 H a k turn)
  have IH := Lib.hid (inv_add h.inv h.t0 hx)
  have T0 := h.t0
  have HH := Lib.hid h
  have PH := Lib.hid p
  have S1 := Lib.hid (Step.below (sb := sb) (v := .slice q l'.length c) hb1)
  have K1 := cellsAt (alloc_old (.cells #[.int .i64 a, .int .i64 k] 28) R'.blk) 1
  have K2 := cellsAt (alloc_new w (.cells #[.int .i64 a, .int .i64 k] 28)) 0
  have K3 := cellsAt (alloc_new w (.cells #[.int .i64 a, .int .i64 k] 28)) 1
  clear h h1 R R0 H R' p' H' e' hb1 p hx hl
  go_enter Try.func10, Try.ntmps10
  go_wp2
  generalize w.alloc (.cells #[.int .i64 a, .int .i64 k] 28) = w0 at *
  go_still_tail 11, (by kernel_rfl)
  change wpList _ _ _ _ _ (World.drew _)
  go_wp2_with fail
  refine P.out.mono ?_
  rintro e w2 ⟨rfl, v2, l2, R2, p2, H2, o2, f2⟩
  have C := cellsAt R2.blk
  have F := freeAt R2.blk
  have O := (Only.refl R2.blk).set (j := 1) (.int .i64 (turn + 1))
  have S2 : Hid (St (w2.setCell ⟨sb, 1, none⟩ (.int .i64 (turn + 1))) B sb now (turn + 1) v2 (L ++ [(a, k, turn)])) := Lib.hid
    ⟨⟨l2, ⟨O.at_, (Fr.of_only O).own R2.own (fun g e k => R2.ne (by rw [e, k])), R2.ne, R2.le, R2.len⟩, p2.trans (PH.out.append_right _), H2⟩, IH.out, HH.out.n0, HH.out.n1, by omega⟩
  have S3 : Hid (Step _ sb _ (w2.setCell ⟨sb, 1, none⟩ (.int .i64 (turn + 1))) v2) := Lib.hid (S1.out.trans ⟨f2.trans (Fr.of_only O) fun k e _ => .inl e, o2⟩)
  have sz2 := sizeAt R2.blk
  clear R2 p2 H2 o2 f2 O
  go_wp2
  go_ret
  exact ⟨rfl, v2, S2.out, S3.out⟩
/-! ### Next, Due -/
theorem next_none {w : World} {B sb : Nat} {now turn : Int} {v : Value} (h : St w B sb now turn v []) : Calls Try.prog 20 #[.pointer (some ⟨sb, 0, none⟩)] w fun e w' => e = .returned (.tuple #[.int .i64 0, .bool false]) ∧ w = w' := by
  obtain ⟨l, R, p, H⟩ := h.rep
  obtain rfl := List.Perm.eq_nil p
  obtain ⟨q, c, rfl⟩ := slice_form R.own
  have C : w.cell? ⟨sb, 2, none⟩ = some (.slice q 0 c) := cellsAt R.blk 2
  clear h R p H
  go_enter Try.func20, Try.ntmps20
  go_wp2
  go_ret2
  exact ⟨rfl, rfl⟩
theorem next_some {w : World} {B sb : Nat} {now turn : Int} {v : Value} {L : List Ent} (h : St w B sb now turn v L) (m : Ent) (hm : isMin L m) :
    Calls Try.prog 20 #[.pointer (some ⟨sb, 0, none⟩)] w fun e w' => e = .returned (.tuple #[.int .i64 m.1, .bool true]) ∧ w = w' := by
  obtain ⟨l, R, p, H⟩ := h.rep
  have l0 : 0 < l.length := by rw [p.length_eq]; exact List.length_pos_of_mem hm.1
  have e := isMin_unique (heap_isMin p H l0) hm
  obtain ⟨g, cap, cur, rfl, hB, hg, hn, hM, hs, ht⟩ := own_some R.own l0
  have a0 := (own_cell hg ht l0).1
  rw [e] at a0
  have C : w.cell? ⟨sb, 2, none⟩ = some (.slice (some ⟨g, 0, none⟩) l.length cap) := cellsAt R.blk 2
  have A0 : w.cell? ⟨g, 0, none⟩ = some (.int .i64 m.1) := by simpa using a0
  have b := R.len
  have z : ((l.length : Int) == 0) = false := by
    have : (l.length : Int) ≠ 0 := by omega
    simpa using this
  clear h R p H e hg ht hs hB hn hM hm a0
  go_enter Try.func20, Try.ntmps20
  go_wp2
  go_ret2
  exact ⟨rfl, rfl⟩
end Go.Proofs.Ytkgjikdkidjpjaa.Sd
