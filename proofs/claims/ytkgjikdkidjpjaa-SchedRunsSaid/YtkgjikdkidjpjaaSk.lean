/- Clocks that are none, and awake. -/
import Derived.Test.YtkgjikdkidjpjaaSf
namespace Go.Proofs.Ytkgjikdkidjpjaa.Sk
set_option linter.unusedVariables false
set_option linter.unusedSimpArgs false
open Go.RowKit Go.Proofs.Ytkgjikdkidjpjaa.Wk Go.Proofs.Ytkgjikdkidjpjaa.Sp Go.Proofs.Ytkgjikdkidjpjaa.Sa Go.Proofs.Ytkgjikdkidjpjaa.Sb Go.Proofs.Ytkgjikdkidjpjaa.Sc Go.Proofs.Ytkgjikdkidjpjaa.Sd Go.Proofs.Ytkgjikdkidjpjaa.Se Go.Proofs.Ytkgjikdkidjpjaa.Sf

/-- Block k holds o, and is none of the clock's. -/
structure Kept (w : World) (sb : Nat) (v : Value) (k : Nat) (o : Obj) : Prop where
  at_ : w.heap[k]? = some o
  far : ¬ Foot sb v k
theorem Kept.new {w : World} {B sb : Nat} {now turn : Int} {v : Value} {L : List Ent} (h : St w B sb now turn v L) (o : Obj) : Kept (w.alloc o) sb v w.heap.size o :=
  ⟨alloc_new w o, fun f => by
    rcases f with e | e
    · have := h.lt; omega
    · have := (h.own_lt e).2; omega⟩
theorem Kept.step {w w' : World} {sb : Nat} {v v' : Value} {k : Nat} {o : Obj} (h : Kept w sb v k o) (s : Step w sb v w' v') : Kept w' sb v' k o :=
  ⟨s.fr.keep h.at_ h.far, fun f => by
    rcases f with e | e
    · exact h.far (.inl e)
    · rcases s.own with q | ⟨g, q, hg⟩
      · exact h.far (.inr (by rw [← q]; exact e))
      · rw [q] at e; cases e; have := sizeAt h.at_; omega⟩
theorem Kept.below {w w' : World} {sb : Nat} {v : Value} {k : Nat} {o : Obj} (h : Kept w sb v k o) (hb : Below w.heap.size w w') : Kept w' sb v k o := ⟨keep hb h.at_, h.far⟩
theorem bl (w : World) (o : Obj) : Below w.heap.size w (w.alloc o) := (Below.refl _ _).alloc (Nat.le_refl _) _
theorem bd (w : World) : Below w.heap.size w w.drew := below_d1 (Below.refl _ _)
/-! ### a clock that is none -/
theorem now_nil (w : World) : Calls Try.prog 13 #[.pointer none] w fun e w' => e = .returned (.int .i64 0) ∧ w = w' := by
  go_enter Try.func13, Try.ntmps13
  go_wp2
  go_ret
  exact ⟨rfl, rfl⟩
theorem len_nil (w : World) : Calls Try.prog 11 #[.pointer none] w fun e w' => e = .returned (.int .i64 0) ∧ w = w' := by
  go_enter Try.func11, Try.ntmps11
  go_wp2
  go_ret
  exact ⟨rfl, rfl⟩
theorem pass_nil (n : Int) (w : World) : Calls Try.prog 12 #[.pointer none, .int .i64 n] w fun e w' => e = .returned (.int .i64 1) ∧ w = w' := by
  go_enter Try.func12, Try.ntmps12
  go_wp2
  go_ret
  exact ⟨rfl, rfl⟩
theorem cancel_nil (n : Int) (w : World) : Calls Try.prog 15 #[.pointer none, .int .i64 n] w fun e w' => e = .returned (.int .i64 0) ∧ w = w' := by
  go_enter Try.func15, Try.ntmps15
  go_wp2
  go_ret
  exact ⟨rfl, rfl⟩
theorem next_nil (w : World) : Calls Try.prog 20 #[.pointer none] w fun e w' => e = .returned (.tuple #[.int .i64 0, .bool false]) ∧ w = w' := by
  go_enter Try.func20, Try.ntmps20
  go_wp2
  go_ret2
  exact ⟨rfl, rfl⟩
theorem add_nil (a k : Int) (w : World) : Calls Try.prog 10 #[.pointer none, .agg #[.int .i64 a, .int .i64 k]] w fun e w' => e = .returned (.int .i64 1) ∧ Below w.heap.size w w' := by
  go_enter Try.func10, Try.ntmps10
  go_wp2
  go_ret
  exact ⟨rfl, bl _ _⟩
theorem due_nil (w : World) : Calls Try.prog 14 #[.pointer none] w fun e w' => e = .returned (.tuple #[.agg #[.int .i64 0, .int .i64 0], .bool false]) ∧ Below w.heap.size w w' := by
  go_enter Try.func14, Try.ntmps14
  go_wp2
  go_quiet (fail)
  go_wp2
  exact bodyPost_ret (v := .tuple #[.agg #[.int .i64 0, .int .i64 0], .bool false]) (by simp [results, Try.results14, go_sem]) rfl ⟨rfl, ((below_dn ((Below.refl _ _).alloc (Nat.le_refl _) _) _).setCell (by simp) _).setCell (by simp) _⟩
set_option maxHeartbeats 16000000 in
theorem awake_any (w : World) : Calls Try.prog 8 #[] w fun e w' => e = .returned (.bool true) ∧ Below w.heap.size w w' := by
  go_enter Try.func8, Try.ntmps8
  go_wp2_with fail
  refine (new_any _).mono ?_
  rintro e w1 ⟨rfl, rfl⟩
  have S := st_new w w.heap.size (Nat.le_refl _)
  have hb := bl w (.cells #[.int .i64 0, .int .i64 0, .slice none 0 0] 54)
  generalize w.alloc (.cells #[.int .i64 0, .int .i64 0, .slice none 0 0] 54) = w1 at *
  obtain ⟨sb, hsb⟩ : ∃ sb, w.heap.size = sb := ⟨_, rfl⟩
  have S : St w1 w.heap.size sb 0 0 (.slice none 0 0) [] := by rw [← hsb]; exact S
  rw [hsb]
  have HSB := Lib.hid hsb
  clear hsb
  have SH := Lib.hid S
  have HB := Lib.hid hb
  clear S hb
  go_wp2_with fail
  refine (add_ok SH.out 9 1 (by unfold bad; omega) (by decide) (by decide)).mono ?_
  rintro e w2 ⟨rfl, v2, S2, T2⟩
  have HB2 := Lib.hid (SH.out.bel T2 HB.out)
  have S2H := Lib.hid S2
  clear SH HB S2 T2
  obtain ⟨SH, HB⟩ := And.intro S2H HB2
  clear S2H HB2
  go_wp2_with fail
  refine (add_ok SH.out 5 2 (by unfold bad; omega) (by decide) (by decide)).mono ?_
  rintro e w2 ⟨rfl, v2, S2, T2⟩
  have HB2 := Lib.hid (SH.out.bel T2 HB.out)
  have S2H := Lib.hid S2
  clear SH HB S2 T2
  obtain ⟨SH, HB⟩ := And.intro S2H HB2
  clear S2H HB2
  go_wp2_with fail
  refine (add_ok SH.out 5 0 (by unfold bad; omega) (by decide) (by decide)).mono ?_
  rintro e w2 ⟨rfl, v2, S2, T2⟩
  have HB2 := Lib.hid (SH.out.bel T2 HB.out)
  have S2H := Lib.hid S2
  clear SH HB S2 T2
  obtain ⟨SH, HB⟩ := And.intro S2H HB2
  clear S2H HB2
  have S0 := SH.out
  simp only [List.nil_append, List.cons_append, Int.zero_add, Int.reduceAdd] at S0
  have SH := Lib.hid S0
  clear S0
  go_wp2_with fail
  refine (due_later SH.out (5, 0, 2) (by unfold isMin; decide) (by decide)).mono ?_
  rintro e w3 ⟨rfl, hb3⟩
  have S3 := (SH.out.below hb3).below (bl w3 (.cells #[.int .i64 0, .int .i64 0] 28))
  have HB3 := below_then (below_then HB.out hb3 HB.out.size) (bl w3 (.cells #[.int .i64 0, .int .i64 0] 28)) (below_then HB.out hb3 HB.out.size).size
  have SH := Lib.hid S3
  have HB := Lib.hid HB3
  clear S3 HB3 hb3
  go_wp2_with fail
  generalize w3.alloc (.cells #[.int .i64 0, .int .i64 0] 28) = w4 at *
  refine (pass_ok SH.out 9 (by decide) (by decide)).mono ?_
  rintro e w5 ⟨rfl, S5, T5⟩
  have HB5 := SH.out.bel T5 HB.out
  have SH := Lib.hid S5
  have HB := Lib.hid HB5
  clear S5 T5 HB5
  go_wp2_with fail
  refine (due_some SH.out (5, 0, 2) (by unfold isMin; decide) (by decide)).mono ?_
  rintro e w6 ⟨rfl, v6, S6, T6⟩
  have HB6 := SH.out.bel T6 HB.out
  have HB7 := below_then HB6 (bl w6 (.cells #[.int .i64 5, .int .i64 0] 28)) HB6.size
  have K0' := Lib.hid (Kept.new S6 (.cells #[.int .i64 5, .int .i64 0] 28))
  have S7 := S6.below (bl w6 (.cells #[.int .i64 5, .int .i64 0] 28))
  have SH := Lib.hid S7
  have HB := Lib.hid HB7
  clear S6 S7 T6 HB6 HB7
  go_wp2_with fail
  generalize w6.alloc (.cells #[.int .i64 5, .int .i64 0] 28) = u0 at *
  generalize w6.heap.size = a0 at *
  have K0 := K0'
  clear K0'
  refine (due_some SH.out (5, 2, 1) (by unfold isMin; decide) (by decide)).mono ?_
  rintro e w6 ⟨rfl, v6, S6, T6⟩
  have HB6 := SH.out.bel T6 HB.out
  have HB7 := below_then HB6 (bl w6 (.cells #[.int .i64 5, .int .i64 2] 28)) HB6.size
  have K0' := Lib.hid ((K0.out.step T6).below (bl w6 (.cells #[.int .i64 5, .int .i64 2] 28)))
  clear K0
  have K1' := Lib.hid (Kept.new S6 (.cells #[.int .i64 5, .int .i64 2] 28))
  have S7 := S6.below (bl w6 (.cells #[.int .i64 5, .int .i64 2] 28))
  have SH := Lib.hid S7
  have HB := Lib.hid HB7
  clear S6 S7 T6 HB6 HB7
  go_wp2_with fail
  generalize w6.alloc (.cells #[.int .i64 5, .int .i64 2] 28) = u1 at *
  generalize w6.heap.size = a1 at *
  have K0 := K0'
  clear K0'
  have K1 := K1'
  clear K1'
  refine (due_some SH.out (9, 1, 0) (by unfold isMin; decide) (by decide)).mono ?_
  rintro e w6 ⟨rfl, v6, S6, T6⟩
  have HB6 := SH.out.bel T6 HB.out
  have HB7 := below_then HB6 (bl w6 (.cells #[.int .i64 9, .int .i64 1] 28)) HB6.size
  have K0' := Lib.hid ((K0.out.step T6).below (bl w6 (.cells #[.int .i64 9, .int .i64 1] 28)))
  clear K0
  have K1' := Lib.hid ((K1.out.step T6).below (bl w6 (.cells #[.int .i64 9, .int .i64 1] 28)))
  clear K1
  have K2' := Lib.hid (Kept.new S6 (.cells #[.int .i64 9, .int .i64 1] 28))
  have S7 := S6.below (bl w6 (.cells #[.int .i64 9, .int .i64 1] 28))
  have SH := Lib.hid S7
  have HB := Lib.hid HB7
  clear S6 S7 T6 HB6 HB7
  go_upto_region 8 with fail
  generalize w6.alloc (.cells #[.int .i64 9, .int .i64 1] 28) = u2 at *
  generalize w6.heap.size = a2 at *
  have K0 := K0'
  clear K0'
  have K1 := K1'
  clear K1'
  have K2 := K2'
  clear K2'
  have N := Lib.hid (now_any SH.out)
  have C0 := cellsAt K0.out.at_ 1
  have C1 := cellsAt K1.out.at_ 1
  have C2 := cellsAt K2.out.at_ 1
  go_wp2_with fail
  refine N.out.mono ?_
  rintro e w9 ⟨rfl, rfl⟩
  go_wp2_with fail
  go_ret
  exact ⟨rfl, HB.out⟩
end Go.Proofs.Ytkgjikdkidjpjaa.Sk
