/- The clock's calls, walked: Due, Cancel. -/
import Derived.Test.YtkgjikdkidjpjaaSd
namespace Go.Proofs.Ytkgjikdkidjpjaa.Se
set_option linter.unusedVariables false
set_option linter.unusedSimpArgs false
open Go.RowKit Go.Proofs.Ytkgjikdkidjpjaa.Wk Go.Proofs.Ytkgjikdkidjpjaa.Sp Go.Proofs.Ytkgjikdkidjpjaa.Sa Go.Proofs.Ytkgjikdkidjpjaa.Sb Go.Proofs.Ytkgjikdkidjpjaa.Sh Go.Proofs.Ytkgjikdkidjpjaa.Si Go.Proofs.Ytkgjikdkidjpjaa.Sc Go.Proofs.Ytkgjikdkidjpjaa.Sd

theorem due_none {w : World} {B sb : Nat} {now turn : Int} {v : Value} (h : St w B sb now turn v []) : Calls Try.prog 14 #[.pointer (some ⟨sb, 0, none⟩)] w fun e w' => e = .returned (.tuple #[.agg #[.int .i64 0, .int .i64 0], .bool false]) ∧ Below w.heap.size w w' := by
  obtain ⟨l, R, p, H⟩ := h.rep
  obtain rfl := List.Perm.eq_nil p
  obtain ⟨q, c, rfl⟩ := slice_form R.own
  have C : w.cell? ⟨sb, 2, none⟩ = some (.slice q 0 c) := cellsAt R.blk 2
  have sz := sizeAt R.blk
  clear h R p H
  go_enter Try.func14, Try.ntmps14
  go_wp2
  go_quiet (fail)
  go_wp2
  exact bodyPost_ret (v := .tuple #[.agg #[.int .i64 0, .int .i64 0], .bool false]) (by simp [results, Try.results14, go_sem]) rfl ⟨rfl, ((below_dn ((Below.refl _ _).alloc (Nat.le_refl _) _) _).setCell (by simp) _).setCell (by simp) _⟩
set_option maxHeartbeats 2000000 in
theorem due_later {w : World} {B sb : Nat} {now turn : Int} {v : Value} {L : List Ent} (h : St w B sb now turn v L) (m : Ent) (hm : isMin L m) (hn : now < m.1) :
    Calls Try.prog 14 #[.pointer (some ⟨sb, 0, none⟩)] w fun e w' => e = .returned (.tuple #[.agg #[.int .i64 0, .int .i64 0], .bool false]) ∧ Below w.heap.size w w' := by
  obtain ⟨l, R, p, H⟩ := h.rep
  have l0 : 0 < l.length := by rw [p.length_eq]; exact List.length_pos_of_mem hm.1
  have e := isMin_unique (heap_isMin p H l0) hm
  obtain ⟨g, cap, cur, rfl, hB, hg, hnn, hM, hs, ht⟩ := own_some R.own l0
  have a0 := (own_cell hg ht l0).1
  rw [e] at a0
  have C : w.cell? ⟨sb, 2, none⟩ = some (.slice (some ⟨g, 0, none⟩) l.length cap) := cellsAt R.blk 2
  have C0 : w.cell? ⟨sb, 0, none⟩ = some (.int .i64 now) := cellsAt R.blk 0
  have A0 : w.cell? ⟨g, 0, none⟩ = some (.int .i64 m.1) := by simpa using a0
  have b := R.len
  have z : ((l.length : Int) == 0) = false := by
    have : (l.length : Int) ≠ 0 := by omega
    simpa using this
  have t : decide (now < m.1) = true := by simpa using hn
  have sz := sizeAt R.blk
  have sg := sizeAt hg
  clear h R p H e hg ht hs hB hnn hM hm a0
  go_enter Try.func14, Try.ntmps14
  go_wp2
  go_quiet (fail)
  go_wp2
  exact bodyPost_ret (v := .tuple #[.agg #[.int .i64 0, .int .i64 0], .bool false]) (by simp [results, Try.results14, go_sem]) rfl ⟨rfl, ((below_dn ((Below.refl _ _).alloc (Nat.le_refl _) _) _).setCell (by simp) _).setCell (by simp) _⟩
def DueEnd (w : World) (B sb : Nat) (now turn : Int) (v : Value) (L : List Ent) (w' : World) : Prop := ∃ v', St w' B sb now turn v' L ∧ Step w sb v w' v'
theorem inv_erase {turn : Int} {L : List Ent} (h : Inv turn L) (m : Ent) : Inv turn (L.erase m) :=
  ⟨h.sorted.sublist List.erase_sublist, fun e he => h.old e (List.mem_of_mem_erase he), fun e he => h.rng e (List.mem_of_mem_erase he)⟩
def DuePop (w : World) (B sb : Nat) (now turn : Int) (v : Value) (L : List Ent) (w' : World) : Prop := ∃ v', St w' B sb now turn v' L ∧ v'.ownBlock = v.ownBlock ∧ Fr (Foot sb v) w w' ∧ w'.heap[w.heap.size]? = some (.cells #[.int .i64 0, .int .i64 0] 28 (0, 0))
set_option maxHeartbeats 4000000 in
theorem due_some {w : World} {B sb : Nat} {now turn : Int} {v : Value} {L : List Ent} (h : St w B sb now turn v L) (m : Ent) (hm : isMin L m) (hn : m.1 ≤ now) :
    Calls Try.prog 14 #[.pointer (some ⟨sb, 0, none⟩)] w fun e w' => e = .returned (.tuple #[.agg #[.int .i64 m.1, .int .i64 m.2.1], .bool true]) ∧ DueEnd w B sb now turn v (L.erase m) w' := by
  have P0 : ∀ q, Hid (Calls Try.prog 23 #[.iface 56 (.pointer (some ⟨sb, 2, none⟩))] ((w.alloc (.cells #[.int .i64 0, .int .i64 0] 28)).drewN q) fun e w' => e = .returned (.iface 58 (.agg (cs m).toArray)) ∧ DuePop w B sb now turn v (L.erase m) w') := fun q => Lib.hid (by
    have hb1 : Below w.heap.size w ((w.alloc (.cells #[.int .i64 0, .int .i64 0] 28)).drewN q) := below_dn ((Below.refl _ _).alloc (Nat.le_refl _) _) q
    have h1 := h.below hb1
    obtain ⟨l, R, p, H⟩ := h1.rep
    have l0 : 0 < l.length := by rw [p.length_eq]; exact List.length_pos_of_mem hm.1
    have e := isMin_unique (heap_isMin p H l0) hm
    obtain ⟨n, hl⟩ : ∃ n, l.length = n + 1 := ⟨l.length - 1, by omega⟩
    have P := hpop_any R n hl H
    rw [e] at P
    refine P.mono ?_
    rintro e w' ⟨he, v', l', R', p', H', hv, F⟩
    refine ⟨he, v', ⟨⟨l', R', ?_, H'⟩, inv_erase h.inv m, h.n0, h.n1, h.t0⟩, hv, (Fr.of_below hb1).trans F (fun k hk _ => hk), F.keep (drewN_heap q (alloc_new w _)) ?_⟩
    · exact (List.cons_perm_iff_perm_erase.1 (p'.trans p)).2
    · rintro (f | f)
      · have := h.lt; omega
      · have := (h.own_lt f).2; omega)
  have V0 := Lib.hid (show ∀ g, v.ownBlock = some g → g ≠ w.heap.size from fun g hg e => by have := (h.own_lt hg).2; omega)
  obtain ⟨l, R, p, H⟩ := h.rep
  have l0 : 0 < l.length := by rw [p.length_eq]; exact List.length_pos_of_mem hm.1
  have e := isMin_unique (heap_isMin p H l0) hm
  obtain ⟨g, cap, cur, rfl, hB, hg, hnn, hM, hs, ht⟩ := own_some R.own l0
  have a0 := (own_cell hg ht l0).1
  rw [e] at a0
  have C : w.cell? ⟨sb, 2, none⟩ = some (.slice (some ⟨g, 0, none⟩) l.length cap) := cellsAt R.blk 2
  have C0 : w.cell? ⟨sb, 0, none⟩ = some (.int .i64 now) := cellsAt R.blk 0
  have A0 : w.cell? ⟨g, 0, none⟩ = some (.int .i64 m.1) := by simpa using a0
  have b := R.len
  have z : ((l.length : Int) == 0) = false := by
    have : (l.length : Int) ≠ 0 := by omega
    simpa using this
  have t : decide (now < m.1) = false := by simpa using hn
  have sz := sizeAt R.blk
  have sg := sizeAt hg
  have TA := assert58 m.1 m.2.1 m.2.2
  clear h R p H e hg ht hs hB hnn hM hm a0
  go_enter Try.func14, Try.ntmps14
  go_wp2
  go_quiet (fail)
  go_wp2_with fail
  refine (P0 _).out.mono ?_
  rintro e w2 ⟨rfl, v2, S2, hv, F2, A2⟩
  unfold cs
  have O := (((Only.refl A2).set (j := 0) (.int .i64 m.1)).set (j := 1) (.int .i64 m.2.1)).alloc (.cells #[.int .i64 m.1, .int .i64 m.2.1, .int .i64 m.2.2] 58)
  have CO := Lib.hid (cellsAt O.at_)
  have S3 := Lib.hid (S2.keep (Fr.of_only O) (by omega) (fun g hg => V0.out g (by rw [← hv]; exact hg)))
  have F3 := Lib.hid (show Step w sb _ _ v2 from ⟨F2.trans (Fr.of_only O) fun k hk hlt => by omega, .inl hv⟩)
  have Cr := cellsAt A2
  have Fr := freeAt A2
  have Sr := sizeAt A2
  clear S2 hv F2 A2 O P0
  go_wp2_with fail
  have CO := CO.out
  exact bodyPost_ret (v := .tuple #[.agg #[.int .i64 m.1, .int .i64 m.2.1], .bool true]) (by simp [results, Try.results14, go_sem, CO]) rfl ⟨rfl, v2, S3.out, F3.out⟩
end Go.Proofs.Ytkgjikdkidjpjaa.Se
