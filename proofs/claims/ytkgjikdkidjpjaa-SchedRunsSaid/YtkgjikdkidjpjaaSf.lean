/- The clock's calls, walked: Cancel. -/
import Derived.Test.YtkgjikdkidjpjaaSe
namespace Go.Proofs.Ytkgjikdkidjpjaa.Sf
set_option linter.unusedVariables false
set_option linter.unusedSimpArgs false
open Go.RowKit Go.Proofs.Ytkgjikdkidjpjaa.Wk Go.Proofs.Ytkgjikdkidjpjaa.Sp Go.Proofs.Ytkgjikdkidjpjaa.Sa Go.Proofs.Ytkgjikdkidjpjaa.Sb Go.Proofs.Ytkgjikdkidjpjaa.Sh Go.Proofs.Ytkgjikdkidjpjaa.Si Go.Proofs.Ytkgjikdkidjpjaa.Sc Go.Proofs.Ytkgjikdkidjpjaa.Sd Go.Proofs.Ytkgjikdkidjpjaa.Se

def other (kind : Int) (e : Ent) : Bool := !(e.2.1 == kind)
theorem filter_erase (p : Ent → Bool) (x : Ent) (hx : p x = false) : ∀ L : List Ent, (L.erase x).filter p = L.filter p
  | [] => rfl
  | y :: r => by
    rw [List.erase_cons]
    by_cases h : y == x
    · rw [if_pos h]
      have : y = x := by simpa using h
      subst this
      rw [List.filter_cons, if_neg (by simp [hx])]
    · rw [if_neg h, List.filter_cons, List.filter_cons, filter_erase p x hx r]
/-- What holds at the head of each round. -/
structure Going (w : World) (B sb : Nat) (now turn : Int) (v : Value) (L : List Ent) (kind : Int) (c i : Nat) (wr : World) (v1 : Value) (l1 L1 : List Ent) : Prop where
  rep : Rep wr B sb now turn v1 l1
  perm : l1.Perm L1
  heap : Heap l1 l1.length
  inv : Inv turn L1
  step : Step w sb v wr v1
  none_ : ∀ j, j < i → (at' l1 j).2.1 ≠ kind
  le : i ≤ l1.length
  filt : L1.filter (other kind) = L.filter (other kind)
  cnt : L1.length + c = L.length
def CancelEnd (w : World) (B sb : Nat) (now turn : Int) (v : Value) (L : List Ent) (kind : Int) (w' : World) : Prop := ∃ v', St w' B sb now turn v' (L.filter (other kind)) ∧ Step w sb v w' v'
set_option maxHeartbeats 8000000 in
theorem cancel_any {w : World} {B sb : Nat} {now turn : Int} {v : Value} {L : List Ent} (h : St w B sb now turn v L) (kind : Int) :
    Calls Try.prog 15 #[.pointer (some ⟨sb, 0, none⟩), .int .i64 kind] w fun e w' => e = .returned (.int .i64 ((L.length - (L.filter (other kind)).length : Nat) : Int)) ∧ CancelEnd w B sb now turn v L kind w' := by
  obtain ⟨l, R, p, H⟩ := h.rep
  have G : Going w B sb now turn v L kind 0 0 w v l L := ⟨R, p, H, h.inv, Step.refl _ _ _, fun j hj => absurd hj (by omega), Nat.zero_le _, rfl, rfl⟩
  have GH := Lib.hid G
  have HH := Lib.hid h
  have L16 := h.len
  clear h R p H G
  go_enter Try.func15, Try.ntmps15
  go_wp2
  go_loopw [5, 6] (fun cv iv wr => ∃ (c i : Nat) (v1 : Value) (l1 L1 : List Ent), cv = .int .i64 c ∧ iv = .int .i64 i ∧ Going w B sb now turn v L kind c i wr v1 l1 L1) (fun cv iv _ => (16 - (intOf cv).toNat) * 17 + (16 - (intOf iv).toNat))
  case atStart => exact ⟨0, 0, v, l, L, rfl, rfl, GH.out⟩
  case round =>
    obtain ⟨c, i, v1, l1, L1, rfl, rfl, G⟩ := hrel
    have l16 := G.rep.len
    have e1 := G.perm.length_eq
    have cn := G.cnt
    have ile := G.le
    have GH := Lib.hid G
    have sz := sizeAt G.rep.blk
    by_cases hlt : i < l1.length
    · obtain ⟨g, cap, cur, rfl, hB, hg, hnn, hM, hs, ht⟩ := own_some G.rep.own (by omega)
      have a1 := (own_cell hg ht hlt).2.1
      have C : wr.cell? ⟨sb, 2, none⟩ = some (.slice (some ⟨g, 0, none⟩) l1.length cap) := cellsAt G.rep.blk 2
      obtain ⟨n, hl⟩ : ∃ n, l1.length = n + 1 := ⟨l1.length - 1, by omega⟩
      have lt' : decide ((i : Int) < (l1.length : Int)) = true := by simpa using hlt
      by_cases hk : (at' l1 i).2.1 = kind
      · have tk : ((at' l1 i).2.1 == kind) = true := by simpa using hk
        have P := Lib.hid (hremove_any G.rep n i hl (by omega) G.heap)
        have KX : Hid ((at' l1 i).2.1 = kind) := Lib.hid hk
        obtain ⟨ki, hki⟩ : ∃ ki, (at' l1 i).2.1 = ki := ⟨_, rfl⟩
        rw [hki] at a1 tk
        have KI := Lib.hid hki
        clear hki
        have HL := Lib.hid hl
        have E1 := Lib.hid e1
        clear G hB hg ht hs hM hnn hk hl e1
        go_wp2_with fail
        refine P.out.mono ?_
        rintro e w2 ⟨rfl, v', l', R', p', H', hv, F⟩
        have hx : at' l1 i ∈ L1 := GH.out.perm.mem_iff.1 (by rw [at_get hlt]; exact List.getElem_mem hlt)
        have pe := List.cons_perm_iff_perm_erase.1 (p'.trans GH.out.perm)
        have G2 : Going w B sb now turn v L kind (c + 1) 0 w2 v' l' (L1.erase (at' l1 i)) := ⟨R', pe.2, H', inv_erase GH.out.inv _, GH.out.step.trans ⟨F, .inl hv⟩, fun j hj => absurd hj (by omega), Nat.zero_le _, by
          rw [filter_erase _ _ (by unfold other; rw [KX.out]; simp)]; exact GH.out.filt, by
          rw [List.length_erase_of_mem hx]; have := List.length_pos_of_mem hx; omega⟩
        have G2H := Lib.hid G2
        have cb : c + 1 ≤ L.length := by have := G2.cnt; omega
        clear G2 R' p' H' hv F pe hx
        go_wp2
        go_roundw
        case rel => exact ⟨c + 1, 0, v', l', _, by go_num, rfl, G2H.out⟩
        case measure => simp [intOf]; omega
      · have tk : ((at' l1 i).2.1 == kind) = false := by simpa using hk
        have G2 := Lib.hid (show Going w B sb now turn v L kind c (i + 1) wr _ l1 L1 from ⟨G.rep, G.perm, G.heap, G.inv, G.step, fun j hj => by
          by_cases e : j = i
          · rw [e]; exact hk
          · exact G.none_ j (by omega), by omega, G.filt, G.cnt⟩)
        have HL := Lib.hid hl
        have E1 := Lib.hid e1
        clear G hB hg ht hs hM hnn hk hl e1
        generalize (at' l1 i).2.1 = ki at *
        go_wp2
        go_roundw
        case rel => exact ⟨c, i + 1, _, l1, L1, rfl, by go_num, G2.out⟩
        case measure => simp [intOf]; omega
    · have hi : i = l1.length := by omega
      subst hi
      obtain ⟨q, cc, rfl⟩ := slice_form G.rep.own
      have C : wr.cell? ⟨sb, 2, none⟩ = some (.slice q l1.length cc) := cellsAt G.rep.blk 2
      have lt' : decide ((l1.length : Int) < (l1.length : Int)) = false := by simp
      have fl : L1.filter (other kind) = L1 := List.filter_eq_self.2 fun e he => by
        obtain ⟨j, hj, rfl⟩ := List.getElem_of_mem (G.perm.mem_iff.2 he)
        have := G.none_ j hj
        rw [at_get hj] at this
        unfold other
        simpa using this
      have fl2 : L.filter (other kind) = L1 := G.filt.symm.trans fl
      have CE : CancelEnd w B sb now turn v L kind wr := ⟨_, by rw [fl2]; exact ⟨⟨l1, G.rep, G.perm, G.heap⟩, G.inv, HH.out.n0, HH.out.n1, HH.out.t0⟩, G.step⟩
      have CEH := Lib.hid CE
      have NH := Lib.hid (show ((L.length - (L.filter (other kind)).length : Nat) : Int) = (c : Int) by rw [fl2]; omega)
      have E1 := Lib.hid e1
      clear G CE fl fl2 hlt e1
      go_wp2
      go_ret
      exact ⟨ret_i NH.out.symm, CEH.out⟩
end Go.Proofs.Ytkgjikdkidjpjaa.Sf
