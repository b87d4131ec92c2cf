/- The document's clock, walked: Cancel. -/
import Derived.Test.YtkgjikdkidjpjaaUd
namespace Go.Proofs.Ytkgjikdkidjpjaa.Ue
set_option linter.unusedVariables false
set_option linter.unusedSimpArgs false
open Go.RowKit Go.Proofs.Ytkgjikdkidjpjaa.Wk Go.Proofs.Ytkgjikdkidjpjaa.Sp Go.Proofs.Ytkgjikdkidjpjaa.Sa Go.Proofs.Ytkgjikdkidjpjaa.Sb Go.Proofs.Ytkgjikdkidjpjaa.Sc Go.Proofs.Ytkgjikdkidjpjaa.Sd Go.Proofs.Ytkgjikdkidjpjaa.Sk Go.Proofs.Ytkgjikdkidjpjaa.Up Go.Proofs.Ytkgjikdkidjpjaa.Ua Go.Proofs.Ytkgjikdkidjpjaa.Ub Go.Proofs.Ytkgjikdkidjpjaa.Uc Go.Proofs.Ytkgjikdkidjpjaa.Ud

def other2 (kind : Int) (e : Ev) : Bool := !(e.2 == kind)
theorem own2_base {w : World} {B C : Nat} {v : Value} {l : List Ev} (h : own2 w C v l) (hB : B ≤ C) : own2 w B v l := by
  refine ⟨h.1, ?_⟩
  rcases h.2 with e | ⟨g, cap, cur, rfl, hb, rest⟩
  · exact .inl e
  · exact .inr ⟨g, cap, cur, rfl, Nat.le_trans hB hb, rest⟩
theorem below_grown {B : Nat} {w W W' : World} {r : Option Nat} (h : Below B w W) (h' : W.grownBy W' r) (hr : ∀ g, r = some g → B ≤ g) (hB : B ≤ W.heap.size) : Below B w W' :=
  ⟨h'.os.trans h.os, h'.tape.trans h.tape, h'.output.trans h.output, Nat.le_trans h.size h'.size, fun k hk => (h'.block k (by omega) (fun e => by have := hr k e.symm; omega)).trans (h.block k hk)⟩
theorem take_filter {l : List Ev} {k : Nat} (h : k < l.length) (p : Ev → Bool) : (l.take (k + 1)).filter p = (l.take k).filter p ++ (if p (at2 l k) then [at2 l k] else []) := by
  rw [List.take_succ_eq_append_getElem h, List.filter_append, at2_get h]
  congr 1
  by_cases e : p l[k] <;> simp [e]
set_option maxHeartbeats 4000000 in
theorem mcancel_any {w : World} {B mb : Nat} {now : Int} {v : Value} {E : List Ev} (h : RepM w B mb now v E) (kind : Int) :
    Calls Try.prog 19 #[.pointer (some ⟨mb, 0, none⟩), .int .i64 kind] w fun e w' => e = .returned (.int .i64 ((E.length - (E.filter (other2 kind)).length : Nat) : Int)) ∧ MEnd w B mb now v (E.filter (other2 kind)) w' := by
  have HH := Lib.hid h
  have e16 := h.len
  have hBw : B ≤ w.heap.size := by have := h.le; have := h.lt; omega
  obtain ⟨i0, hi, hz0, hz1, hz2⟩ := info_parts info28
  have Z0 := Lib.hid hz0
  have Z1 := Lib.hid hz1
  have Z2 := Lib.hid hz2
  have HI := Lib.hid hi
  clear hi hz0 hz1 hz2 h
  go_enter Try.func19, Try.ntmps19
  go_wp2
  go_loopw [5, 6] (fun lv iv wr => ∃ k : Nat, iv = .int .i64 k ∧ k ≤ E.length ∧ own2 wr w.heap.size lv ((E.take k).filter (other2 kind)) ∧ Below w.heap.size w wr) (fun _ iv _ => E.length - (intOf iv).toNat)
  case atStart => exact ⟨0, rfl, by omega, World.ownsRow_nil _ _ _ _, Below.refl _ _⟩
  case round =>
    obtain ⟨k, rfl, hk, ho, hb⟩ := hrel
    have R := HH.out.below hb
    have sz := sizeAt R.blk
    have fl : ((E.take k).filter (other2 kind)).length ≤ 16 := by
      have := List.length_filter_le (other2 kind) (E.take k)
      have := List.length_take_le k E
      omega
    by_cases hlt : k < E.length
    · obtain ⟨g, cap, cur, hv, hB, hg, hn, hm, hs, ht⟩ := own2_some R.own (by omega)
      obtain ⟨a0, a1⟩ := own2_cell hg ht hlt
      have C : wr.cell? ⟨mb, 1, none⟩ = some (.slice (some ⟨g, 0, none⟩) E.length cap) := by rw [cellsAt R.blk 1]; simp [hv]
      have sg := sizeAt hg
      have t : decide ((k : Int) < (E.length : Int)) = true := by simpa using hlt
      have jl : (k : Int) < (E.length : Int) := by omega
      have TF := take_filter hlt (other2 kind)
      have HB := Lib.hid hb
      have HO := Lib.hid ho
      clear hv hB hg hn hm hs ht R hb
      generalize hx : at2 E k = x at *
      obtain ⟨x1, x2⟩ := x
      dsimp only at *
      by_cases hd : x2 = kind
      · have tk : (x2 != kind) = false := by simpa using hd
        have HO2 : Hid (own2 wr w.heap.size u5 ((E.take (k + 1)).filter (other2 kind))) := Lib.hid (by
          rw [TF, if_neg (by unfold other2; simp [hd]), List.append_nil]; exact ho)
        clear ho hd TF hx HO
        go_wp2
        go_roundw
        case rel => exact ⟨k + 1, by go_num, by omega, HO2.out, HB.out⟩
        case measure => simp [intOf]; omega
      · have tk : (x2 != kind) = true := by simpa using hd
        have TF2 := Lib.hid (show (E.take (k + 1)).filter (other2 kind) = (E.take k).filter (other2 kind) ++ [(x1, x2)] by rw [TF, if_pos (by unfold other2; simpa using hd)])
        have OA : Hid ((wr.alloc (.cells #[.int .i64 x1, .int .i64 x2] 28)).ownsRow w.heap.size 28 2 u5 ((E.take k).filter (other2 kind)).length (flat2 ((E.take k).filter (other2 kind)))) := Lib.hid (World.ownsRow.alloc ho _)
        have NA := Lib.hid (alloc_new wr (.cells #[.int .i64 x1, .int .i64 x2] 28))
        have MX : Hid (((E.take k).filter (other2 kind)).length + 1 ≤ maxLen) := Lib.hid (by unfold maxLen; omega)
        have BW := HB.out.size
        clear ho hd TF hx HO
        go_wp2_with (refine wpList_append_lies _ (by rfl) _ _ _ (by rfl) w.heap.size 28 i0 _ 2 16 Try.underlying36 HI.out Z0.out Z1.out Z2.out rfl (by decide) u5 _ _ (by rfl) OA.out ⟨wr.heap.size, 0, none⟩ 1 1 [.int .i64 x1, .int .i64 x2] (by rfl) rfl (World.news_of_block NA.out) (by simp [Value.oneCell']) (by decide) MX.out (by omega) (by simp; omega) (wr.heap.size + 1) (by simp) ?_; intro g2 cap2 w2 hown hgrow hat hlt2)
        have O2 : Hid (own2 w2 w.heap.size (.slice (some ⟨g2, 0, none⟩) (((E.take k).filter (other2 kind)).length + 1) cap2) ((E.take (k + 1)).filter (other2 kind))) := Lib.hid (by
          rw [TF2.out]; unfold own2; rw [flat2_append, List.length_append]; exact hown)
        have B2 : Hid (Below w.heap.size w w2) := Lib.hid (below_grown (HB.out.alloc HB.out.size _) hgrow (fun q hq => (World.ownsRow.lt OA.out q hq).1) (by simp; omega))
        clear hown hgrow hat
        go_wp2
        go_roundw
        case rel => exact ⟨k + 1, by go_num, by omega, O2.out, B2.out⟩
        case measure => simp [intOf]; omega
    · have hk' : k = E.length := by omega
      subst hk'
      rw [List.take_length] at ho fl
      obtain ⟨q, c, hv⟩ := slice2_form R.own
      obtain ⟨q2, c2, rfl⟩ := slice2_form ho
      have C : wr.cell? ⟨mb, 1, none⟩ = some (.slice q E.length c) := by rw [cellsAt R.blk 1]; simp [hv]
      have Fz := freeAt R.blk 1
      have t : decide ((E.length : Int) < (E.length : Int)) = false := by simp
      have le : (E.filter (other2 kind)).length ≤ E.length := List.length_filter_le _ _
      have le' : ((E.filter (other2 kind)).length : Int) ≤ (E.length : Int) := by omega
      have NH := Lib.hid (show ((E.length - (E.filter (other2 kind)).length : Nat) : Int) = (E.length : Int) - ((E.filter (other2 kind)).length : Int) by omega)
      have P := Lib.hid (lay_close (E := E) HH.out (Fr.of_below hb) R.blk (own2_base ho hBw) (fun g hg => .inr (own2_lt ho hg).1) fl)
      clear R ho hb hv hlt
      go_wp2
      go_ret
      exact ⟨ret_i NH.out.symm, _, P.out⟩
end Go.Proofs.Ytkgjikdkidjpjaa.Ue
