/- A look, filled. -/
import Derived.Test.YthbpcenobaloaaaHf
namespace Go.Proofs.Ythbpcenobaloaaa.Hl
set_option linter.unusedVariables false
set_option linter.unusedSimpArgs false
open Go.RowKit Go.Proofs.Ythbpcenobaloaaa.Bt Go.Proofs.Ythbpcenobaloaaa.Wk Go.Proofs.Ythbpcenobaloaaa.Sg Go.Proofs.Ythbpcenobaloaaa.Gp Go.Proofs.Ythbpcenobaloaaa.Gm Go.Proofs.Ythbpcenobaloaaa.Hs Go.Proofs.Ythbpcenobaloaaa.Hf

theorem rd_bytes {w : World} {b n : Nat} {f : Nat → Int} (h : w.heap[b]? = some (bytesO n f)) (c : Nat) : Rd w ⟨some ⟨b, 0, none⟩, n, c, f⟩ := by
  intro i hi
  refine ⟨⟨b, 0, none⟩, rfl, sizeAt h, fun j hj => ?_⟩
  have hj1 : j = 0 := by omega
  subst hj1
  rw [Nat.mul_one, Nat.add_zero, add_cellAt]
  cases i with
  | zero => exact (cellsAt h 0).trans (bytes_at f hi)
  | succ i => exact (cellsAt h _).trans (by show (bytesC n f).toArray[0 + (i + 1)]? = _; rw [Nat.zero_add]; exact bytes_at f hi)
theorem Fil.sn {w0 W : World} {L : List Value} {sb bv bq bo : Nat} {s : Sc} {fv fq fo : Nat → Int} (h : Fil w0 L sb bv bq bo s fv fq fo W) : Sn W sb 31 (withMem s bv bq bo fv fq fo) :=
  ⟨h.at_, rd_bytes h.v _, rd_bytes h.q _, rd_bytes h.o _⟩
theorem Fil.set {w0 W : World} {L : List Value} {sb bv bq bo : Nat} {s s' : Sc} {fv fq fo : Nat → Int} (h : Fil w0 L sb bv bq bo s fv fq fo W) {k : Nat} {v : Value}
    (e : (cellsS (withMem s bv bq bo fv fq fo)).toArray.setIfInBounds k v = (cellsS (withMem s' bv bq bo fv fq fo)).toArray) : Fil w0 L sb bv bq bo s' fv fq fo (W.setCell ⟨sb, k, none⟩ v) := by
  have O := (Only.refl h.at_).set (j := k) v
  rw [e] at O
  exact ⟨O.at_, O.keep h.v (Ne.symm h.sv), O.keep h.q (Ne.symm h.sq), O.keep h.o (Ne.symm h.so), h.sv, h.sq, h.so, h.vq, h.vo, h.qo, O.keep h.bx (by have := h.ls; omega), h.ls, h.lv, h.lq, h.lo, below_only h.be O (by have := h.ls; omega) h.be.size⟩
theorem Fil.later {w0 W W' : World} {L : List Value} {sb bv bq bo : Nat} {s : Sc} {fv fq fo : Nat → Int} (h : Fil w0 L sb bv bq bo s fv fq fo W) (hb : Below W.heap.size W W') : Fil w0 L sb bv bq bo s fv fq fo W' :=
  ⟨keep hb h.at_, keep hb h.v, keep hb h.q, keep hb h.o, h.sv, h.sq, h.so, h.vq, h.vo, h.qo, keep hb h.bx, h.ls, h.lv, h.lq, h.lo, below_then h.be hb h.be.size⟩
theorem with_ok {s : Sc} {fv fq fo : Nat → Int} (k : Sok s) (hv : ∀ i, 0 ≤ fv i ∧ fv i < 256) (hq : ∀ i, 0 ≤ fq i ∧ fq i < 256) (ho : ∀ i, 0 ≤ fo i ∧ fo i < 256) (bv bq bo : Nat) : Sok (withMem s bv bq bo fv fq fo) where
  c0 := k.c0
  c1 := k.c1
  b := k.b
  x := k.x
  y := k.y
  p := k.p
  r := k.r
  m0 := k.m0
  m1 := k.m1
  vr := ⟨by show 98304 ≤ maxLen; unfold maxLen; decide, fun i _ => hv i⟩
  pa := ⟨by show 1024 ≤ maxLen; unfold maxLen; decide, fun i _ => hq i⟩
  oa := ⟨by show 1024 ≤ maxLen; unfold maxLen; decide, fun i _ => ho i⟩
def Bd (f : Nat → Int) : Prop := ∀ i, 0 ≤ f i ∧ f i < 256
theorem bd_zero : Bd fun _ => 0 := fun _ => ⟨Int.le_refl 0, by show (0 : Int) < 256; decide⟩
theorem bd_upd {f : Nat → Int} (h : Bd f) (k : Nat) {v : Int} (h0 : 0 ≤ v) (h1 : v < 256) : Bd (upd f k v) := fun i => by
  unfold upd; split
  · exact ⟨h0, h1⟩
  · exact h i
theorem bd_upto {g f : Nat → Int} (hg : Bd g) (hf : Bd f) (n : Nat) : Bd (uptoN g f n) := fun i => by
  unfold uptoN; split
  · exact hg i
  · exact hf i
theorem bd_vrO (x : Int) : Bd (vrO x) := fun i => by
  unfold vrO vrB
  repeat' split
  all_goals omega
theorem bd_palF {x : Int} (h0 : 0 ≤ x) (h1 : x < 4294967296) : Bd (palF x) := fun i => by
  unfold palF
  have := rnd_bd h0 h1 (i + 1)
  omega
theorem bd_oaU {d : Ok} (hw : ∀ i, i < d.N → ∀ j, j < 3 → 0 ≤ d.wd i j ∧ d.wd i j < 65536) (n : Nat) : Bd (oaU d n) := fun k => by
  unfold oaU oaF
  split
  · split
    · split
      · next h6 hN =>
        have := hw (k / 8) hN (k % 8 / 2) (by omega)
        split <;> omega
      · split <;> omega
    · split
      · split <;> omega
      · omega
  · omega
theorem bd_ok {s : Sc} {fv fq fo : Nat → Int} (k : Sok s) (hv : Bd fv) (hq : Bd fq) (ho : Bd fo) (bv bq bo : Nat) : Sok (withMem s bv bq bo fv fq fo) := with_ok k hv hq ho bv bq bo
end Go.Proofs.Ythbpcenobaloaaa.Hl
