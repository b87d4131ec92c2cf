/- A look, filled. -/
import Derived.Test.YtbljlnhgllbbdaaHf
namespace Go.Proofs.Ytbljlnhgllbbdaa.Hl
set_option linter.unusedVariables false
set_option linter.unusedSimpArgs false
open Go.RowKit Go.Proofs.Ytbljlnhgllbbdaa.Bt Go.Proofs.Ytbljlnhgllbbdaa.Wk Go.Proofs.Ytbljlnhgllbbdaa.Sg Go.Proofs.Ytbljlnhgllbbdaa.Gp Go.Proofs.Ytbljlnhgllbbdaa.Gm Go.Proofs.Ytbljlnhgllbbdaa.Hs Go.Proofs.Ytbljlnhgllbbdaa.Hf

def lookL (s : Sc) (seed : Int) (A : Option Addr) (N c : Nat) : List Value := (cellsS s) ++ [Value.int .u32 seed, Value.slice A N c]
/-- A look that came in. -/
structure Lok (w : World) (s : Sc) (seed : Int) (A : Option Addr) (N : Nat) (d : Pd) : Prop where
  k : Sok s
  hs : 0 ≤ seed ∧ seed < 4294967296
  hN : N ≤ maxLen
  hd : Elts w A N 3 (fun i => [.int .i64 (d.wh i), .int .i64 (d.ad i), .slice (d.bA i) (d.bn i) (d.bc i)])
  hi : ∀ i, i < N → (-9223372036854775808 ≤ d.ad i ∧ d.ad i ≤ 9223372036854775807) ∧ d.bn i ≤ maxLen ∧ Elts w (d.bA i) (d.bn i) 1 (fun j => [.int .u8 (d.bf i j)])
  hb : ∀ i, i < N → ∀ j, j < d.bn i → 0 ≤ d.bf i j ∧ d.bf i j < 256
theorem Lok.later {w w' : World} {s : Sc} {seed : Int} {A : Option Addr} {N : Nat} {d : Pd} (h : Lok w s seed A N d) (hb : Below w.heap.size w w') : Lok w' s seed A N d :=
  ⟨h.k, h.hs, h.hN, h.hd.keep hb, fun i hi => ⟨(h.hi i hi).1, (h.hi i hi).2.1, (h.hi i hi).2.2.keep hb⟩, h.hb⟩
theorem st0_bd {seed : Int} (h : 0 ≤ seed ∧ seed < 4294967296) (me : Int) (k : Nat) : 0 ≤ st0 seed me k ∧ st0 seed me k < 256 := by
  unfold st0
  split
  · unfold uptoN
    split
    · unfold vrF vrB
      split <;> omega
    · show (0 : Int) ≤ 0 ∧ (0 : Int) < 256; decide
  · split
    · unfold uptoN
      split
      · unfold palF
        have := rnd_bd h.1 h.2 (k + 1)
        omega
      · show (0 : Int) ≤ 0 ∧ (0 : Int) < 256; decide
    · unfold oamF
      split <;> exact ⟨by decide, by decide⟩
theorem patN_bd {seed : Int} (h : 0 ≤ seed ∧ seed < 4294967296) {d : Pd} {N : Nat} (hb : ∀ i, i < N → ∀ j, j < d.bn i → 0 ≤ d.bf i j ∧ d.bf i j < 256) : ∀ p, p ≤ N → ∀ (me : Int) (k : Nat), 0 ≤ patN d (st0 seed) p me k ∧ patN d (st0 seed) p me k < 256
  | 0, _, me, k => st0_bd h me k
  | p + 1, hp, me, k => by
    show 0 ≤ patch _ _ _ _ _ _ k ∧ patch _ _ _ _ _ _ k < 256
    unfold patch
    split
    · exact hb p (by omega) _ (by omega)
    · exact patN_bd h hb p (by omega) me k
def memV (seed : Int) (d : Pd) (N : Nat) (me : Int) : Nat → Int := patN d (st0 seed) N me
/-- The scene that is filled. -/
def fillS (s : Sc) (seed : Int) (d : Pd) (N bv bq bo : Nat) : Sc := withMem s bv bq bo (memV seed d N 0) (memV seed d N 1) (memV seed d N 2)
theorem fill_ok {w : World} {s : Sc} {seed : Int} {A : Option Addr} {N : Nat} {d : Pd} (h : Lok w s seed A N d) (bv bq bo : Nat) : Sok (fillS s seed d N bv bq bo) where
  c0 := h.k.c0
  c1 := h.k.c1
  b := h.k.b
  x := h.k.x
  y := h.k.y
  p := h.k.p
  r := h.k.r
  m0 := h.k.m0
  m1 := h.k.m1
  vr := ⟨by show 98304 ≤ maxLen; unfold maxLen; decide, fun i _ => patN_bd h.hs h.hb N (Nat.le_refl _) 0 i⟩
  pa := ⟨by show 1024 ≤ maxLen; unfold maxLen; decide, fun i _ => patN_bd h.hs h.hb N (Nat.le_refl _) 1 i⟩
  oa := ⟨by show 1024 ≤ maxLen; unfold maxLen; decide, fun i _ => patN_bd h.hs h.hb N (Nat.le_refl _) 2 i⟩
theorem rd_bytes {w : World} {b n : Nat} {f : Nat → Int} (h : w.heap[b]? = some (bytesO n f)) (c : Nat) : Rd w ⟨some ⟨b, 0, none⟩, n, c, f⟩ := by
  intro i hi
  refine ⟨⟨b, 0, none⟩, rfl, sizeAt h, fun j hj => ?_⟩
  have hj1 : j = 0 := by omega
  subst hj1
  rw [Nat.mul_one, Nat.add_zero, add_cellAt]
  cases i with
  | zero => exact (cellsAt h 0).trans (bytes_at f hi)
  | succ i => exact (cellsAt h _).trans (by show (bytesC n f).toArray[0 + (i + 1)]? = _; rw [Nat.zero_add]; exact bytes_at f hi)
theorem Fil.sn {w0 W : World} {L : List Value} {sb bv bq bo : Nat} {s : Sc} {fv fq fo : Nat → Int} (h : Fil w0 L sb bv bq bo s fv fq fo W) : Sn W sb 31 (withMem s bv bq bo fv fq fo) :=
  ⟨h.at_, rd_bytes h.v _, rd_bytes h.q _, rd_bytes h.o _⟩
theorem Fil.set {w0 W : World} {L : List Value} {sb bv bq bo : Nat} {s s' : Sc} {fv fq fo : Nat → Int} (h : Fil w0 L sb bv bq bo s fv fq fo W) {k : Nat} {v : Value}
    (e : (cellsS (withMem s bv bq bo fv fq fo)).toArray.setIfInBounds k v = (cellsS (withMem s' bv bq bo fv fq fo)).toArray) : Fil w0 L sb bv bq bo s' fv fq fo (W.setCell ⟨sb, k, none⟩ v) := by
  have O := (Only.refl h.at_).set (j := k) v
  rw [e] at O
  exact ⟨O.at_, O.keep h.v (Ne.symm h.sv), O.keep h.q (Ne.symm h.sq), O.keep h.o (Ne.symm h.so), h.sv, h.sq, h.so, h.vq, h.vo, h.qo, O.keep h.bx (by have := h.ls; omega), h.ls, h.lv, h.lq, h.lo, below_only h.be O (by have := h.ls; omega) h.be.size⟩
theorem Fil.later {w0 W W' : World} {L : List Value} {sb bv bq bo : Nat} {s : Sc} {fv fq fo : Nat → Int} (h : Fil w0 L sb bv bq bo s fv fq fo W) (hb : Below W.heap.size W W') : Fil w0 L sb bv bq bo s fv fq fo W' :=
  ⟨keep hb h.at_, keep hb h.v, keep hb h.q, keep hb h.o, h.sv, h.sq, h.so, h.vq, h.vo, h.qo, keep hb h.bx, h.ls, h.lv, h.lq, h.lo, below_then h.be hb h.be.size⟩
theorem with_ok {s : Sc} {fv fq fo : Nat → Int} (k : Sok s) (hv : ∀ i, 0 ≤ fv i ∧ fv i < 256) (hq : ∀ i, 0 ≤ fq i ∧ fq i < 256) (ho : ∀ i, 0 ≤ fo i ∧ fo i < 256) (bv bq bo : Nat) : Sok (withMem s bv bq bo fv fq fo) where
  c0 := k.c0
  c1 := k.c1
  b := k.b
  x := k.x
  y := k.y
  p := k.p
  r := k.r
  m0 := k.m0
  m1 := k.m1
  vr := ⟨by show 98304 ≤ maxLen; unfold maxLen; decide, fun i _ => hv i⟩
  pa := ⟨by show 1024 ≤ maxLen; unfold maxLen; decide, fun i _ => hq i⟩
  oa := ⟨by show 1024 ≤ maxLen; unfold maxLen; decide, fun i _ => ho i⟩
def Filled (w1 : World) (s : Sc) (seed : Int) (A : Option Addr) (N c : Nat) (d : Pd) (e : Ending) (w' : World) : Prop :=
  ∃ sb bv bq bo, e = .returned (.pointer (some ⟨sb, 0, none⟩)) ∧ Fil w1 (lookL s seed A N c) sb bv bq bo s (memV seed d N 0) (memV seed d N 1) (memV seed d N 2) w'
theorem look_filled {w : World} {s : Sc} {seed : Int} {A : Option Addr} {N : Nat} {d : Pd} (c : Nat) (h : Lok w s seed A N d) :
    Calls Try.prog 9 #[.agg (lookL s seed A N c).toArray] w (Filled w s seed A N c d) :=
  filled_any h.k seed h.hs A N c _ rfl d h.hN h.hd h.hi
end Go.Proofs.Ytbljlnhgllbbdaa.Hl
