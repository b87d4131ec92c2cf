/- filled, walked. -/
import Derived.Test.YtbljlnhgllbbdaaHs
import Derived.Test.YtbljlnhgllbbdaaHw
import Derived.Test.YtbljlnhgllbbdaaLp
namespace Go.Proofs.Ytbljlnhgllbbdaa.Hf
set_option linter.unusedVariables false
set_option linter.unusedSimpArgs false
open Go.RowKit Go.Proofs.Ytbljlnhgllbbdaa.Bt Go.Proofs.Ytbljlnhgllbbdaa.Wk Go.Proofs.Ytbljlnhgllbbdaa.Sg Go.Proofs.Ytbljlnhgllbbdaa.Gp Go.Proofs.Ytbljlnhgllbbdaa.Gm Go.Proofs.Ytbljlnhgllbbdaa.Gx Go.Proofs.Ytbljlnhgllbbdaa.Gz Go.Proofs.Ytbljlnhgllbbdaa.Hs Go.Proofs.Ytbljlnhgllbbdaa.Lp Go.Proofs.Ytbljlnhgllbbdaa.Hw

theorem alloc_new1 (w : World) (a b : Obj) : ((w.alloc a).alloc b).heap[w.heap.size + 1]? = some b := by have := alloc_new (w.alloc a) b; simpa using this
theorem alloc_setRow1 (w : World) (a : Obj) (z cs : Array Value) (t : TypeId) (fr : Nat × Nat) : ((w.alloc a).alloc (.cells z t fr)).setRow (w.heap.size + 1) cs = (w.alloc a).alloc (.cells cs t fr) := by
  have := alloc_setRow (w.alloc a) z cs t fr
  rwa [show (w.alloc a).heap.size = w.heap.size + 1 by simp] at this
/-- n bytes. -/
def bytesC (n : Nat) (f : Nat → Int) : List Value := seg n fun k => .int .u8 (f k)
abbrev bytesO (n : Nat) (f : Nat → Int) : Obj := .cells (bytesC n f).toArray 5 (0, 0)
theorem made_bytes (n : Nat) : madeCells #[Value.int .u8 0] n = (bytesC n fun _ => 0).toArray := by
  apply Array.toList_inj.1
  simp [madeCells, bytesC, seg, Nat.mod_one]
theorem make_bytes (n : Nat) (hn : n ≤ 1000000) (w : World) : (Instr.makeSlice 29 (.int .i64 n) (.int .i64 n)).run Try.prog w = .ok (.slice (some ⟨w.heap.size, 0, none⟩) n n) (w.alloc (bytesO n fun _ => 0)) := by
  obtain ⟨i, hi, hz, hs, hb⟩ := info_parts (P := Try.prog) (e := 5) (z := .int .u8 0) (size := 1) (bytes := 1) (by kernel_rfl)
  have := run_make (P := Try.prog) w 29 5 i (.int .u8 0) Try.underlying29 hi hz .i64 .i64 n n (by omega) (by omega) (by rw [hb]; omega) (by omega)
  rw [this, hs, Nat.mul_one, Int.toNat_natCast]
  congr 2
  exact congrArg (fun z => Obj.cells z 5 (0, 0)) (made_bytes n)
def withMem (s : Sc) (bv bq bo : Nat) (fv fq fo : Nat → Int) : Sc := { s with vr := ⟨some ⟨bv, 0, none⟩, 98304, 98304, fv⟩, pa := ⟨some ⟨bq, 0, none⟩, 1024, 1024, fq⟩, oa := ⟨some ⟨bo, 0, none⟩, 1024, 1024, fo⟩ }
/-- The scene and its memories, all of them new since w0. -/
structure Fil (w0 : World) (L : List Value) (sb bv bq bo : Nat) (s : Sc) (fv fq fo : Nat → Int) (W : World) : Prop where
  at_ : W.heap[sb]? = some (.cells (cellsS (withMem s bv bq bo fv fq fo)).toArray 31 (0, 0))
  v : W.heap[bv]? = some (bytesO 98304 fv)
  q : W.heap[bq]? = some (bytesO 1024 fq)
  o : W.heap[bo]? = some (bytesO 1024 fo)
  sv : sb ≠ bv
  sq : sb ≠ bq
  so : sb ≠ bo
  vq : bv ≠ bq
  vo : bv ≠ bo
  qo : bq ≠ bo
  bx : W.heap[w0.heap.size]? = some (.cells L.toArray 35 (0, 0))
  ls : w0.heap.size < sb
  lv : w0.heap.size < bv
  lq : w0.heap.size < bq
  lo : w0.heap.size < bo
  be : Below w0.heap.size w0 W
theorem with_cells (s : Sc) (bv bq bo : Nat) (fv fq fo : Nat → Int) : (((cellsS s).toArray.setIfInBounds 26 (.slice (some ⟨bv, 0, none⟩) 98304 98304)).setIfInBounds 27 (.slice (some ⟨bq, 0, none⟩) 1024 1024)).setIfInBounds 28 (.slice (some ⟨bo, 0, none⟩) 1024 1024) = (cellsS (withMem s bv bq bo fv fq fo)).toArray := rfl
theorem fil_zero {w0 w2 : World} {L : List Value} {sb bv bq bo : Nat} {s : Sc} {a b c : Obj} (AS : w2.heap[sb]? = some (.cells (cellsS s).toArray 31 (0, 0))) (hb : Below w0.heap.size w0 w2) (hs : w0.heap.size < sb) (BX : w2.heap[w0.heap.size]? = some (.cells L.toArray 35 (0, 0)))
    (hv : (bv = w2.heap.size ∧ a = bytesO 98304 (fun _ => 0)) ∨ (bv = w2.heap.size + 1 ∧ b = bytesO 98304 (fun _ => 0)) ∨ (bv = w2.heap.size + 1 + 1 ∧ c = bytesO 98304 (fun _ => 0)))
    (hq : (bq = w2.heap.size ∧ a = bytesO 1024 (fun _ => 0)) ∨ (bq = w2.heap.size + 1 ∧ b = bytesO 1024 (fun _ => 0)) ∨ (bq = w2.heap.size + 1 + 1 ∧ c = bytesO 1024 (fun _ => 0)))
    (ho : (bo = w2.heap.size ∧ a = bytesO 1024 (fun _ => 0)) ∨ (bo = w2.heap.size + 1 ∧ b = bytesO 1024 (fun _ => 0)) ∨ (bo = w2.heap.size + 1 + 1 ∧ c = bytesO 1024 (fun _ => 0)))
    (nvq : bv ≠ bq) (nvo : bv ≠ bo) (nqo : bq ≠ bo) :
    Fil w0 L sb bv bq bo s (fun _ => 0) (fun _ => 0) (fun _ => 0) ((((((w2.setCell ⟨sb, 26, none⟩ (.slice (some ⟨bv, 0, none⟩) 98304 98304)).setCell ⟨sb, 27, none⟩ (.slice (some ⟨bq, 0, none⟩) 1024 1024)).setCell ⟨sb, 28, none⟩ (.slice (some ⟨bo, 0, none⟩) 1024 1024)).alloc a).alloc b).alloc c).drew := by
  have O := ((Only.refl AS).set (j := 26) (.slice (some ⟨bv, 0, none⟩) 98304 98304)).set (j := 27) (.slice (some ⟨bq, 0, none⟩) 1024 1024) |>.set (j := 28) (.slice (some ⟨bo, 0, none⟩) 1024 1024)
  rw [with_cells s bv bq bo (fun _ => 0) (fun _ => 0) (fun _ => 0)] at O
  have hsz : (((w2.setCell ⟨sb, 26, none⟩ (.slice (some ⟨bv, 0, none⟩) 98304 98304)).setCell ⟨sb, 27, none⟩ (.slice (some ⟨bq, 0, none⟩) 1024 1024)).setCell ⟨sb, 28, none⟩ (.slice (some ⟨bo, 0, none⟩) 1024 1024)).heap.size = w2.heap.size := by simp [World.setCell]
  generalize ((w2.setCell ⟨sb, 26, none⟩ (.slice (some ⟨bv, 0, none⟩) 98304 98304)).setCell ⟨sb, 27, none⟩ (.slice (some ⟨bq, 0, none⟩) 1024 1024)).setCell ⟨sb, 28, none⟩ (.slice (some ⟨bo, 0, none⟩) 1024 1024) = w3 at *
  have lt := sizeAt AS
  have ltB := hb.size
  have H0 : (((w3.alloc a).alloc b).alloc c).heap[w2.heap.size]? = some a := by rw [← hsz]; exact alloc_old _ (alloc_old _ (alloc_new _ _))
  have H1 : (((w3.alloc a).alloc b).alloc c).heap[w2.heap.size + 1]? = some b := by rw [← hsz]; exact alloc_old _ (alloc_new1 _ _ _)
  have H2 : (((w3.alloc a).alloc b).alloc c).heap[w2.heap.size + 1 + 1]? = some c := by
    have := alloc_new1 (w3.alloc a) b c
    rwa [show (w3.alloc a).heap.size = w2.heap.size + 1 by simp [hsz]] at this
  have F : ∀ {z : Nat} {x : Obj}, ((z = w2.heap.size ∧ a = x) ∨ (z = w2.heap.size + 1 ∧ b = x) ∨ (z = w2.heap.size + 1 + 1 ∧ c = x)) → (((w3.alloc a).alloc b).alloc c).heap[z]? = some x ∧ w2.heap.size ≤ z := by
    rintro z x (⟨rfl, rfl⟩ | ⟨rfl, rfl⟩ | ⟨rfl, rfl⟩)
    · exact ⟨H0, by omega⟩
    · exact ⟨H1, by omega⟩
    · exact ⟨H2, by omega⟩
  obtain ⟨v1, v2⟩ := F hv
  obtain ⟨q1, q2⟩ := F hq
  obtain ⟨o1, o2⟩ := F ho
  have be := below_only hb O (by omega) hb.size
  exact ⟨alloc_old _ (alloc_old _ (alloc_old _ O.at_)), v1, q1, o1, by omega, by omega, by omega, nvq, nvo, nqo, alloc_old _ (alloc_old _ (alloc_old _ (O.keep BX (by omega)))), hs, by omega, by omega, by omega,
    below_d1 (((be.alloc be.size _).alloc (by have := be.size; simp; omega) _).alloc (by have := be.size; simp; omega) _)⟩
theorem info_scene : (Try.prog.info? 31).map (·.size) = some 29 := by kernel_rfl
theorem sc_size (s : Sc) : (cellsS s).toArray.size = 29 := by simp [cellsS, seg_length]
theorem sc_len (s : Sc) : (cellsS s).length = 29 := by simp [cellsS, seg_length]
theorem sc_one (s : Sc) : (cellsS s).toArray.all (·.oneCell') = true := by
  rw [Array.all_eq_true']
  intro x hx
  simp only [cellsS, seg, List.mem_toArray, List.mem_map] at hx
  obtain ⟨i, _, rfl⟩ := hx
  unfold svc
  repeat' split
  all_goals rfl
theorem bytes_at {n i : Nat} (f : Nat → Int) (h : i < n) : (bytesC n f).toArray[i]? = some (.int .u8 (f i)) := by rw [toArray_at]; exact seg_at _ h
theorem bytes_set {n i : Nat} (f : Nat → Int) (v : Int) : (bytesC n f).toArray.setIfInBounds i (.int .u8 v) = (bytesC n (upd f i v)).toArray := by
  unfold bytesC
  rw [toArray_set, seg_set]
  congr 1
  exact seg_congr fun k _ => by unfold upd; split <;> rfl
section
variable {w0 W : World} {L : List Value} {sb bv bq bo : Nat} {s : Sc} {fv fq fo : Nat → Int}
theorem Fil.drewN (h : Fil w0 L sb bv bq bo s fv fq fo W) (n : Nat) : Fil w0 L sb bv bq bo s fv fq fo (W.drewN n) := ⟨h.at_, h.v, h.q, h.o, h.sv, h.sq, h.so, h.vq, h.vo, h.qo, h.bx, h.ls, h.lv, h.lq, h.lo, below_dn h.be n⟩
theorem Fil.pal (h : Fil w0 L sb bv bq bo s fv fq fo W) (i : Nat) (x : Int) : Fil w0 L sb bv bq bo s fv (upd fq i x) fo (W.setCell ⟨bq, i, none⟩ (.int .u8 x)) := by
  have O := (Only.refl h.q).set (j := i) (.int .u8 x)
  rw [bytes_set] at O
  exact ⟨O.keep h.at_ h.sq, O.keep h.v h.vq, O.at_, O.keep h.o (Ne.symm h.qo), h.sv, h.sq, h.so, h.vq, h.vo, h.qo, O.keep h.bx (by have := h.lq; omega), h.ls, h.lv, h.lq, h.lo, below_only h.be O (by have := h.lq; omega) h.be.size⟩
theorem Fil.vra (h : Fil w0 L sb bv bq bo s fv fq fo W) (i : Nat) (x : Int) : Fil w0 L sb bv bq bo s (upd fv i x) fq fo (W.setCell ⟨bv, i, none⟩ (.int .u8 x)) := by
  have O := (Only.refl h.v).set (j := i) (.int .u8 x)
  rw [bytes_set] at O
  exact ⟨O.keep h.at_ h.sv, O.at_, O.keep h.q (Ne.symm h.vq), O.keep h.o (Ne.symm h.vo), h.sv, h.sq, h.so, h.vq, h.vo, h.qo, O.keep h.bx (by have := h.lv; omega), h.ls, h.lv, h.lq, h.lo, below_only h.be O (by have := h.lv; omega) h.be.size⟩
theorem Fil.oam (h : Fil w0 L sb bv bq bo s fv fq fo W) (i : Nat) (x : Int) : Fil w0 L sb bv bq bo s fv fq (upd fo i x) (W.setCell ⟨bo, i, none⟩ (.int .u8 x)) := by
  have O := (Only.refl h.o).set (j := i) (.int .u8 x)
  rw [bytes_set] at O
  exact ⟨O.keep h.at_ h.so, O.keep h.v h.vo, O.keep h.q h.qo, O.at_, h.sv, h.sq, h.so, h.vq, h.vo, h.qo, O.keep h.bx (by have := h.lo; omega), h.ls, h.lv, h.lq, h.lo, below_only h.be O (by have := h.lo; omega) h.be.size⟩
end
/-- The numbers that are drawn. -/
def nx (x : Int) : Int := (x * 1664525 + 1013904223) % 4294967296
def rnd (x : Int) : Nat → Int
  | 0 => x
  | n + 1 => nx (rnd x n)
theorem nx_bd (x : Int) : 0 ≤ nx x ∧ nx x < 4294967296 := by unfold nx; omega
theorem rnd_bd {x : Int} (h0 : 0 ≤ x) (h1 : x < 4294967296) : ∀ n, 0 ≤ rnd x n ∧ rnd x n < 4294967296
  | 0 => ⟨h0, h1⟩
  | n + 1 => nx_bd _
theorem int_eq {k : IntKind} {a b : Int} (h : a = b) : Value.int k a = Value.int k b := by rw [h]
def palF (x : Int) (i : Nat) : Int := rnd x (i + 1) / 16777216
def vrB (y : Int) : Int := if y / 1073741824 ≠ 0 then y / 4194304 % 256 else 0
def vrF (x : Int) (i : Nat) : Int := vrB (rnd x (1024 + i + 1))
/-- n of the bytes are laid. -/
def uptoN (g f : Nat → Int) (n : Nat) : Nat → Int := fun k => if k < n then g k else f k
theorem uptoN_zero (g f : Nat → Int) : uptoN g f 0 = f := by funext k; simp [uptoN]
theorem uptoN_upd (g f : Nat → Int) (n : Nat) : upd (uptoN g f n) n (g n) = uptoN g f (n + 1) := by
  funext k
  unfold upd uptoN
  by_cases e : k = n
  · subst e; simp
  · have : (k < n) ↔ (k < n + 1) := by omega
    simp [e, this]
theorem uptoN_same {g f : Nat → Int} {n : Nat} (h : g n = f n) : uptoN g f (n + 1) = uptoN g f n := by
  rw [← uptoN_upd]
  funext k
  unfold upd uptoN
  by_cases e : k = n
  · subst e; simp [h]
  · simp [e]
def oamF (n k : Nat) : Int := if k % 8 = 1 ∧ k < 8 * n then 2 else 0
theorem oamF_zero : oamF 0 = fun _ => 0 := by funext k; simp [oamF]
theorem oamF_succ (n : Nat) : upd (oamF n) (8 * n + 1) 2 = oamF (n + 1) := by
  funext k
  unfold upd oamF
  by_cases e : k = 8 * n + 1
  · rw [if_pos e, if_pos (by omega)]
  · rw [if_neg e]
    have : (k % 8 = 1 ∧ k < 8 * n) ↔ (k % 8 = 1 ∧ k < 8 * (n + 1)) := by omega
    simp [this]
/-- The patches. -/
structure Pd where
  wh : Nat → Int
  ad : Nat → Int
  bA : Nat → Option Addr
  bn : Nat → Nat
  bc : Nat → Nat
  bf : Nat → Nat → Int
def kd (x : Int) : Int := Int.tmod x 3 % 3
def lenM (me : Int) : Nat := if me = 0 then 98304 else 1024
def patch (w a : Int) (n : Nat) (b : Nat → Int) (me : Int) (f : Nat → Int) : Nat → Int := fun k => if w = me ∧ 0 ≤ a ∧ a ≤ k ∧ (k : Int) < a + n ∧ k < lenM me then b ((k : Int) - a).toNat else f k
theorem if_eq {P Q : Prop} [Decidable P] [Decidable Q] {a b : Int} (h : P ↔ Q) : (if P then a else b) = (if Q then a else b) := by
  by_cases g : P
  · rw [if_pos g, if_pos (h.1 g)]
  · rw [if_neg g, if_neg (fun q => g (h.2 q))]
theorem patch_zero (w a : Int) (b : Nat → Int) (me : Int) (f : Nat → Int) : patch w a 0 b me f = f := by
  funext k; unfold patch; rw [if_neg (by omega)]
theorem patch_other {w a : Int} {n : Nat} {b : Nat → Int} {me : Int} {f : Nat → Int} (h : w ≠ me) : patch w a n b me f = f := by
  funext k; unfold patch; rw [if_neg (by omega)]
theorem patch_in {a : Int} {j : Nat} {b : Nat → Int} {me : Int} {f : Nat → Int} (h0 : 0 ≤ a) (h1 : a + j < lenM me) : upd (patch me a j b me f) (a + j).toNat (b j) = patch me a (j + 1) b me f := by
  funext k
  unfold upd patch
  by_cases e : k = (a + j).toNat
  · rw [if_pos e, if_pos (by omega)]
    congr 1; omega
  · rw [if_neg e]
    have : (me = me ∧ 0 ≤ a ∧ a ≤ k ∧ (k : Int) < a + j ∧ k < lenM me) ↔ (me = me ∧ 0 ≤ a ∧ a ≤ k ∧ (k : Int) < a + (j + 1 : Nat) ∧ k < lenM me) := by omega
    exact if_eq this
theorem patch_out {a : Int} {j : Nat} {b : Nat → Int} {me : Int} {f : Nat → Int} (h : a < 0 ∨ (lenM me : Int) ≤ a + j) : patch me a (j + 1) b me f = patch me a j b me f := by
  funext k
  unfold patch
  have : (me = me ∧ 0 ≤ a ∧ a ≤ k ∧ (k : Int) < a + (j + 1 : Nat) ∧ k < lenM me) ↔ (me = me ∧ 0 ≤ a ∧ a ≤ k ∧ (k : Int) < a + j ∧ k < lenM me) := by omega
  exact if_eq this
/-- The memories behind p patches. -/
def patN (d : Pd) (st : Int → Nat → Int) : Nat → Int → Nat → Int
  | 0 => st
  | p + 1 => fun me => patch (kd (d.wh p)) (d.ad p) (d.bn p) (d.bf p) me (patN d st p me)
def st0 (seed : Int) (me : Int) : Nat → Int := if me = 0 then uptoN (vrF seed) (fun _ => 0) 98304 else if me = 1 then uptoN (palF seed) (fun _ => 0) 1024 else oamF 128
section
variable {w0 W : World} {L : List Value} {sb bv bq bo : Nat} {s : Sc} {fv fq fo : Nat → Int}
theorem Fil.alloc (h : Fil w0 L sb bv bq bo s fv fq fo W) (x : Obj) : Fil w0 L sb bv bq bo s fv fq fo (W.alloc x) := ⟨alloc_old _ h.at_, alloc_old _ h.v, alloc_old _ h.q, alloc_old _ h.o, h.sv, h.sq, h.so, h.vq, h.vo, h.qo, alloc_old _ h.bx, h.ls, h.lv, h.lq, h.lo, h.be.alloc h.be.size x⟩
/-- The memory that a patch lies in: its block, its length, and the world with g laid there. -/
theorem Fil.mem (h : Fil w0 L sb bv bq bo s fv fq fo W) (me : Int) (h0 : 0 ≤ me) (h3 : me < 3) (bp : Nat) (pc : Array Value) (tp : TypeId) (hp : W.heap[bp]? = some (.cells pc tp (0, 0))) (np : sb ≠ bp ∧ bv ≠ bp ∧ bq ≠ bp ∧ bo ≠ bp) :
    ∃ (bm : Nat) (Fi : (Nat → Int) → World → Prop),
      (if me = 0 then (Value.slice (some ⟨bv, 0, none⟩) 98304 98304) else if me = 1 then .slice (some ⟨bq, 0, none⟩) 1024 1024 else .slice (some ⟨bo, 0, none⟩) 1024 1024) = .slice (some ⟨bm, 0, none⟩) (lenM me) (lenM me) ∧
      (∀ g W', Fi g W' → W'.heap[bm]? = some (bytesO (lenM me) g)) ∧ (∀ g W', Fi g W' → W'.heap[bp]? = some (.cells pc tp (0, 0))) ∧
      (∀ g W' i v, Fi g W' → Fi (upd g i v) (W'.setCell ⟨bm, i, none⟩ (.int .u8 v))) ∧ (∀ g W' n, Fi g W' → Fi g (W'.drewN n)) ∧ Fi (if me = 0 then fv else if me = 1 then fq else fo) W ∧
      (∀ g W', Fi g W' → Fil w0 L sb bv bq bo s (if me = 0 then g else fv) (if me = 1 then g else fq) (if me = 2 then g else fo) W') := by
  rcases (show me = 0 ∨ me = 1 ∨ me = 2 by omega) with rfl | rfl | rfl
  · refine ⟨bv, fun g W' => Fil w0 L sb bv bq bo s g fq fo W' ∧ W'.heap[bp]? = some (.cells pc tp (0, 0)), rfl, fun g W' h => h.1.v, fun g W' h => h.2, fun g W' i v h => ⟨h.1.vra i v, ?_⟩, fun g W' n h => ⟨h.1.drewN n, h.2⟩, ⟨h, hp⟩, fun g W' h => h.1⟩
    exact ((Only.refl h.1.v).set (j := i) (.int .u8 v)).keep h.2 (Ne.symm np.2.1)
  · refine ⟨bq, fun g W' => Fil w0 L sb bv bq bo s fv g fo W' ∧ W'.heap[bp]? = some (.cells pc tp (0, 0)), rfl, fun g W' h => h.1.q, fun g W' h => h.2, fun g W' i v h => ⟨h.1.pal i v, ?_⟩, fun g W' n h => ⟨h.1.drewN n, h.2⟩, ⟨h, hp⟩, fun g W' h => h.1⟩
    exact ((Only.refl h.1.q).set (j := i) (.int .u8 v)).keep h.2 (Ne.symm np.2.2.1)
  · refine ⟨bo, fun g W' => Fil w0 L sb bv bq bo s fv fq g W' ∧ W'.heap[bp]? = some (.cells pc tp (0, 0)), rfl, fun g W' h => h.1.o, fun g W' h => h.2, fun g W' i v h => ⟨h.1.oam i v, ?_⟩, fun g W' n h => ⟨h.1.drewN n, h.2⟩, ⟨h, hp⟩, fun g W' h => h.1⟩
    exact ((Only.refl h.1.o).set (j := i) (.int .u8 v)).keep h.2 (Ne.symm np.2.2.2)
end
theorem mx (a0 a1 a2 : Value) (w : World) : (Instr.index 53 (.agg #[a0, a1, a2]) (.int .i64 0)).run Try.prog w = .ok a0 w ∧ (Instr.index 53 (.agg #[a0, a1, a2]) (.int .i64 1)).run Try.prog w = .ok a1 w ∧ (Instr.index 53 (.agg #[a0, a1, a2]) (.int .i64 2)).run Try.prog w = .ok a2 w := ⟨by kernel_rfl, by kernel_rfl, by kernel_rfl⟩
theorem mx_any (a0 a1 a2 : Value) (me : Int) (h0 : 0 ≤ me) (h3 : me < 3) (w : World) : (Instr.index 53 (.agg #[a0, a1, a2]) (.int .i64 me)).run Try.prog w = .ok (if me = 0 then a0 else if me = 1 then a1 else a2) w := by
  rcases (show me = 0 ∨ me = 1 ∨ me = 2 by omega) with rfl | rfl | rfl
  · exact (mx a0 a1 a2 w).1
  · exact (mx a0 a1 a2 w).2.1
  · exact (mx a0 a1 a2 w).2.2
theorem kd01 (x : Int) : 0 ≤ kd x ∧ kd x < 3 := by unfold kd; omega
theorem tm3 (x : Int) : -3 < Int.tmod x 3 ∧ Int.tmod x 3 < 3 := ⟨Int.lt_tmod_of_pos x (by decide), Int.tmod_lt_of_pos x (by decide)⟩
set_option maxRecDepth 100000 in
set_option maxHeartbeats 8000000 in
theorem filled_any {w : World} {s : Sc} (k : Sok s) (seed : Int) (hseed : 0 ≤ seed ∧ seed < 4294967296) (A : Option Addr) (N c : Nat) (L : List Value) (hL : L = (cellsS s) ++ [Value.int .u32 seed, Value.slice A N c]) (d : Pd) (hN : N ≤ maxLen)
    (hd : Elts w A N 3 (fun i => [.int .i64 (d.wh i), .int .i64 (d.ad i), .slice (d.bA i) (d.bn i) (d.bc i)]))
    (hi : ∀ i, i < N → (-9223372036854775808 ≤ d.ad i ∧ d.ad i ≤ 9223372036854775807) ∧ d.bn i ≤ maxLen ∧ Elts w (d.bA i) (d.bn i) 1 (fun j => [.int .u8 (d.bf i j)])) :
    Calls Try.prog 9 #[.agg L.toArray] w fun e w' => ∃ sb bv bq bo, e = .returned (.pointer (some ⟨sb, 0, none⟩)) ∧ Fil w L sb bv bq bo s (patN d (st0 seed) N 0) (patN d (st0 seed) N 1) (patN d (st0 seed) N 2) w' := by
  have LP : ∀ j v, (cellsS s)[j]? = some v → (w.alloc (.cells L.toArray 35)).cell? ⟨w.heap.size, 0 + j, none⟩ = some v := fun j v h => by
    rw [cellsAt (alloc_new _ _), toArray_at, hL, Nat.zero_add, List.getElem?_append_left (by rw [sc_len]; have := (List.getElem?_eq_some_iff.1 h).1; rwa [sc_len] at this), h]
  have CS : (w.alloc (.cells L.toArray 35)).cell? ⟨w.heap.size, 29, none⟩ = some (.int .u32 seed) := by
    rw [cellsAt (alloc_new _ _), toArray_at, hL, List.getElem?_append_right (by rw [sc_len]; omega), sc_len]; rfl
  have CA : (w.alloc (.cells L.toArray 35)).cell? ⟨w.heap.size, 30, none⟩ = some (.slice A N c) := by
    rw [cellsAt (alloc_new _ _), toArray_at, hL, List.getElem?_append_right (by rw [sc_len]; omega), sc_len]; rfl
  have LPH := Lib.hid LP
  have HD := Lib.hid hd
  have HI := Lib.hid hi
  unfold maxLen at hN
  clear hd hi
  have HL := Lib.hid hL
  clear LP hL
  go_enter Try.func9, Try.ntmps9
  go_upto_region 2 with (first | (refine wpList_load_part rfl 31 (.tmp 13) rfl w.heap.size 0 rfl (cellsS s) _ LPH.out Try.underlying31 rfl (by rw [sc_len]; exact info_scene) ?_) | (refine wpList_store_row rfl 31 (.tmp 3) (.tmp 14) rfl (w.heap.size + 1) _ rfl rfl 31 _ (alloc_new1 _ _ _) (by rw [sc_size]; exact info_scene) (by rw [sc_size]; rfl) (sc_one _) ?_; rw [alloc_setRow1]))
  have AS : (((w.alloc (.cells L.toArray 35)).alloc (.cells (cellsS s).toArray 31))).heap[w.heap.size + 1]? = some (.cells (cellsS s).toArray 31) := alloc_new1 _ _ _
  have F26 := freeAt AS 26
  have F27 := freeAt AS 27
  have F28 := freeAt AS 28
  have SZ := sizeAt AS
  have C26 : ((w.alloc (.cells L.toArray 35)).alloc (.cells (cellsS s).toArray 31)).cell? ⟨w.heap.size + 1, 26, none⟩ = some s.vr.v := cellsAt AS 26
  have C27 : ((w.alloc (.cells L.toArray 35)).alloc (.cells (cellsS s).toArray 31)).cell? ⟨w.heap.size + 1, 27, none⟩ = some s.pa.v := cellsAt AS 27
  have C28 : ((w.alloc (.cells L.toArray 35)).alloc (.cells (cellsS s).toArray 31)).cell? ⟨w.heap.size + 1, 28, none⟩ = some s.oa.v := cellsAt AS 28
  unfold Mem.v at *
  have ASH := Lib.hid AS
  clear AS CS CA
  have hb2 : Below w.heap.size w ((w.alloc (.cells L.toArray 35)).alloc (.cells (cellsS s).toArray 31)) := ((Below.refl _ _).alloc (Nat.le_refl _) _).alloc (by simp) _
  have BH2 := Lib.hid hb2
  have BXH : Hid (((w.alloc (.cells L.toArray 35)).alloc (.cells (cellsS s).toArray 31)).heap[w.heap.size]? = some (.cells L.toArray 35 (0, 0))) := Lib.hid (alloc_old _ (alloc_new _ _))
  clear hb2
  generalize (w.alloc (.cells L.toArray 35)).alloc (.cells (cellsS s).toArray 31) = w2 at *
  obtain ⟨ZV, hZV, MKV⟩ : ∃ Z : Array Value, Hid (Z = (bytesC 98304 fun _ => 0).toArray) ∧ ∀ w : World, (Instr.makeSlice 29 (.int .i64 98304) (.int .i64 98304)).run Try.prog w = .ok (.slice (some ⟨w.heap.size, 0, none⟩) 98304 98304) (w.alloc (.cells Z 5 (0, 0))) := ⟨_, Lib.hid rfl, make_bytes 98304 (by decide)⟩
  obtain ⟨ZM, hZM, MKM⟩ : ∃ Z : Array Value, Hid (Z = (bytesC 1024 fun _ => 0).toArray) ∧ ∀ w : World, (Instr.makeSlice 29 (.int .i64 1024) (.int .i64 1024)).run Try.prog w = .ok (.slice (some ⟨w.heap.size, 0, none⟩) 1024 1024) (w.alloc (.cells Z 5 (0, 0))) := ⟨_, Lib.hid rfl, make_bytes 1024 (by decide)⟩
  go_wp2_with fail
  change Code.wp _ _ _ (Act.mk _ _) _
  have SZ1 : w.heap.size + 1 < w2.heap.size + 1 := by omega
  have SZ2 : w.heap.size + 1 < w2.heap.size + 1 + 1 := by omega
  have SZ3 : w.heap.size + 1 < w2.heap.size + 1 + 1 + 1 := by omega
  go_cut [] (fun wx => Hid (∃ bv bq bo, Fil w L (w.heap.size + 1) bv bq bo s (fun _ => 0) (fun _ => 0) (fun _ => 0) wx))
  case first =>
    go_region
    all_goals
      go_wp2_with fail
      go_meet
      case rel =>
        refine Lib.hid ⟨_, _, _, fil_zero ASH.out BH2.out (Nat.lt_succ_self _) BXH.out ?_ ?_ ?_ ?_ ?_ ?_⟩
        all_goals (first | (first | exact .inl ⟨rfl, by rw [hZV.out]⟩ | exact .inr (.inl ⟨rfl, by rw [hZV.out]⟩) | exact .inr (.inr ⟨rfl, by rw [hZV.out]⟩)) | (first | exact .inl ⟨rfl, by rw [hZM.out]⟩ | exact .inr (.inl ⟨rfl, by rw [hZM.out]⟩) | exact .inr (.inr ⟨rfl, by rw [hZM.out]⟩)) | omega)
  case rest =>
  obtain ⟨bv, bq, bo, F0⟩ := hcut.out
  have sd0 : 0 ≤ seed := by have := hseed; omega
  have CS : wc.cell? ⟨w.heap.size, 29, none⟩ = some (.int .u32 seed) := by
    rw [cellsAt F0.bx, toArray_at, HL.out, List.getElem?_append_right (by rw [sc_len]; omega), sc_len]; rfl
  have CP : wc.cell? ⟨w.heap.size + 1, 27, none⟩ = some (.slice (some ⟨bq, 0, none⟩) 1024 1024) := cellsAt F0.at_ 27
  have FH : Hid (Fil w L (w.heap.size + 1) bv bq bo s (fun _ => 0) (uptoN (palF seed) (fun _ => 0) 0) (fun _ => 0) wc) := Lib.hid (by rw [uptoN_zero]; exact F0)
  clear F0 F26 F27 F28 SZ C26 C27 C28 MKV MKM SZ1 SZ2 SZ3 LPH
  go_wp2_with fail
  go_loopw [4, 26] (fun xv iv wr => ∃ (n : Nat), xv = .int .u32 (rnd seed n) ∧ iv = .int .i64 n ∧ n ≤ 1024 ∧ Fil w L (w.heap.size + 1) bv bq bo s (fun _ => 0) (uptoN (palF seed) (fun _ => 0) n) (fun _ => 0) wr) (fun _ iv _ => 1024 - (intOf iv).toNat)
  case atStart => exact ⟨0, rfl, rfl, by omega, FH.out⟩
  case round =>
    obtain ⟨n, rfl, rfl, hn, F⟩ := hrel
    by_cases hlt : n < 1024
    · have tt : decide ((n : Int) < 1024) = true := by simp; omega
      have n0 : (0 : Int) ≤ (n : Int) := by omega
      have n1 : (n : Int) < 1024 := by omega
      have rb := rnd_bd hseed.1 hseed.2 n
      have CP : wr.cell? ⟨w.heap.size + 1, 27, none⟩ = some (.slice (some ⟨bq, 0, none⟩) 1024 1024) := cellsAt F.at_ 27
      have CC : wr.cell? ⟨bq, n, none⟩ = some (.int .u8 (uptoN (palF seed) (fun _ => 0) n n)) := by rw [cellsAt F.q]; exact bytes_at _ hlt
      have FR := freeAt F.q n
      have LL := sizeAt F.q
      have L2 := sizeAt F.at_
      have RS : rnd seed (n + 1) = nx (rnd seed n) := rfl
      have PF : palF seed n = nx (rnd seed n) / 16777216 := rfl
      unfold nx at RS PF
      have RH := Lib.hid RS
      have PH := Lib.hid PF
      have FH2 := Lib.hid F
      clear RS PF F
      generalize rnd seed n = x at *
      obtain ⟨r0, r1⟩ := rb
      go_wp2_with fail
      refine ⟨⟨n + 1, int_eq (by rw [RH.out]; omega), by go_num, by omega, ?_⟩, by simp [intOf]; omega⟩
      have := FH2.out.pal n (palF seed n)
      rw [uptoN_upd, PH.out] at this
      exact this
    · have nn : n = 1024 := by omega
      have tt : decide ((n : Int) < 1024) = false := by simp; omega
      have CV : wr.cell? ⟨w.heap.size + 1, 26, none⟩ = some (.slice (some ⟨bv, 0, none⟩) 98304 98304) := cellsAt F.at_ 26
      have FH2 : Hid (Fil w L (w.heap.size + 1) bv bq bo s (uptoN (vrF seed) (fun _ => 0) 0) (uptoN (palF seed) (fun _ => 0) 1024) (fun _ => 0) wr) := Lib.hid (by rw [uptoN_zero, ← nn]; exact F)
      clear hlt F FH
      subst nn
      go_wp2_with fail
      clear CV
      go_loopw [4, 43] (fun xv iv wr => ∃ (n : Nat), xv = .int .u32 (rnd seed (1024 + n)) ∧ iv = .int .i64 n ∧ n ≤ 98304 ∧ Fil w L (w.heap.size + 1) bv bq bo s (uptoN (vrF seed) (fun _ => 0) n) (uptoN (palF seed) (fun _ => 0) 1024) (fun _ => 0) wr) (fun _ iv _ => 98304 - (intOf iv).toNat)
      case atStart => exact ⟨0, rfl, rfl, by omega, FH2.out⟩
      case round =>
        obtain ⟨n, rfl, rfl, hn, F⟩ := hrel
        by_cases hlt : n < 98304
        · have tt : decide ((n : Int) < 98304) = true := by simp; omega
          have n0 : (0 : Int) ≤ (n : Int) := by omega
          have n1 : (n : Int) < 98304 := by omega
          have rb := rnd_bd hseed.1 hseed.2 (1024 + n)
          have CP : wr.cell? ⟨w.heap.size + 1, 26, none⟩ = some (.slice (some ⟨bv, 0, none⟩) 98304 98304) := cellsAt F.at_ 26
          have CC : wr.cell? ⟨bv, n, none⟩ = some (.int .u8 (uptoN (vrF seed) (fun _ => 0) n n)) := by rw [cellsAt F.v]; exact bytes_at _ hlt
          have FR := freeAt F.v n
          have LL := sizeAt F.v
          have L2 := sizeAt F.at_
          have RS : rnd seed (1024 + (n + 1)) = nx (rnd seed (1024 + n)) := rfl
          have PF : vrF seed n = vrB (nx (rnd seed (1024 + n))) := rfl
          have ZF : uptoN (vrF seed) (fun _ => 0) n n = 0 := by simp [uptoN]
          have FH3 := Lib.hid F
          have ZH := Lib.hid ZF
          have RH := Lib.hid RS
          have PH := Lib.hid PF
          have NB := nx_bd (rnd seed (1024 + n))
          have NE : (rnd seed (1024 + n) * 1664525 % 4294967296 + 1013904223) % 4294967296 = nx (rnd seed (1024 + n)) := by unfold nx; omega
          have NE2 : (rnd seed (1024 + n) * 1664525 + 1013904223) % 4294967296 = nx (rnd seed (1024 + n)) := rfl
          clear RS PF F ZF
          generalize nx (rnd seed (1024 + n)) = y at *
          generalize rnd seed (1024 + n) = x at *
          obtain ⟨r0, r1⟩ := rb
          obtain ⟨y0, y1⟩ := NB
          by_cases gz : y / 1073741824 = 0
          · have gb : (y / 1073741824 != 0) = false := by rw [gz]; rfl
            have VB : vrB y = 0 := if_neg (by rw [gz]; decide)
            have GZ := Lib.hid gz
            clear gz
            go_wp2_with fail
            refine ⟨⟨n + 1, int_eq (by rw [RH.out]; exact NE), by go_num, by omega, ?_⟩, by simp [intOf]; omega⟩
            rw [uptoN_same (by rw [PH.out]; exact VB)]
            exact FH3.out
          · have gb : (y / 1073741824 != 0) = true := by rw [bne_iff_ne]; exact gz
            have VB : vrB y = y / 4194304 % 256 := if_pos gz
            have VBH := Lib.hid VB
            clear VB gz
            go_wp2_with fail
            refine ⟨⟨n + 1, int_eq (by rw [RH.out]; exact NE), by go_num, by omega, ?_⟩, by simp [intOf]; omega⟩
            have := FH3.out.vra n (vrF seed n)
            rw [uptoN_upd, PH.out, VBH.out] at this
            exact this
        · have nn : n = 98304 := by omega
          have tt : decide ((n : Int) < 98304) = false := by simp; omega
          have CO : wr.cell? ⟨w.heap.size + 1, 28, none⟩ = some (.slice (some ⟨bo, 0, none⟩) 1024 1024) := cellsAt F.at_ 28
          have FH3 : Hid (Fil w L (w.heap.size + 1) bv bq bo s (uptoN (vrF seed) (fun _ => 0) 98304) (uptoN (palF seed) (fun _ => 0) 1024) (oamF 0) wr) := Lib.hid (by rw [oamF_zero, ← nn]; exact F)
          clear hlt F FH2
          subst nn
          go_wp2_with fail
          clear CO
          go_loopw [7] (fun iv wr => ∃ (n : Nat), iv = .int .i64 (8 * (n : Int)) ∧ n ≤ 128 ∧ Fil w L (w.heap.size + 1) bv bq bo s (uptoN (vrF seed) (fun _ => 0) 98304) (uptoN (palF seed) (fun _ => 0) 1024) (oamF n) wr) (fun iv _ => 1024 - (intOf iv).toNat)
          case atStart => exact ⟨0, rfl, by omega, FH3.out⟩
          case round =>
            obtain ⟨n, rfl, hn, F⟩ := hrel
            have CO : wr.cell? ⟨w.heap.size + 1, 28, none⟩ = some (.slice (some ⟨bo, 0, none⟩) 1024 1024) := cellsAt F.at_ 28
            have L2 := sizeAt F.at_
            by_cases hlt : n < 128
            · have tt : decide (8 * (n : Int) + 8 ≤ 1024) = true := by simp; omega
              have n0 : (0 : Int) ≤ (n : Int) := by omega
              have n1 : (n : Int) < 128 := by omega
              have CC : wr.cell? ⟨bo, 8 * n + 1, none⟩ = some (.int .u8 (oamF n (8 * n + 1))) := by rw [cellsAt F.o]; exact bytes_at _ (by omega)
              have FR := freeAt F.o (8 * n + 1)
              have LL := sizeAt F.o
              have FH4 := Lib.hid F
              clear F
              go_wp2_with fail
              refine ⟨⟨n + 1, int_eq (by omega), by omega, ?_⟩, by simp [intOf]; omega⟩
              have := FH4.out.oam (8 * n + 1) 2
              rw [oamF_succ] at this
              exact this
            · have nn : n = 128 := by omega
              have tt : decide (8 * (n : Int) + 8 ≤ 1024) = false := by simp; omega
              have FH4 := Lib.hid F
              have CA : wr.cell? ⟨w.heap.size, 30, none⟩ = some (.slice A N c) := by
                rw [cellsAt F.bx, toArray_at, HL.out, List.getElem?_append_right (by rw [sc_len]; omega), sc_len]; rfl
              have LB := sizeAt F.bx
              clear F
              go_wp2_with fail
              clear CO L2 CA LB
              have FH5 : Hid (Fil w L (w.heap.size + 1) bv bq bo s (patN d (st0 seed) 0 0) (patN d (st0 seed) 0 1) (patN d (st0 seed) 0 2) wr) := Lib.hid (by have := FH4.out; rw [nn] at this; exact this)
              clear FH4 nn
              go_loopw [76] (fun iv wr => ∃ (n : Nat), iv = .int .i64 n ∧ n ≤ N ∧ Fil w L (w.heap.size + 1) bv bq bo s (patN d (st0 seed) n 0) (patN d (st0 seed) n 1) (patN d (st0 seed) n 2) wr) (fun iv _ => N - (intOf iv).toNat)
              case atStart => exact ⟨0, rfl, by omega, FH5.out⟩
              case round =>
                obtain ⟨n, rfl, hn, F⟩ := hrel
                by_cases hlt : n < N
                · obtain ⟨a, rfl, hal, hcl⟩ := HD.out.cells F.be hlt
                  have c0 := hcl 0 (by decide)
                  have c1 := hcl 1 (by decide)
                  have c2 := hcl 2 (by decide)
                  simp only [cellAt, List.getElem?_cons_zero, List.getElem?_cons_succ] at c0 c1 c2
                  have tt : decide ((n : Int) < (N : Int)) = true := by simpa using hlt
                  have n0 : (0 : Int) ≤ (n : Int) := by omega
                  have n1 : (n : Int) < (N : Int) := by omega
                  have L0 := F.be.size
                  have al : (a.add (n * 3)).block < wr.heap.size := by omega
                  have PS : Hid (∀ me, patN d (st0 seed) (n + 1) me = patch (kd (d.wh n)) (d.ad n) (d.bn n) (d.bf n) me (patN d (st0 seed) n me)) := Lib.hid fun _ => rfl
                  obtain ⟨⟨x0, x1⟩, bl, be⟩ := HI.out n hlt
                  have FH6 := Lib.hid F
                  have BE := Lib.hid be
                  unfold maxLen at bl
                  obtain ⟨m0, m1⟩ := tm3 (d.wh n)
                  have K3 := kd01 (d.wh n)
                  have KE : Int.tmod (d.wh n) 3 % 3 = kd (d.wh n) := rfl
                  clear hcl F be
                  generalize hfv : patN d (st0 seed) n 0 = fv at *
                  have HFV := Lib.hid hfv
                  clear hfv
                  generalize hfq : patN d (st0 seed) n 1 = fq at *
                  have HFQ := Lib.hid hfq
                  clear hfq
                  generalize hfo : patN d (st0 seed) n 2 = fo at *
                  have HFO := Lib.hid hfo
                  clear hfo
                  generalize kd (d.wh n) = me at *
                  generalize d.wh n = wh at *
                  generalize hda : d.ad n = ad at *
                  go_upto_region 24 with fail
                  have A9 := alloc_new wr (.cells #[.int .i64 wh, .int .i64 ad, .slice (d.bA n) (d.bn n) (d.bc n)] 52)
                  have FH7 := FH6.out.alloc (.cells #[.int .i64 wh, .int .i64 ad, .slice (d.bA n) (d.bn n) (d.bc n)] 52)
                  have np : w.heap.size + 1 ≠ wr.heap.size ∧ bv ≠ wr.heap.size ∧ bq ≠ wr.heap.size ∧ bo ≠ wr.heap.size := by
                    have h1 := sizeAt FH6.out.at_
                    have h2 := sizeAt FH6.out.v
                    have h3 := sizeAt FH6.out.q
                    have h4 := sizeAt FH6.out.o
                    omega
                  obtain ⟨bm, Fi, hix, hat, hpc, hset, hdr, hcur, hback⟩ := FH7.mem me K3.1 K3.2 wr.heap.size _ _ A9 np
                  have MX := mx_any (.slice (some ⟨bv, 0, none⟩) 98304 98304) (.slice (some ⟨bq, 0, none⟩) 1024 1024) (.slice (some ⟨bo, 0, none⟩) 1024 1024) me K3.1 K3.2
                  rw [hix] at MX
                  generalize hcu : (if me = 0 then fv else if me = 1 then fq else fo) = cu at *
                  have HCU := Lib.hid hcu
                  have C26 := cellsAt FH7.at_ 26
                  have C27 := cellsAt FH7.at_ 27
                  have C28 := cellsAt FH7.at_ 28
                  have L2 := sizeAt FH7.at_
                  have P0 := cellsAt A9 0
                  have P1 := cellsAt A9 1
                  have P2 := cellsAt A9 2
                  have L9 := sizeAt A9
                  have HAT := Lib.hid hat
                  have HPC := Lib.hid hpc
                  have HSET := Lib.hid hset
                  have HBACK := Lib.hid hback
                  have HCUR := Lib.hid hcur
                  have PSZ : Hid (Fi (patch me ad 0 (d.bf n) me cu) (wr.alloc (.cells #[.int .i64 wh, .int .i64 ad, .slice (d.bA n) (d.bn n) (d.bc n)] 52))) := Lib.hid (by rw [patch_zero]; exact hcur)
                  have BEH : Hid (Below w.heap.size w wr) := Lib.hid FH6.out.be
                  have lmb : lenM me ≤ 98304 := by unfold lenM; split <;> omega
                  have hbn : d.bn n ≤ 9223372036854775807 := by omega
                  clear FH7 A9 hix hat hpc hset hdr hcur hback hcu c0 c1 c2
                  generalize hlm : lenM me = lm at *
                  have HLM := Lib.hid hlm
                  clear hlm
                  generalize wr.alloc (.cells #[.int .i64 wh, .int .i64 ad, .slice (d.bA n) (d.bn n) (d.bc n)] 52) = w7 at *
                  generalize hbp : wr.heap.size = bp at *
                  generalize hbnn : d.bn n = bn at *
                  generalize hbAA : d.bA n = bA at *
                  generalize hbff : d.bf n = bf at *
                  change w7.cell? ⟨w.heap.size + 1, 26, none⟩ = some (.slice (some ⟨bv, 0, none⟩) 98304 98304) at C26
                  change w7.cell? ⟨w.heap.size + 1, 27, none⟩ = some (.slice (some ⟨bq, 0, none⟩) 1024 1024) at C27
                  change w7.cell? ⟨w.heap.size + 1, 28, none⟩ = some (.slice (some ⟨bo, 0, none⟩) 1024 1024) at C28
                  change w7.cell? ⟨bp, 0, none⟩ = some (.int .i64 wh) at P0
                  change w7.cell? ⟨bp, 1, none⟩ = some (.int .i64 ad) at P1
                  change w7.cell? ⟨bp, 2, none⟩ = some (.slice bA bn (d.bc n)) at P2
                  go_wp2_with fail
                  clear C26 C27 C28 L2 P0 P1 P2 L9 al hal MX
                  go_loopw [96] (fun jv wr => ∃ (j : Nat), jv = .int .i64 j ∧ j ≤ bn ∧ Fi (patch me ad j bf me cu) wr) (fun jv _ => bn - (intOf jv).toNat)
                  case atStart => exact ⟨0, rfl, by omega, PSZ.out⟩
                  case round =>
                    obtain ⟨j, rfl, hj, FI⟩ := hrel
                    by_cases hjl : j < bn
                    · obtain ⟨ab, hab, hbl, hbc⟩ := BE.out.cells (HBACK.out _ _ FI).be hjl
                      have b0 := hbc 0 (by decide)
                      simp only [cellAt, List.getElem?_cons_zero, Nat.mul_one] at b0
                      subst hab
                      have t2 : decide ((j : Int) < (bn : Int)) = true := by simpa using hjl
                      have j0 : (0 : Int) ≤ (j : Int) := by omega
                      have j1 : (j : Int) < (bn : Int) := by omega
                      have bl2 : (ab.add j).block < wr.heap.size := by
                        have := (HBACK.out _ _ FI).be.size
                        rw [Nat.mul_one] at hbl
                        omega
                      have P1 : wr.cell? ⟨bp, 1, none⟩ = some (.int .i64 ad) := cellsAt (HPC.out _ _ FI) 1
                      have L9 := sizeAt (HPC.out _ _ FI)
                      have LM := sizeAt (HAT.out _ _ FI)
                      have FIH := Lib.hid FI
                      by_cases g : 0 ≤ ad ∧ ad < lm - j
                      · obtain ⟨an, han⟩ := Int.eq_ofNat_of_zero_le g.1
                        have g1 : decide (0 ≤ ad) = true := decide_eq_true g.1
                        have g2 : decide (ad < (lm : Int) - (j : Int)) = true := decide_eq_true g.2
                        have hin : an + j < lm := by omega
                        have PI := patch_in (a := ad) (j := j) (b := bf) (me := me) (f := cu) g.1 (by rw [HLM.out]; omega)
                        have G := HSET.out _ _ (ad + j).toNat (bf j) FI
                        rw [PI] at G
                        have C1 : wr.cell? ⟨bm, an + j, none⟩ = some (.int .u8 (patch me ad j bf me cu (an + j))) := by rw [cellsAt (HAT.out _ _ FI)]; exact bytes_at _ hin
                        have FR := freeAt (HAT.out _ _ FI) (an + j)
                        subst han
                        rw [show ((an : Int) + j).toNat = an + j by omega] at G
                        have GH := Lib.hid G
                        have i1 : (an : Int) + (j : Int) < (lm : Int) := by omega
                        clear PI G g FI
                        generalize patch me an j bf me cu (an + j) = old at *
                        go_wp2_with fail
                        exact ⟨⟨j + 1, by go_num, by omega, GH.out⟩, by simp [intOf]; omega⟩
                      · have PO := patch_out (a := ad) (j := j) (b := bf) (me := me) (f := cu) (by rw [HLM.out]; omega)
                        have G : Hid (Fi (patch me ad (j + 1) bf me cu) wr) := Lib.hid (by rw [PO]; exact FI)
                        clear PO FI
                        have gc : decide (0 ≤ ad) = false ∨ (decide (0 ≤ ad) = true ∧ decide (ad < (lm : Int) - (j : Int)) = false) := by
                          simp only [decide_eq_true_eq, decide_eq_false_iff_not]; omega
                        clear g
                        rcases gc with g1 | ⟨g1, g2⟩
                        all_goals
                          go_wp2_with fail
                          exact ⟨⟨j + 1, by go_num, by omega, G.out⟩, by simp [intOf]; omega⟩
                    · have nn : j = bn := by omega
                      have t2 : decide ((j : Int) < (bn : Int)) = false := by simp; omega
                      have G : Hid (Fil w L (w.heap.size + 1) bv bq bo s (patN d (st0 seed) (n + 1) 0) (patN d (st0 seed) (n + 1) 1) (patN d (st0 seed) (n + 1) 2) wr) := by
                        have := HBACK.out _ _ FI
                        rw [PS.out, PS.out, PS.out, HFV.out, HFQ.out, HFO.out, ← nn]
                        have hc := HCU.out
                        refine Lib.hid ?_
                        rcases (show me = 0 ∨ me = 1 ∨ me = 2 by omega) with e | e | e
                        all_goals
                          subst e
                          simp at this hc
                          rw [← hc] at this
                          first
                            | rw [patch_other (me := 1) (by decide), patch_other (me := 2) (by decide)]
                            | rw [patch_other (me := 0) (by decide), patch_other (me := 2) (by decide)]
                            | rw [patch_other (me := 0) (by decide), patch_other (me := 1) (by decide)]
                          exact this
                      have t3 : decide (j < bn) = false := by simp; omega
                      clear nn hjl FI
                      go_wp2_with fail
                      exact ⟨⟨n + 1, by go_num, by omega, G.out⟩, by simp [intOf]; omega⟩
                · have nn : n = N := by omega
                  have tt : decide ((n : Int) < (N : Int)) = false := by simp; omega
                  have FH6 := Lib.hid F
                  have t3 : decide (n < N) = false := by simp; omega
                  have NH := Lib.hid nn
                  clear nn hlt F
                  go_wp2_with fail
                  go_ret
                  refine ⟨_, bv, bq, bo, rfl, ?_⟩
                  rw [← NH.out]
                  exact FH6.out
end Go.Proofs.Ytbljlnhgllbbdaa.Hf
