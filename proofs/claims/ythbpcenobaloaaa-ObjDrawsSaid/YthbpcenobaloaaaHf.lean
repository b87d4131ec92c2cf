/- What filled lays, in plain terms. -/
import Derived.Test.YthbpcenobaloaaaHs
import Derived.Test.YthbpcenobaloaaaPg
import Derived.Test.YthbpcenobaloaaaLp
namespace Go.Proofs.Ythbpcenobaloaaa.Hf
set_option linter.unusedVariables false
set_option linter.unusedSimpArgs false
open Go.RowKit Go.Proofs.Ythbpcenobaloaaa.Bt Go.Proofs.Ythbpcenobaloaaa.Wk Go.Proofs.Ythbpcenobaloaaa.Sg Go.Proofs.Ythbpcenobaloaaa.Gp Go.Proofs.Ythbpcenobaloaaa.Gm Go.Proofs.Ythbpcenobaloaaa.Hs Go.Proofs.Ythbpcenobaloaaa.Lp Go.Proofs.Ythbpcenobaloaaa.Pg

theorem alloc_new1 (w : World) (a b : Obj) : ((w.alloc a).alloc b).heap[w.heap.size + 1]? = some b := by have := alloc_new (w.alloc a) b; simpa using this
theorem alloc_setRow1 (w : World) (a : Obj) (z cs : Array Value) (t : TypeId) (fr : Nat × Nat) : ((w.alloc a).alloc (.cells z t fr)).setRow (w.heap.size + 1) cs = (w.alloc a).alloc (.cells cs t fr) := by
  have := alloc_setRow (w.alloc a) z cs t fr
  rwa [show (w.alloc a).heap.size = w.heap.size + 1 by simp] at this
/-- n bytes. -/
def bytesC (n : Nat) (f : Nat → Int) : List Value := seg n fun k => .int .u8 (f k)
abbrev bytesO (n : Nat) (f : Nat → Int) : Obj := .cells (bytesC n f).toArray 5 (0, 0)
theorem made_bytes (n : Nat) : madeCells #[Value.int .u8 0] n = (bytesC n fun _ => 0).toArray := by
  apply Array.toList_inj.1
  simp [madeCells, bytesC, seg, Nat.mod_one]
theorem make_bytes (n : Nat) (hn : n ≤ 1000000) (w : World) : (Instr.makeSlice 29 (.int .i64 n) (.int .i64 n)).run Try.prog w = .ok (.slice (some ⟨w.heap.size, 0, none⟩) n n) (w.alloc (bytesO n fun _ => 0)) := by
  obtain ⟨i, hi, hz, hs, hb⟩ := info_parts (P := Try.prog) (e := 5) (z := .int .u8 0) (size := 1) (bytes := 1) (by kernel_rfl)
  have := run_make (P := Try.prog) w 29 5 i (.int .u8 0) Try.underlying29 hi hz .i64 .i64 n n (by omega) (by omega) (by rw [hb]; omega) (by omega)
  rw [this, hs, Nat.mul_one, Int.toNat_natCast]
  congr 2
  exact congrArg (fun z => Obj.cells z 5 (0, 0)) (made_bytes n)
def withMem (s : Sc) (bv bq bo : Nat) (fv fq fo : Nat → Int) : Sc := { s with vr := ⟨some ⟨bv, 0, none⟩, 98304, 98304, fv⟩, pa := ⟨some ⟨bq, 0, none⟩, 1024, 1024, fq⟩, oa := ⟨some ⟨bo, 0, none⟩, 1024, 1024, fo⟩ }
/-- The scene and its memories, all of them new since w0. -/
structure Fil (w0 : World) (L : List Value) (sb bv bq bo : Nat) (s : Sc) (fv fq fo : Nat → Int) (W : World) : Prop where
  at_ : W.heap[sb]? = some (.cells (cellsS (withMem s bv bq bo fv fq fo)).toArray 31 (0, 0))
  v : W.heap[bv]? = some (bytesO 98304 fv)
  q : W.heap[bq]? = some (bytesO 1024 fq)
  o : W.heap[bo]? = some (bytesO 1024 fo)
  sv : sb ≠ bv
  sq : sb ≠ bq
  so : sb ≠ bo
  vq : bv ≠ bq
  vo : bv ≠ bo
  qo : bq ≠ bo
  bx : W.heap[w0.heap.size]? = some (.cells L.toArray 36 (0, 0))
  ls : w0.heap.size < sb
  lv : w0.heap.size < bv
  lq : w0.heap.size < bq
  lo : w0.heap.size < bo
  be : Below w0.heap.size w0 W
theorem with_cells (s : Sc) (bv bq bo : Nat) (fv fq fo : Nat → Int) : (((cellsS s).toArray.setIfInBounds 26 (.slice (some ⟨bv, 0, none⟩) 98304 98304)).setIfInBounds 27 (.slice (some ⟨bq, 0, none⟩) 1024 1024)).setIfInBounds 28 (.slice (some ⟨bo, 0, none⟩) 1024 1024) = (cellsS (withMem s bv bq bo fv fq fo)).toArray := rfl
theorem fil_zero {w0 w2 : World} {L : List Value} {sb bv bq bo : Nat} {s : Sc} {a b c : Obj} (AS : w2.heap[sb]? = some (.cells (cellsS s).toArray 31 (0, 0))) (hb : Below w0.heap.size w0 w2) (hs : w0.heap.size < sb) (BX : w2.heap[w0.heap.size]? = some (.cells L.toArray 36 (0, 0)))
    (hv : (bv = w2.heap.size ∧ a = bytesO 98304 (fun _ => 0)) ∨ (bv = w2.heap.size + 1 ∧ b = bytesO 98304 (fun _ => 0)) ∨ (bv = w2.heap.size + 1 + 1 ∧ c = bytesO 98304 (fun _ => 0)))
    (hq : (bq = w2.heap.size ∧ a = bytesO 1024 (fun _ => 0)) ∨ (bq = w2.heap.size + 1 ∧ b = bytesO 1024 (fun _ => 0)) ∨ (bq = w2.heap.size + 1 + 1 ∧ c = bytesO 1024 (fun _ => 0)))
    (ho : (bo = w2.heap.size ∧ a = bytesO 1024 (fun _ => 0)) ∨ (bo = w2.heap.size + 1 ∧ b = bytesO 1024 (fun _ => 0)) ∨ (bo = w2.heap.size + 1 + 1 ∧ c = bytesO 1024 (fun _ => 0)))
    (nvq : bv ≠ bq) (nvo : bv ≠ bo) (nqo : bq ≠ bo) :
    Fil w0 L sb bv bq bo s (fun _ => 0) (fun _ => 0) (fun _ => 0) ((((((w2.setCell ⟨sb, 26, none⟩ (.slice (some ⟨bv, 0, none⟩) 98304 98304)).setCell ⟨sb, 27, none⟩ (.slice (some ⟨bq, 0, none⟩) 1024 1024)).setCell ⟨sb, 28, none⟩ (.slice (some ⟨bo, 0, none⟩) 1024 1024)).alloc a).alloc b).alloc c).drew := by
  have O := ((Only.refl AS).set (j := 26) (.slice (some ⟨bv, 0, none⟩) 98304 98304)).set (j := 27) (.slice (some ⟨bq, 0, none⟩) 1024 1024) |>.set (j := 28) (.slice (some ⟨bo, 0, none⟩) 1024 1024)
  rw [with_cells s bv bq bo (fun _ => 0) (fun _ => 0) (fun _ => 0)] at O
  have hsz : (((w2.setCell ⟨sb, 26, none⟩ (.slice (some ⟨bv, 0, none⟩) 98304 98304)).setCell ⟨sb, 27, none⟩ (.slice (some ⟨bq, 0, none⟩) 1024 1024)).setCell ⟨sb, 28, none⟩ (.slice (some ⟨bo, 0, none⟩) 1024 1024)).heap.size = w2.heap.size := by simp [World.setCell]
  generalize ((w2.setCell ⟨sb, 26, none⟩ (.slice (some ⟨bv, 0, none⟩) 98304 98304)).setCell ⟨sb, 27, none⟩ (.slice (some ⟨bq, 0, none⟩) 1024 1024)).setCell ⟨sb, 28, none⟩ (.slice (some ⟨bo, 0, none⟩) 1024 1024) = w3 at *
  have lt := sizeAt AS
  have ltB := hb.size
  have H0 : (((w3.alloc a).alloc b).alloc c).heap[w2.heap.size]? = some a := by rw [← hsz]; exact alloc_old _ (alloc_old _ (alloc_new _ _))
  have H1 : (((w3.alloc a).alloc b).alloc c).heap[w2.heap.size + 1]? = some b := by rw [← hsz]; exact alloc_old _ (alloc_new1 _ _ _)
  have H2 : (((w3.alloc a).alloc b).alloc c).heap[w2.heap.size + 1 + 1]? = some c := by
    have := alloc_new1 (w3.alloc a) b c
    rwa [show (w3.alloc a).heap.size = w2.heap.size + 1 by simp [hsz]] at this
  have F : ∀ {z : Nat} {x : Obj}, ((z = w2.heap.size ∧ a = x) ∨ (z = w2.heap.size + 1 ∧ b = x) ∨ (z = w2.heap.size + 1 + 1 ∧ c = x)) → (((w3.alloc a).alloc b).alloc c).heap[z]? = some x ∧ w2.heap.size ≤ z := by
    rintro z x (⟨rfl, rfl⟩ | ⟨rfl, rfl⟩ | ⟨rfl, rfl⟩)
    · exact ⟨H0, by omega⟩
    · exact ⟨H1, by omega⟩
    · exact ⟨H2, by omega⟩
  obtain ⟨v1, v2⟩ := F hv
  obtain ⟨q1, q2⟩ := F hq
  obtain ⟨o1, o2⟩ := F ho
  have be := below_only hb O (by omega) hb.size
  exact ⟨alloc_old _ (alloc_old _ (alloc_old _ O.at_)), v1, q1, o1, by omega, by omega, by omega, nvq, nvo, nqo, alloc_old _ (alloc_old _ (alloc_old _ (O.keep BX (by omega)))), hs, by omega, by omega, by omega,
    below_d1 (((be.alloc be.size _).alloc (by have := be.size; simp; omega) _).alloc (by have := be.size; simp; omega) _)⟩
theorem info_scene : (Try.prog.info? 31).map (·.size) = some 29 := by kernel_rfl
theorem sc_size (s : Sc) : (cellsS s).toArray.size = 29 := by simp [cellsS, seg_length]
theorem sc_len (s : Sc) : (cellsS s).length = 29 := by simp [cellsS, seg_length]
theorem sc_one (s : Sc) : (cellsS s).toArray.all (·.oneCell') = true := by
  rw [Array.all_eq_true']
  intro x hx
  simp only [cellsS, seg, List.mem_toArray, List.mem_map] at hx
  obtain ⟨i, _, rfl⟩ := hx
  unfold svc
  repeat' split
  all_goals rfl
theorem bytes_at {n i : Nat} (f : Nat → Int) (h : i < n) : (bytesC n f).toArray[i]? = some (.int .u8 (f i)) := by rw [toArray_at]; exact seg_at _ h
theorem bytes_set {n i : Nat} (f : Nat → Int) (v : Int) : (bytesC n f).toArray.setIfInBounds i (.int .u8 v) = (bytesC n (upd f i v)).toArray := by
  unfold bytesC
  rw [toArray_set, seg_set]
  congr 1
  exact seg_congr fun k _ => by unfold upd; split <;> rfl
section
variable {w0 W : World} {L : List Value} {sb bv bq bo : Nat} {s : Sc} {fv fq fo : Nat → Int}
theorem Fil.drewN (h : Fil w0 L sb bv bq bo s fv fq fo W) (n : Nat) : Fil w0 L sb bv bq bo s fv fq fo (W.drewN n) := ⟨h.at_, h.v, h.q, h.o, h.sv, h.sq, h.so, h.vq, h.vo, h.qo, h.bx, h.ls, h.lv, h.lq, h.lo, below_dn h.be n⟩
theorem Fil.pal (h : Fil w0 L sb bv bq bo s fv fq fo W) (i : Nat) (x : Int) : Fil w0 L sb bv bq bo s fv (upd fq i x) fo (W.setCell ⟨bq, i, none⟩ (.int .u8 x)) := by
  have O := (Only.refl h.q).set (j := i) (.int .u8 x)
  rw [bytes_set] at O
  exact ⟨O.keep h.at_ h.sq, O.keep h.v h.vq, O.at_, O.keep h.o (Ne.symm h.qo), h.sv, h.sq, h.so, h.vq, h.vo, h.qo, O.keep h.bx (by have := h.lq; omega), h.ls, h.lv, h.lq, h.lo, below_only h.be O (by have := h.lq; omega) h.be.size⟩
theorem Fil.vra (h : Fil w0 L sb bv bq bo s fv fq fo W) (i : Nat) (x : Int) : Fil w0 L sb bv bq bo s (upd fv i x) fq fo (W.setCell ⟨bv, i, none⟩ (.int .u8 x)) := by
  have O := (Only.refl h.v).set (j := i) (.int .u8 x)
  rw [bytes_set] at O
  exact ⟨O.keep h.at_ h.sv, O.at_, O.keep h.q (Ne.symm h.vq), O.keep h.o (Ne.symm h.vo), h.sv, h.sq, h.so, h.vq, h.vo, h.qo, O.keep h.bx (by have := h.lv; omega), h.ls, h.lv, h.lq, h.lo, below_only h.be O (by have := h.lv; omega) h.be.size⟩
theorem Fil.oam (h : Fil w0 L sb bv bq bo s fv fq fo W) (i : Nat) (x : Int) : Fil w0 L sb bv bq bo s fv fq (upd fo i x) (W.setCell ⟨bo, i, none⟩ (.int .u8 x)) := by
  have O := (Only.refl h.o).set (j := i) (.int .u8 x)
  rw [bytes_set] at O
  exact ⟨O.keep h.at_ h.so, O.keep h.v h.vo, O.keep h.q h.qo, O.at_, h.sv, h.sq, h.so, h.vq, h.vo, h.qo, O.keep h.bx (by have := h.lo; omega), h.ls, h.lv, h.lq, h.lo, below_only h.be O (by have := h.lo; omega) h.be.size⟩
end
/-- The numbers that are drawn. -/
def nx (x : Int) : Int := (x * 1664525 + 1013904223) % 4294967296
def rnd (x : Int) : Nat → Int
  | 0 => x
  | n + 1 => nx (rnd x n)
theorem nx_bd (x : Int) : 0 ≤ nx x ∧ nx x < 4294967296 := by unfold nx; omega
theorem rnd_bd {x : Int} (h0 : 0 ≤ x) (h1 : x < 4294967296) : ∀ n, 0 ≤ rnd x n ∧ rnd x n < 4294967296
  | 0 => ⟨h0, h1⟩
  | n + 1 => nx_bd _
theorem int_eq {k : IntKind} {a b : Int} (h : a = b) : Value.int k a = Value.int k b := by rw [h]
def palF (x : Int) (i : Nat) : Int := rnd x (i + 1) / 16777216
def vrB (y : Int) : Int := if y / 1073741824 ≠ 0 then y / 4194304 % 256 else 0
def vrF (x : Int) (i : Nat) : Int := vrB (rnd x (1024 + i + 1))
/-- n of the bytes are laid. -/
def uptoN (g f : Nat → Int) (n : Nat) : Nat → Int := fun k => if k < n then g k else f k
theorem uptoN_zero (g f : Nat → Int) : uptoN g f 0 = f := by funext k; simp [uptoN]
theorem uptoN_upd (g f : Nat → Int) (n : Nat) : upd (uptoN g f n) n (g n) = uptoN g f (n + 1) := by
  funext k
  unfold upd uptoN
  by_cases e : k = n
  · subst e; simp
  · have : (k < n) ↔ (k < n + 1) := by omega
    simp [e, this]
theorem uptoN_same {g f : Nat → Int} {n : Nat} (h : g n = f n) : uptoN g f (n + 1) = uptoN g f n := by
  rw [← uptoN_upd]
  funext k
  unfold upd uptoN
  by_cases e : k = n
  · subst e; simp [h]
  · simp [e]
def oamF (n k : Nat) : Int := if k % 8 = 1 ∧ k < 8 * n then 2 else 0
theorem oamF_zero : oamF 0 = fun _ => 0 := by funext k; simp [oamF]
theorem oamF_succ (n : Nat) : upd (oamF n) (8 * n + 1) 2 = oamF (n + 1) := by
  funext k
  unfold upd oamF
  by_cases e : k = 8 * n + 1
  · rw [if_pos e, if_pos (by omega)]
  · rw [if_neg e]
    have : (k % 8 = 1 ∧ k < 8 * n) ↔ (k % 8 = 1 ∧ k < 8 * (n + 1)) := by omega
    simp [this]
/-- The numbers go on as long as none of them is 0. -/
def aliveN (x : Int) : Nat → Bool
  | 0 => !(rnd x 1024 == 0)
  | k + 1 => aliveN x k && !(rnd x (1024 + (k + 1)) == 0)
def vrO (x : Int) (i : Nat) : Int := if i < 65536 then 0 else if aliveN x (i - 65536) then vrB (rnd x (1024 + (i - 65536) + 1)) else 0
theorem alive_later {x : Int} {k : Nat} (h : aliveN x k = false) : ∀ m, aliveN x (k + m) = false
  | 0 => h
  | m + 1 => by
    have := alive_later h m
    show (aliveN x (k + m) && _) = false
    rw [this]; rfl
theorem alive_succ {x : Int} {k : Nat} (h : aliveN x k = true) : aliveN x (k + 1) = !(rnd x (1024 + (k + 1)) == 0) := by
  show (aliveN x k && _) = _
  rw [h]; rfl
/-- What a look says of the sprites: n words of three, m numbers. -/
structure Ok where
  N : Nat
  M : Nat
  wd : Nat → Nat → Int
  nu : Nat → Int
def oaF (d : Ok) (k : Nat) : Int :=
  if k % 8 < 6 then (if k / 8 < d.N then (if k % 2 = 0 then d.wd (k / 8) (k % 8 / 2) % 256 else d.wd (k / 8) (k % 8 / 2) / 256) else if k % 8 = 1 then 2 else 0)
  else if k / 8 < d.M then (if k % 8 = 6 then d.nu (k / 8) % 256 else d.nu (k / 8) % 65536 / 256) else 0
def oaU (d : Ok) (n : Nat) (k : Nat) : Int := if k / 8 < n then oaF d k else 0
theorem oaU_zero (d : Ok) : oaU d 0 = fun _ => 0 := by funext k; simp [oaU]
/-- Sprite n's first j words are laid. -/
def oaW (d : Ok) (n j : Nat) (k : Nat) : Int :=
  if k / 8 = n ∧ k % 8 < 2 * j then (if k % 2 = 0 then d.wd n (k % 8 / 2) % 256 else d.wd n (k % 8 / 2) / 256)
  else if k = 8 * n + 1 then 2 else oaU d n k
theorem oaW_zero (d : Ok) (n : Nat) : upd (oaU d n) (8 * n + 1) 2 = oaW d n 0 := by
  funext k
  unfold upd oaW
  by_cases e : k = 8 * n + 1
  · rw [if_pos e, if_neg (show ¬(k / 8 = n ∧ k % 8 < 2 * 0) by omega)]
  · rw [if_neg e, if_neg (show ¬(k / 8 = n ∧ k % 8 < 2 * 0) by omega)]
theorem oaW_succ (d : Ok) (n : Nat) {j : Nat} (hj : j < 3) : upd (upd (oaW d n j) (8 * n + 2 * j) (d.wd n j % 256)) (8 * n + 2 * j + 1) (d.wd n j / 256) = oaW d n (j + 1) := by
  funext k
  unfold upd oaW
  by_cases e1 : k = 8 * n + 2 * j + 1
  · rw [if_pos e1, if_pos (by omega), if_neg (by omega), show k % 8 / 2 = j by omega]
  · rw [if_neg e1]
    by_cases e0 : k = 8 * n + 2 * j
    · rw [if_pos e0, if_pos (by omega), if_pos (by omega), show k % 8 / 2 = j by omega]
    · rw [if_neg e0]
      by_cases g : k / 8 = n ∧ k % 8 < 2 * j
      · rw [if_pos g, if_pos (show k / 8 = n ∧ k % 8 < 2 * (j + 1) by omega)]
      · rw [if_neg g, if_neg (show ¬(k / 8 = n ∧ k % 8 < 2 * (j + 1)) by omega)]
/-- Behind the words. -/
def oaM (d : Ok) (n : Nat) : Nat → Int := if n < d.N then oaW d n 3 else oaW d n 0
theorem oaM_no (d : Ok) {n : Nat} (h : ¬ n < d.M) : oaM d n = oaU d (n + 1) := by
  funext k
  unfold oaM oaU
  by_cases g : k / 8 < n + 1
  · rw [if_pos g]
    by_cases e : k / 8 = n
    · unfold oaF
      rw [e]
      by_cases hN : n < d.N
      · rw [if_pos hN, if_pos hN]
        unfold oaW
        by_cases h6 : k % 8 < 6
        · rw [if_pos ⟨e, h6⟩, if_pos h6]
        · rw [if_neg (by omega), if_neg (by omega), if_neg h6, if_neg h]
          unfold oaU; rw [if_neg (by omega)]
      · rw [if_neg hN, if_neg hN]
        unfold oaW
        rw [if_neg (by omega)]
        by_cases h1 : k = 8 * n + 1
        · rw [if_pos h1, if_pos (by omega), if_pos (by omega)]
        · rw [if_neg h1]
          unfold oaU
          rw [if_neg (by omega)]
          by_cases h6 : k % 8 < 6
          · rw [if_pos h6, if_neg (by omega)]
          · rw [if_neg h6, if_neg h]
    · have : ∀ j, oaW d n j k = oaF d k := fun j => by
        unfold oaW
        rw [if_neg (by omega), if_neg (by omega)]
        unfold oaU
        rw [if_pos (by omega)]
      split <;> exact this _
  · rw [if_neg g]
    have : ∀ j, j ≤ 3 → oaW d n j k = 0 := fun j hj => by
      unfold oaW
      rw [if_neg (by omega), if_neg (by omega)]
      unfold oaU
      rw [if_neg (by omega)]
    split
    · exact this 3 (by omega)
    · exact this 0 (by omega)
theorem oaM_yes (d : Ok) {n : Nat} (h : n < d.M) : upd (upd (oaM d n) (8 * n + 6) (d.nu n % 256)) (8 * n + 7) (d.nu n % 65536 / 256) = oaU d (n + 1) := by
  funext k
  have N := congrFun (oaM_no { d with M := n } (n := n) (Nat.lt_irrefl n)) k
  have e0 : oaM { d with M := n } n k = oaM d n k := by
    unfold oaM
    have : ∀ j, oaW { d with M := n } n j k = oaW d n j k := fun j => by
      unfold oaW oaU oaF
      by_cases g : k / 8 < n
      · simp only [if_pos g, if_pos (show k / 8 < d.M by omega)]
      · simp only [if_neg g]
    by_cases hN : n < d.N
    · rw [if_pos (show n < ({ d with M := n } : Ok).N from hN), if_pos hN]; exact this 3
    · rw [if_neg (show ¬ n < ({ d with M := n } : Ok).N from hN), if_neg hN]; exact this 0
  rw [e0] at N
  unfold upd
  by_cases e7 : k = 8 * n + 7
  · rw [if_pos e7]
    unfold oaU oaF
    rw [if_pos (by omega), if_neg (by omega), if_pos (by omega), if_neg (by omega), show k / 8 = n by omega]
  · rw [if_neg e7]
    by_cases e6 : k = 8 * n + 6
    · rw [if_pos e6]
      unfold oaU oaF
      rw [if_pos (by omega), if_neg (by omega), if_pos (by omega), if_pos (by omega), show k / 8 = n by omega]
    · rw [if_neg e6, N]
      unfold oaU oaF
      by_cases g : k / 8 < n + 1
      · rw [if_pos g, if_pos g]
        by_cases h6 : k % 8 < 6
        · rw [if_pos h6, if_pos h6]
        · rw [if_neg h6, if_neg h6]
          have hl : k / 8 < n := by omega
          show (if k / 8 < n then _ else _) = _
          rw [if_pos hl, if_pos (show k / 8 < d.M by omega)]
      · rw [if_neg g, if_neg g]
end Go.Proofs.Ythbpcenobaloaaa.Hf
