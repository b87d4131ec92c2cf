/- Scenes and their memories, in plain terms. No program here. -/
import Derived.Test.YthbpcenobaloaaaBt
import Derived.Test.YthbpcenobaloaaaSg
namespace Go.Proofs.Ythbpcenobaloaaa.Gp
set_option linter.unusedVariables false
set_option linter.unusedSimpArgs false
open Go.RowKit Go.Proofs.Ythbpcenobaloaaa.Bt Go.Proofs.Ythbpcenobaloaaa.Wk Go.Proofs.Ythbpcenobaloaaa.Sg

/-- A slice of bytes, and what it reads as. -/
structure Mem where
  A : Option Addr
  n : Nat
  cap : Nat
  f : Nat → Int
def Mem.v (m : Mem) : Value := .slice m.A m.n m.cap
structure Mok (m : Mem) : Prop where
  hm : m.n ≤ maxLen
  hf : ∀ i, i < m.n → 0 ≤ m.f i ∧ m.f i < 256
def Rd (w : World) (m : Mem) : Prop := Elts w m.A m.n 1 (fun i => [.int .u8 (m.f i)])
theorem Rd.at_ {w : World} {m : Mem} (h : Rd w m) {k : Nat} (hk : k < m.n) : ∃ a, m.A = some a ∧ (a.add k).block < w.heap.size ∧ w.cell? (a.add k) = some (.int .u8 (m.f k)) := by
  obtain ⟨a, e, hl, hc⟩ := h k hk
  refine ⟨a, e, by rw [add_block]; exact hl, ?_⟩
  have := hc 0 (by decide)
  simpa using this
theorem Rd.later {w w' : World} {m : Mem} (h : Rd w m) (hb : Below w.heap.size w w') : Rd w' m := Elts.keep h hb
theorem Rd.drewN {w : World} {m : Mem} (h : Rd w m) (n : Nat) : Rd (w.drewN n) m := h
/-- A byte of a memory. -/
def byteV (m : Mem) (a : Int) : Int := if 0 ≤ a ∧ a < m.n then m.f a.toNat else 0
def halfV (m : Mem) (a : Int) : Int := if 0 ≤ a ∧ a < (m.n : Int) - 1 then m.f a.toNat + 256 * m.f (a.toNat + 1) else 0
theorem byteV_bd {m : Mem} (h : Mok m) (a : Int) : 0 ≤ byteV m a ∧ byteV m a < 256 := by
  unfold byteV; split
  · exact h.hf _ (by omega)
  · omega
theorem halfV_bd {m : Mem} (h : Mok m) (a : Int) : 0 ≤ halfV m a ∧ halfV m a < 65536 := by
  unfold halfV; split
  · have := h.hf a.toNat (by omega)
    have := h.hf (a.toNat + 1) (by omega)
    omega
  · omega
/-- A scene's words. -/
structure Sc where
  ctl : Int
  bg : Nat → Int
  xs : Nat → Int
  ys : Nat → Int
  par : Nat → Int
  ref : Nat → Int
  mos : Int
  vr : Mem
  pa : Mem
  oa : Mem
def svc (s : Sc) (k : Nat) : Value :=
  if k = 0 then .int .u16 s.ctl else if k < 5 then .int .u16 (s.bg (k - 1)) else if k < 9 then .int .u16 (s.xs (k - 5)) else if k < 13 then .int .u16 (s.ys (k - 9))
  else if k < 21 then .int .i16 (s.par (k - 13)) else if k < 25 then .int .i32 (s.ref (k - 21)) else if k = 25 then .int .u16 s.mos else if k = 26 then s.vr.v else if k = 27 then s.pa.v else s.oa.v
def cellsS (s : Sc) : List Value := seg 29 (svc s)
structure Sok (s : Sc) : Prop where
  c0 : 0 ≤ s.ctl
  c1 : s.ctl < 65536
  b : ∀ i, i < 4 → 0 ≤ s.bg i ∧ s.bg i < 65536
  x : ∀ i, i < 4 → 0 ≤ s.xs i ∧ s.xs i < 65536
  y : ∀ i, i < 4 → 0 ≤ s.ys i ∧ s.ys i < 65536
  p : ∀ i, i < 8 → -32768 ≤ s.par i ∧ s.par i < 32768
  r : ∀ i, i < 4 → -2147483648 ≤ s.ref i ∧ s.ref i < 2147483648
  m0 : 0 ≤ s.mos
  m1 : s.mos < 65536
  vr : Mok s.vr
  pa : Mok s.pa
  oa : Mok s.oa
/-- Block b holds the scene s (type T), its memories lie there. -/
structure Sn (w : World) (b : Nat) (T : TypeId) (s : Sc) : Prop where
  at_ : w.heap[b]? = some (.cells (cellsS s).toArray T (0, 0))
  vr : Rd w s.vr
  pa : Rd w s.pa
  oa : Rd w s.oa
theorem Sn.later {w w' : World} {b : Nat} {T : TypeId} {s : Sc} (h : Sn w b T s) (hb : Below w.heap.size w w') : Sn w' b T s := ⟨keep hb h.at_, h.vr.later hb, h.pa.later hb, h.oa.later hb⟩
theorem Sn.drewN {w : World} {b : Nat} {T : TypeId} {s : Sc} (h : Sn w b T s) (n : Nat) : Sn (w.drewN n) b T s := ⟨h.at_, h.vr, h.pa, h.oa⟩
section
variable {w : World} {b : Nat} {T : TypeId} {s : Sc}
theorem Sn.cell (h : Sn w b T s) {k : Nat} (hk : k < 29) : w.cell? ⟨b, k, none⟩ = some (svc s k) := by
  rw [cellsAt h.at_, toArray_at]; exact seg_at _ hk
theorem Sn.ctl (h : Sn w b T s) : w.cell? ⟨b, 0, none⟩ = some (.int .u16 s.ctl) := h.cell (k := 0) (by decide)
theorem Sn.bg (h : Sn w b T s) {i : Nat} (hi : i < 4) : w.cell? ⟨b, 1 + i, none⟩ = some (.int .u16 (s.bg i)) := by
  rw [h.cell (by omega)]; unfold svc; rw [if_neg (by omega), if_pos (by omega), show 1 + i - 1 = i by omega]
theorem Sn.xs (h : Sn w b T s) {i : Nat} (hi : i < 4) : w.cell? ⟨b, 5 + i, none⟩ = some (.int .u16 (s.xs i)) := by
  rw [h.cell (by omega)]; unfold svc; rw [if_neg (by omega), if_neg (by omega), if_pos (by omega), show 5 + i - 5 = i by omega]
theorem Sn.ys (h : Sn w b T s) {i : Nat} (hi : i < 4) : w.cell? ⟨b, 9 + i, none⟩ = some (.int .u16 (s.ys i)) := by
  rw [h.cell (by omega)]; unfold svc; rw [if_neg (by omega), if_neg (by omega), if_neg (by omega), if_pos (by omega), show 9 + i - 9 = i by omega]
theorem Sn.par (h : Sn w b T s) {i : Nat} (hi : i < 8) : w.cell? ⟨b, 13 + i, none⟩ = some (.int .i16 (s.par i)) := by
  rw [h.cell (by omega)]; unfold svc; rw [if_neg (by omega), if_neg (by omega), if_neg (by omega), if_neg (by omega), if_pos (by omega), show 13 + i - 13 = i by omega]
theorem Sn.ref (h : Sn w b T s) {i : Nat} (hi : i < 4) : w.cell? ⟨b, 21 + i, none⟩ = some (.int .i32 (s.ref i)) := by
  rw [h.cell (by omega)]; unfold svc; rw [if_neg (by omega), if_neg (by omega), if_neg (by omega), if_neg (by omega), if_neg (by omega), if_pos (by omega), show 21 + i - 21 = i by omega]
theorem Sn.mos (h : Sn w b T s) : w.cell? ⟨b, 25, none⟩ = some (.int .u16 s.mos) := h.cell (k := 25) (by decide)
theorem Sn.vram (h : Sn w b T s) : w.cell? ⟨b, 26, none⟩ = some s.vr.v := h.cell (k := 26) (by decide)
theorem Sn.pal (h : Sn w b T s) : w.cell? ⟨b, 27, none⟩ = some s.pa.v := h.cell (k := 27) (by decide)
theorem Sn.oam (h : Sn w b T s) : w.cell? ⟨b, 28, none⟩ = some s.oa.v := h.cell (k := 28) (by decide)
theorem Sn.lt (h : Sn w b T s) : b < w.heap.size := sizeAt h.at_
theorem Sn.free (h : Sn w b T s) (j : Nat) : w.frozen? ⟨b, j, none⟩ = false := freeAt h.at_ j
end
/-! ### what the functions answer -/
def colourV (s : Sc) (n : Int) : Int := if 0 ≤ n ∧ n ≤ s.pa.n then halfV s.pa (2 * n) % 32768 else 0
def modeV (s : Sc) : Int := s.ctl % 8
def kindV (s : Sc) (i : Int) : Int :=
  if modeV s = 0 then 1 else if modeV s = 1 then (if i < 2 then 1 else if i = 2 then 2 else 0) else if modeV s = 2 then (if i < 2 then 0 else 2) else if modeV s ≤ 5 then (if i = 2 then 3 else 0) else 0
def shownV (s : Sc) (i : Int) : Bool := decide (0 ≤ i ∧ i < 4) && (s.ctl / 2 ^ (8 + i.toNat) % 2 == 1) && (kindV s i != 0) && (s.ctl / 128 % 2 == 0)
theorem colourV_bd {s : Sc} (h : Sok s) (n : Int) : 0 ≤ colourV s n ∧ colourV s n < 32768 := by
  unfold colourV; split
  · have := halfV_bd h.pa (2 * n); omega
  · omega
end Go.Proofs.Ythbpcenobaloaaa.Gp
