/- Sprites in plain terms. No program here. -/
import Derived.Test.YthbpcenobaloaaaGp
namespace Go.Proofs.Ythbpcenobaloaaa.Pp
set_option linter.unusedVariables false
set_option linter.unusedSimpArgs false
open Go.RowKit Go.Proofs.Ythbpcenobaloaaa.Bt Go.Proofs.Ythbpcenobaloaaa.Wk Go.Proofs.Ythbpcenobaloaaa.Sg Go.Proofs.Ythbpcenobaloaaa.Gp

/-- A sprite's words taken apart. -/
structure Sp where
  x : Int
  y : Int
  wide : Int
  high : Int
  boxW : Int
  boxH : Int
  turned : Bool
  mode : Int
  mosaic : Bool
  many : Bool
  flipX : Bool
  flipY : Bool
  p0 : Int
  p1 : Int
  p2 : Int
  p3 : Int
  tile : Int
  prio : Int
  palette : Int
def cellsP (p : Sp) : List Value := [.int .i64 p.x, .int .i64 p.y, .int .i64 p.wide, .int .i64 p.high, .int .i64 p.boxW, .int .i64 p.boxH, .bool p.turned, .int .i64 p.mode, .bool p.mosaic, .bool p.many, .bool p.flipX, .bool p.flipY, .int .i64 p.p0, .int .i64 p.p1, .int .i64 p.p2, .int .i64 p.p3, .int .i64 p.tile, .int .i64 p.prio, .int .i64 p.palette]
def longV (n : Int) : Int := if n = 0 then 16 else if n = 3 then 64 else 32
def shortV (n : Int) : Int := if n = 0 then 8 else if n = 1 then 8 else if n = 2 then 16 else 32
def squareV (n : Int) : Int := if n = 0 then 8 else if n = 1 then 16 else if n = 2 then 32 else 64
def sizW (sh n : Int) : Int := if sh = 0 then squareV n else if sh = 1 then longV n else shortV n
def sizH (sh n : Int) : Int := if sh = 0 then squareV n else if sh = 1 then shortV n else longV n
theorem siz_bd (sh n : Int) : (sizW sh n = 8 ∨ sizW sh n = 16 ∨ sizW sh n = 32 ∨ sizW sh n = 64) ∧ (sizH sh n = 8 ∨ sizH sh n = 16 ∨ sizH sh n = 32 ∨ sizH sh n = 64) := by
  unfold sizW sizH squareV longV shortV
  refine ⟨?_, ?_⟩ <;> (repeat' split) <;> omega
def sext (n : Int) : Int := if 32768 ≤ n then n - 65536 else n
theorem sext_bd {n : Int} (h0 : 0 ≤ n) (h1 : n < 65536) : -32768 ≤ sext n ∧ sext n < 32768 := by unfold sext; split <;> omega
/-- Sprite i's words. -/
def wA (s : Sc) (i : Nat) : Int := halfV s.oa (8 * i)
def wB (s : Sc) (i : Nat) : Int := halfV s.oa (8 * i + 2)
def wC (s : Sc) (i : Nat) : Int := halfV s.oa (8 * i + 4)
theorem wA_bd {s : Sc} (h : Sok s) (i : Nat) : 0 ≤ wA s i ∧ wA s i < 65536 := halfV_bd h.oa _
theorem wB_bd {s : Sc} (h : Sok s) (i : Nat) : 0 ≤ wB s i ∧ wB s i < 65536 := halfV_bd h.oa _
theorem wC_bd {s : Sc} (h : Sok s) (i : Nat) : 0 ≤ wC s i ∧ wC s i < 65536 := halfV_bd h.oa _
/-- Is it shown? -/
def okV (s : Sc) (i : Nat) : Bool := !(wA s i / 16384 == 3) && !(wA s i / 1024 % 4 == 3) && ((wA s i / 256 % 2 == 1) || !(wA s i / 512 % 2 == 1))
def parV (s : Sc) (i : Nat) (k : Int) : Int := sext (halfV s.oa (wB s i / 512 % 32 * 32 + 8 * k + 6))
def isTurned (s : Sc) (i : Nat) : Bool := wA s i / 256 % 2 == 1
def boxM (s : Sc) (i : Nat) : Int := if wA s i / 512 % 2 = 1 then 2 else 1
def spV (s : Sc) (i : Nat) : Sp where
  x := if 256 ≤ wB s i % 512 then wB s i % 512 - 512 else wB s i % 512
  y := if 160 ≤ wA s i % 256 then wA s i % 256 - 256 else wA s i % 256
  wide := sizW (wA s i / 16384) (wB s i / 16384)
  high := sizH (wA s i / 16384) (wB s i / 16384)
  boxW := if isTurned s i then boxM s i * sizW (wA s i / 16384) (wB s i / 16384) else sizW (wA s i / 16384) (wB s i / 16384)
  boxH := if isTurned s i then boxM s i * sizH (wA s i / 16384) (wB s i / 16384) else sizH (wA s i / 16384) (wB s i / 16384)
  turned := isTurned s i
  mode := wA s i / 1024 % 4
  mosaic := wA s i / 4096 % 2 == 1
  many := wA s i / 8192 % 2 == 1
  flipX := if isTurned s i then false else wB s i / 4096 % 2 == 1
  flipY := if isTurned s i then false else wB s i / 8192 % 2 == 1
  p0 := if isTurned s i then parV s i 0 else 256
  p1 := if isTurned s i then parV s i 1 else 0
  p2 := if isTurned s i then parV s i 2 else 0
  p3 := if isTurned s i then parV s i 3 else 256
  tile := wC s i % 1024
  prio := wC s i / 1024 % 4
  palette := wC s i / 4096
/-- What the walks need of a sprite. -/
structure Pok (p : Sp) : Prop where
  x0 : -256 ≤ p.x
  x1 : p.x < 256
  y0 : -96 ≤ p.y
  y1 : p.y < 160
  w : p.wide = 8 ∨ p.wide = 16 ∨ p.wide = 32 ∨ p.wide = 64
  h : p.high = 8 ∨ p.high = 16 ∨ p.high = 32 ∨ p.high = 64
  bw : p.boxW = p.wide ∨ p.boxW = 2 * p.wide
  bh : p.boxH = p.high ∨ p.boxH = 2 * p.high
  m0 : 0 ≤ p.mode
  m1 : p.mode < 4
  a0 : -32768 ≤ p.p0 ∧ p.p0 < 32768
  a1 : -32768 ≤ p.p1 ∧ p.p1 < 32768
  a2 : -32768 ≤ p.p2 ∧ p.p2 < 32768
  a3 : -32768 ≤ p.p3 ∧ p.p3 < 32768
  t0 : 0 ≤ p.tile
  t1 : p.tile < 1024
  r0 : 0 ≤ p.prio
  r1 : p.prio < 4
  c0 : 0 ≤ p.palette
  c1 : p.palette < 16
  nt : p.turned = false → p.boxW = p.wide ∧ p.boxH = p.high
theorem boxM_bd (s : Sc) (i : Nat) : boxM s i = 1 ∨ boxM s i = 2 := by unfold boxM; split <;> omega
theorem par_bd {s : Sc} (h : Sok s) (i : Nat) (k : Int) : -32768 ≤ parV s i k ∧ parV s i k < 32768 := by
  have := halfV_bd h.oa (wB s i / 512 % 32 * 32 + 8 * k + 6)
  exact sext_bd this.1 this.2
theorem sp_ok {s : Sc} (h : Sok s) (i : Nat) : Pok (spV s i) := by
  have A := wA_bd h i
  have B := wB_bd h i
  have C := wC_bd h i
  have Z := siz_bd (wA s i / 16384) (wB s i / 16384)
  have M := boxM_bd s i
  have P0 := par_bd h i 0
  have P1 := par_bd h i 1
  have P2 := par_bd h i 2
  have P3 := par_bd h i 3
  unfold spV
  constructor <;> dsimp only
  · split <;> omega
  · split <;> omega
  · split <;> omega
  · split <;> omega
  · exact Z.1
  · exact Z.2
  · split
    · rcases M with e | e <;> rw [e] <;> omega
    · exact .inl rfl
  · split
    · rcases M with e | e <;> rw [e] <;> omega
    · exact .inl rfl
  · omega
  · omega
  · split <;> omega
  · split <;> omega
  · split <;> omega
  · split <;> omega
  · omega
  · omega
  · omega
  · omega
  · omega
  · omega
  · intro e; rw [if_neg (by rw [e]; decide), if_neg (by rw [e]; decide)]; exact ⟨rfl, rfl⟩
/-! ### a dot of a sprite -/
def spotX (p : Sp) (x y : Int) : Int := if p.turned then p.wide / 2 + (p.p0 * (x - p.boxW / 2) + p.p1 * (y - p.boxH / 2)) / 256 else if p.flipX then p.wide - 1 - x else x
def spotY (p : Sp) (x y : Int) : Int := if p.turned then p.high / 2 + (p.p2 * (x - p.boxW / 2) + p.p3 * (y - p.boxH / 2)) / 256 else if p.flipY then p.high - 1 - y else y
def unitV (p : Sp) : Int := if p.many then 2 else 1
def rowV (s : Sc) (p : Sp) : Int := if s.ctl / 64 % 2 = 1 then p.wide / 8 * unitV p else 32
def tileN (s : Sc) (p : Sp) (x y : Int) : Int := (if p.many then p.tile - p.tile % 2 else p.tile) + (y / 8 * rowV s p + x / 8 * unitV p)
def nibP (k x : Int) : Int := if x % 2 = 0 then k % 16 else k / 16 % 16
/-- Inside the picture. -/
def colIn (s : Sc) (p : Sp) (x y : Int) : Int :=
  if 3 ≤ modeV s ∧ tileN s p x y % 1024 < 512 then 0
  else if p.many then byteV s.vr (65536 + tileN s p x y % 1024 * 32 + (y % 8 * 8 + x % 8))
  else if nibP (byteV s.vr (65536 + tileN s p x y % 1024 * 32 + (y % 8 * 4 + x % 8 / 2))) x = 0 then 0
  else p.palette * 16 + nibP (byteV s.vr (65536 + tileN s p x y % 1024 * 32 + (y % 8 * 4 + x % 8 / 2))) x
def colP (s : Sc) (p : Sp) (x y : Int) : Int := if x < 0 ∨ y < 0 ∨ p.wide ≤ x ∨ p.high ≤ y then 0 else colIn s p x y
def inBoxV (s : Sc) (p : Sp) (x y : Int) : Int := colP s p (spotX p x y) (spotY p x y)
theorem nibP_bd (k x : Int) : 0 ≤ nibP k x ∧ nibP k x < 16 := by unfold nibP; split <;> omega
theorem colP_bd {s : Sc} (h : Sok s) {p : Sp} (k : Pok p) (x y : Int) : 0 ≤ colP s p x y ∧ colP s p x y < 256 := by
  have c0 := k.c0
  have c1 := k.c1
  unfold colP colIn
  split
  · omega
  · split
    · omega
    · split
      · exact byteV_bd h.vr _
      · have := nibP_bd (byteV s.vr (65536 + tileN s p x y % 1024 * 32 + (y % 8 * 4 + x % 8 / 2))) x
        split <;> omega
end Go.Proofs.Ythbpcenobaloaaa.Pp
