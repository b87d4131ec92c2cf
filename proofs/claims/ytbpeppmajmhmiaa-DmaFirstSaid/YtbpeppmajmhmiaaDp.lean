/- The channels, in plain terms. No program here. -/
import Derived.Test.YtbpeppmajmhmiaaBt
import Derived.Test.YtbpeppmajmhmiaaSg
namespace Go.Proofs.Ytbpeppmajmhmiaa.Dp
set_option linter.unusedVariables false
set_option linter.unusedSimpArgs false
open Go.RowKit Go.Proofs.Ytbpeppmajmhmiaa.Bt Go.Proofs.Ytbpeppmajmhmiaa.Sg

structure Ch where
  src : Int
  dst : Int
  count : Int
  ctl : Int
  at_ : Int
  to_ : Int
  left : Int
  pend : Bool
  first : Bool
  latch : Int
/-- Its cells. -/
def chv (c : Ch) : Nat → Value
  | 0 => .int .u32 c.src
  | 1 => .int .u32 c.dst
  | 2 => .int .i64 c.count
  | 3 => .int .u16 c.ctl
  | 4 => .int .u32 c.at_
  | 5 => .int .u32 c.to_
  | 6 => .int .i64 c.left
  | 7 => .bool c.pend
  | 8 => .bool c.first
  | _ => .int .u32 c.latch
structure Wf (c : Ch) : Prop where
  s0 : 0 ≤ c.src
  s1 : c.src < 4294967296
  d0 : 0 ≤ c.dst
  d1 : c.dst < 4294967296
  n0 : 0 ≤ c.count
  n1 : c.count < 65536
  c0 : 0 ≤ c.ctl
  c1 : c.ctl < 65536
  a0 : 0 ≤ c.at_
  a1 : c.at_ < 4294967296
  t0 : 0 ≤ c.to_
  t1 : c.to_ < 4294967296
  l0 : -1 ≤ c.left
  l1 : c.left ≤ 65536
  x0 : 0 ≤ c.latch
  x1 : c.latch < 4294967296
def zeroCh : Ch := ⟨0, 0, 0, 0, 0, 0, 0, false, false, 0⟩
theorem wf_zero : Wf zeroCh := by constructor <;> decide
/-- The cells of four channels. -/
def cells (u : Nat → Ch) : List Value := seg 40 fun k => chv (u (k / 10)) (k % 10)
theorem cells_at (u : Nat → Ch) {i j : Nat} (hi : i < 4) (hj : j < 10) : (cells u)[i * 10 + j]? = some (chv (u i) j) := by
  unfold cells
  rw [seg_at _ (by omega), show (i * 10 + j) / 10 = i by omega, show (i * 10 + j) % 10 = j by omega]
theorem cells_set (u : Nat → Ch) {i j : Nat} (hi : i < 4) (hj : j < 10) (c : Ch) (v : Value) (hv : chv c j = v) (hc : ∀ m, m < 10 → m ≠ j → chv c m = chv (u i) m) : (cells u).set (i * 10 + j) v = cells (upd u i c) := by
  unfold cells
  rw [seg_set]
  refine seg_congr fun k hk => ?_
  by_cases e : k = i * 10 + j
  · rw [e, upd_same, show (i * 10 + j) / 10 = i by omega, show (i * 10 + j) % 10 = j by omega, upd_same, hv]
  · rw [upd_ne _ _ e]
    by_cases f : k / 10 = i
    · rw [f, upd_same, hc (k % 10) (by omega) (by omega)]
    · rw [upd_ne _ _ f]
theorem cells_zero : (cells fun _ => zeroCh) = [.int .u32 0, .int .u32 0, .int .i64 0, .int .u16 0, .int .u32 0, .int .u32 0, .int .i64 0, .bool false, .bool false, .int .u32 0, .int .u32 0, .int .u32 0, .int .i64 0, .int .u16 0, .int .u32 0, .int .u32 0, .int .i64 0, .bool false, .bool false, .int .u32 0, .int .u32 0, .int .u32 0, .int .i64 0, .int .u16 0, .int .u32 0, .int .u32 0, .int .i64 0, .bool false, .bool false, .int .u32 0, .int .u32 0, .int .u32 0, .int .i64 0, .int .u16 0, .int .u32 0, .int .u32 0, .int .i64 0, .bool false, .bool false, .int .u32 0] := rfl
/-! ### what the calls do -/
def on (c : Ch) : Bool := c.ctl / 32768 == 1
def wh (c : Ch) : Int := c.ctl / 4096 % 4
def sound (c : Ch) (i : Int) : Bool := on c && (wh c == 3) && (i == 1 || i == 2)
def most (i : Int) : Int := if i = 3 then 65536 else 16384
def ldC (c : Ch) (i : Int) : Ch := { c with left := if sound c i then 4 else if c.count = 0 then most i else c.count, first := true }
def ctlX (x : Int) : Int := Go.bits .and .u16 x 63456
/-- A halfword is laid into a channel. -/
def wrC (c : Ch) (i part x : Int) : Ch :=
  if part = 0 then { c with src := c.src / 65536 * 65536 + x }
  else if part = 1 then { c with src := c.src % 65536 + (if i = 0 then x % 2048 else x % 4096) * 65536 }
  else if part = 2 then { c with dst := c.dst / 65536 * 65536 + x }
  else if part = 3 then { c with dst := c.dst % 65536 + (if i = 3 then x % 4096 else x % 2048) * 65536 }
  else if part = 4 then { c with count := x % most i }
  else if part = 5 then
    let d := { c with ctl := ctlX x }
    if on d = false then { d with pend := false }
    else if on c then d
    else
      let e := ldC { d with at_ := d.src, to_ := d.dst } i
      { e with pend := wh e == 0 }
  else c
def moment (c : Ch) (when : Int) : Ch := if (when = 1 ∨ when = 2) ∧ on c = true ∧ wh c = when then { c with pend := true } else c
def hungry (c : Ch) (i addr : Int) : Ch := if sound c i = true ∧ c.to_ = addr then { c with pend := true } else c
def ready (u : Nat → Ch) : Int := if (u 0).pend then 0 else if (u 1).pend then 1 else if (u 2).pend then 2 else if (u 3).pend then 3 else -1
def moved (a how width : Int) : Int := if how = 1 then (a - width) % 4294967296 else if how = 2 then a else (a + width) % 4294967296
def width (c : Ch) (i : Int) : Int := if c.ctl / 1024 % 2 = 1 ∨ sound c i = true then 4 else 2
/-- What was read is kept. -/
def rdC (c : Ch) (width x : Int) : Int := if width = 2 then x % 65536 * 65536 + x % 65536 else x
def how (c : Ch) : Int := c.ctl / 32 % 4
/-- Behind a unit; l: what is kept. -/
def took (c : Ch) (i l : Int) : Ch × Bool × Bool :=
  let d := { c with first := false, latch := l, at_ := moved c.at_ (c.ctl / 128 % 4) (width c i), to_ := if sound c i then c.to_ else moved c.to_ (how c) (width c i), left := c.left - 1 }
  if 0 < c.left - 1 then (d, false, false)
  else
    let asks := c.ctl / 16384 % 2 == 1
    let e := { d with pend := false }
    if c.ctl / 512 % 2 = 1 ∧ wh c ≠ 0 then (ldC (if how c = 3 then { e with to_ := e.dst } else e) i, true, asks)
    else ({ e with ctl := e.ctl % 32768 }, true, asks)
end Go.Proofs.Ytbpeppmajmhmiaa.Dp
