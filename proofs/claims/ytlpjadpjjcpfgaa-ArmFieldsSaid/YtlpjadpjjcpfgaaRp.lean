/- What a word of ARM code is taken apart as, in plain terms. No program here. -/
import Derived.RowKit
namespace Go.Proofs.Ytlpjadpjjcpfgaa.Rp
set_option linter.unusedVariables false
set_option linter.unusedSimpArgs false
/-- An instruction's fields. -/
structure Ins where
  kd : Int
  cond : Int
  code : Int
  flags : Bool
  rd : Int
  rn : Int
  rs : Int
  rm : Int
  imm : Int
  hasImm : Bool
  shift : Int
  amount : Int
  byReg : Bool
  load : Bool
  byte : Bool
  signed : Bool
  pre : Bool
  up : Bool
  back : Bool
  user : Bool
  list : Int
  link : Bool
  long : Bool
  align : Bool
/-- Bits of a word. -/
def fl (w : Int) (i n : Nat) : Int := w / 2 ^ i % 2 ^ n
def tb (w : Int) (i : Nat) : Bool := w / 2 ^ i % 2 == 1
def none_ (c : Int) : Ins := ⟨0, c, 0, false, 0, 0, 0, 0, 0, false, 0, 0, false, false, false, false, false, false, false, false, 0, false, false, false⟩
def blockP (x c n : Int) : Ins := ⟨8, c, 0, false, 0, n, 0, 0, 0, false, 0, 0, false, (tb x 20), false, false, (tb x 24), (tb x 23), (tb x 21), (tb x 22), (x % 65536), false, false, false⟩
def wordP (x c d n m : Int) : Ins :=
  if tb x 25 then
    if tb x 4 then none_ c
    else ⟨7, c, 0, false, d, n, 0, m, 0, false, (fl x 5 2), (fl x 7 5), false, (tb x 20), (tb x 22), false, (tb x 24), (tb x 23), (tb x 21 || !tb x 24), false, 0, false, false, false⟩
  else ⟨7, c, 0, false, d, n, 0, 0, (x % 4096), true, 0, 0, false, (tb x 20), (tb x 22), false, (tb x 24), (tb x 23), (tb x 21 || !tb x 24), false, 0, false, false, false⟩
def halfP (x c d n m : Int) : Ins :=
  if tb x 20 = false ∧ fl x 5 2 ≠ 1 then none_ c
  else if tb x 22 then ⟨6, c, (fl x 5 2), false, d, n, 0, 0, (x / 256 % 16 * 16 + x % 16), true, 0, 0, false, (tb x 20), false, false, (tb x 24), (tb x 23), (tb x 21 || !tb x 24), false, 0, false, false, false⟩
  else ⟨6, c, (fl x 5 2), false, d, n, 0, m, 0, false, 0, 0, false, (tb x 20), false, false, (tb x 24), (tb x 23), (tb x 21 || !tb x 24), false, 0, false, false, false⟩
def extraP (x c d n s m : Int) : Ins :=
  if fl x 5 2 ≠ 0 then halfP x c d n m
  else if fl x 22 6 = 0 then ⟨2, c, 0, (tb x 20), n, d, s, m, 0, false, 0, 0, false, false, false, false, false, false, false, false, 0, false, (tb x 21), false⟩
  else if fl x 23 5 = 1 then ⟨3, c, 0, (tb x 20), n, d, s, m, 0, false, 0, 0, false, false, false, (tb x 22), false, false, false, false, 0, false, (tb x 21), false⟩
  else if fl x 23 5 = 2 ∧ fl x 20 2 = 0 ∧ s = 0 then ⟨4, c, 0, false, d, n, 0, m, 0, false, 0, 0, false, false, (tb x 22), false, false, false, false, false, 0, false, false, false⟩
  else none_ c
def statusP (x c d n s m : Int) (imm : Bool) : Ins :=
  if imm = false ∧ x / 16 % 16777216 = 1245169 then ⟨5, c, 0, false, 0, 0, 0, m, 0, false, 0, 0, false, false, false, false, false, false, false, false, 0, false, false, false⟩
  else if imm = false ∧ Go.bits .and .u32 x 264179711 = 17760256 then ⟨11, c, 0, false, d, 0, 0, 0, 0, false, 0, 0, false, false, false, false, false, false, false, (tb x 22), 0, false, false, false⟩
  else if tb x 21 = true ∧ d = 15 ∧ (imm = true ∨ x / 16 % 256 = 0) then
    if imm then ⟨12, c, 0, false, 0, 0, 0, 0, (x % 256), true, 0, s, false, false, false, false, false, false, false, (tb x 22), n, false, false, false⟩
    else ⟨12, c, 0, false, 0, 0, 0, m, 0, false, 0, 0, false, false, false, false, false, false, false, (tb x 22), n, false, false, false⟩
  else none_ c
def dataP (x c d n s m : Int) (imm : Bool) : Ins :=
  if fl x 21 4 / 4 = 2 ∧ tb x 20 = false then statusP x c d n s m imm
  else if imm then ⟨1, c, (fl x 21 4), (tb x 20), d, n, 0, 0, (x % 256), true, 0, s, false, false, false, false, false, false, false, false, 0, false, false, false⟩
  else if tb x 4 then ⟨1, c, (fl x 21 4), (tb x 20), d, n, s, m, 0, false, (fl x 5 2), 0, true, false, false, false, false, false, false, false, 0, false, false, false⟩
  else ⟨1, c, (fl x 21 4), (tb x 20), d, n, 0, m, 0, false, (fl x 5 2), (fl x 7 5), false, false, false, false, false, false, false, false, 0, false, false, false⟩
/-- A word of ARM code taken apart. -/
def decP (x : Int) : Ins :=
  let c := fl x 28 4
  let n := fl x 16 4
  let d := fl x 12 4
  let s := fl x 8 4
  let m := fl x 0 4
  if fl x 25 3 = 0 then
    if tb x 7 = true ∧ tb x 4 = true then extraP x c d n s m else dataP x c d n s m false
  else if fl x 25 3 = 1 then dataP x c d n s m true
  else if fl x 25 3 = 2 ∨ fl x 25 3 = 3 then wordP x c d n m
  else if fl x 25 3 = 4 then blockP x c n
  else if fl x 25 3 = 5 then ⟨9, c, 0, false, 0, 0, 0, 0, ((if x % 16777216 < 8388608 then x % 16777216 else x % 16777216 - 16777216) * 4 % 4294967296), false, 0, 0, false, false, false, false, false, false, false, false, 0, (tb x 24), false, false⟩
  else if fl x 25 3 = 7 ∧ tb x 24 = true then ⟨10, c, 0, false, 0, 0, 0, 0, (x / 65536 % 256), false, 0, 0, false, false, false, false, false, false, false, false, 0, false, false, false⟩
  else none_ c
end Go.Proofs.Ytlpjadpjjcpfgaa.Rp
