/- A call on both sides: walked. -/
import Derived.Test.YtbpeppmajmhmiaaWb
import Derived.Deep.CutBlock
namespace Go.Proofs.Ytbpeppmajmhmiaa.Wc
set_option linter.unusedVariables false
set_option linter.unusedSimpArgs false
open Go.RowKit Go.Proofs.Ytbpeppmajmhmiaa.Bt Go.Proofs.Ytbpeppmajmhmiaa.Wk Go.Proofs.Ytbpeppmajmhmiaa.Sg Go.Proofs.Ytbpeppmajmhmiaa.Dp Go.Proofs.Ytbpeppmajmhmiaa.Da Go.Proofs.Ytbpeppmajmhmiaa.Db Go.Proofs.Ytbpeppmajmhmiaa.Dc Go.Proofs.Ytbpeppmajmhmiaa.Dd Go.Proofs.Ytbpeppmajmhmiaa.De Go.Proofs.Ytbpeppmajmhmiaa.Fq Go.Proofs.Ytbpeppmajmhmiaa.Df Go.Proofs.Ytbpeppmajmhmiaa.Dg Go.Proofs.Ytbpeppmajmhmiaa.Dh Go.Proofs.Ytbpeppmajmhmiaa.Di Go.Proofs.Ytbpeppmajmhmiaa.Dj Go.Proofs.Ytbpeppmajmhmiaa.Dk Go.Proofs.Ytbpeppmajmhmiaa.Dl Go.Proofs.Ytbpeppmajmhmiaa.Dm Go.Proofs.Ytbpeppmajmhmiaa.Dt Go.Proofs.Ytbpeppmajmhmiaa.Va Go.Proofs.Ytbpeppmajmhmiaa.Vb Go.Proofs.Ytbpeppmajmhmiaa.Vc Go.Proofs.Ytbpeppmajmhmiaa.Qt Go.Proofs.Ytbpeppmajmhmiaa.Vd Go.Proofs.Ytbpeppmajmhmiaa.Ve Go.Proofs.Ytbpeppmajmhmiaa.Vf Go.Proofs.Ytbpeppmajmhmiaa.Wa Go.Proofs.Ytbpeppmajmhmiaa.Wb

/-- With the call's box. -/
def Zb (b : Nat) (kind i part x nn addr : Int) : Nat → Option Obj := upd (fun _ => none) b (some (.cells #[.int .i64 kind, .int .i64 i, .int .i64 part, .int .u16 x, .int .i64 nn, .int .u32 addr] 52 (0, 0)))
theorem zb_none (b : Nat) (kind i part x nn addr : Int) : ∀ (k : Nat) (o : Obj), (fun _ => none : Nat → Option Obj) k = some o → Zb b kind i part x nn addr k = some o := fun k o h => by cases h
set_option maxRecDepth 100000 in
set_option maxHeartbeats 8000000 in
theorem both_write_in {w1 wr : World} {u : Nat → Ch} {ps : List Pl} {ws : List Int} {n : Nat} {k : Nat} {part x nn addr : Int} (JH : Hid (Jf (fun _ => none) w1 wr u u ps ws)) (HL : Hid (ws.length = ps.length)) (HN : Hid (ps.length ≤ n)) (hn8 : n ≤ 80000) (x0 : 0 ≤ x) (x1 : x < 65536) (a0 : 0 ≤ addr) (a1 : addr < 4294967296) (hi : k < 4) :
    Calls Try.prog 16 #[.pointer (some ⟨w1.heap.size, 0, none⟩), .pointer (some ⟨w1.heap.size + 1, 0, none⟩), .pointer (some ⟨w1.heap.size + 2, 0, none⟩), .agg #[.int .i64 0, .int .i64 (k : Int), .int .i64 part, .int .u16 x, .int .i64 nn, .int .u32 addr]] wr fun e w' => e = .returned (.bool true) ∧ Hid (Rz (fun _ => none) w1 (n + 60) w') := by
  have i0 : (0 : Int) ≤ (k : Int) := by omega
  go_enter Try.func16, Try.ntmps16
  go_upto_block 0 with fail
  go_cut [] (fun wx => Hid (Rz (fun _ => none) w1 (n + 60) wx))
  case first =>
    have J0 : Hid (Jf (Zb wr.heap.size 0 (k : Int) part x nn addr) w1 (wr.alloc (.cells #[.int .i64 0, .int .i64 (k : Int), .int .i64 part, .int .u16 x, .int .i64 nn, .int .u32 addr] 52)) u u ps ws) := Lib.hid (jf_alloc JH.out _)
    generalize wr.alloc (.cells #[.int .i64 0, .int .i64 (k : Int), .int .i64 part, .int .u16 x, .int .i64 nn, .int .u32 addr] 52) = W0 at *
    have c1 : W0.cell? ⟨wr.heap.size, 1, none⟩ = some (.int .i64 (k : Int)) := cellsAt (jf_box J0.out (upd_same _ _ _)) 1
    have c2 : W0.cell? ⟨wr.heap.size, 2, none⟩ = some (.int .i64 part) := cellsAt (jf_box J0.out (upd_same _ _ _)) 2
    have c3 : W0.cell? ⟨wr.heap.size, 3, none⟩ = some (.int .u16 x) := cellsAt (jf_box J0.out (upd_same _ _ _)) 3
    have cl := sizeAt (jf_box J0.out (upd_same _ _ _))
    go_wp2_with fail
    refine (j_write_u J0.out hi part x x0 x1).mono ?_
    rintro e W1 ⟨rfl, q⟩
    have J1 := Lib.hid q
    clear q J0 c1 c2 c3 cl
    have c1 : W1.cell? ⟨wr.heap.size, 1, none⟩ = some (.int .i64 (k : Int)) := cellsAt (jf_box J1.out (upd_same _ _ _)) 1
    have c2 : W1.cell? ⟨wr.heap.size, 2, none⟩ = some (.int .i64 part) := cellsAt (jf_box J1.out (upd_same _ _ _)) 2
    have c3 : W1.cell? ⟨wr.heap.size, 3, none⟩ = some (.int .u16 x) := cellsAt (jf_box J1.out (upd_same _ _ _)) 3
    have cl := sizeAt (jf_box J1.out (upd_same _ _ _))
    go_wp2_with fail
    refine (j_write_m J1.out hi part x x0 x1).mono ?_
    rintro e W2 ⟨rfl, q⟩
    have J2 := Lib.hid q
    clear q
    have E : Hid (Rz (fun _ => none) w1 (n + 60) W2) := Lib.hid ⟨_, _, _, jf_weak J2.out (zb_none _ _ _ _ _ _ _), HL.out, by have := HN.out; omega⟩
    clear J2
    go_wp2_with fail
    go_meet
    case rel => exact E
  case rest =>
  have E := hcut
  clear JH HL HN
  go_step
  exact both_tail E
set_option maxRecDepth 100000 in
set_option maxHeartbeats 8000000 in
theorem both_write_out {w1 wr : World} {u : Nat → Ch} {ps : List Pl} {ws : List Int} {n : Nat} {i part x nn addr : Int} (JH : Hid (Jf (fun _ => none) w1 wr u u ps ws)) (HL : Hid (ws.length = ps.length)) (HN : Hid (ps.length ≤ n)) (hn8 : n ≤ 80000) (x0 : 0 ≤ x) (x1 : x < 65536) (a0 : 0 ≤ addr) (a1 : addr < 4294967296) (ho : i < 0 ∨ 3 < i) :
    Calls Try.prog 16 #[.pointer (some ⟨w1.heap.size, 0, none⟩), .pointer (some ⟨w1.heap.size + 1, 0, none⟩), .pointer (some ⟨w1.heap.size + 2, 0, none⟩), .agg #[.int .i64 0, .int .i64 i, .int .i64 part, .int .u16 x, .int .i64 nn, .int .u32 addr]] wr fun e w' => e = .returned (.bool true) ∧ Hid (Rz (fun _ => none) w1 (n + 60) w') := by
  have HO := Lib.hid (show i < 0 ∨ 3 < i ∨ (some ⟨w1.heap.size, 0, none⟩ : Option Addr) = none by omega)
  have HO2 := Lib.hid ho
  clear ho
  go_enter Try.func16, Try.ntmps16
  go_upto_block 0 with fail
  go_cut [] (fun wx => Hid (Rz (fun _ => none) w1 (n + 60) wx))
  case first =>
    have J0 : Hid (Jf (Zb wr.heap.size 0 i part x nn addr) w1 (wr.alloc (.cells #[.int .i64 0, .int .i64 i, .int .i64 part, .int .u16 x, .int .i64 nn, .int .u32 addr] 52)) u u ps ws) := Lib.hid (jf_alloc JH.out _)
    generalize wr.alloc (.cells #[.int .i64 0, .int .i64 i, .int .i64 part, .int .u16 x, .int .i64 nn, .int .u32 addr] 52) = W0 at *
    have c1 : W0.cell? ⟨wr.heap.size, 1, none⟩ = some (.int .i64 i) := cellsAt (jf_box J0.out (upd_same _ _ _)) 1
    have c2 : W0.cell? ⟨wr.heap.size, 2, none⟩ = some (.int .i64 part) := cellsAt (jf_box J0.out (upd_same _ _ _)) 2
    have c3 : W0.cell? ⟨wr.heap.size, 3, none⟩ = some (.int .u16 x) := cellsAt (jf_box J0.out (upd_same _ _ _)) 3
    have cl := sizeAt (jf_box J0.out (upd_same _ _ _))
    go_wp2_with (first | (go_at_call 10; ((with_reducible refine (write_out _ i part x HO.out _).mono ?_); rintro e w' ⟨rfl, rfl⟩)) | (go_at_call 24; ((with_reducible refine (rwrite_out _ i part x HO2.out _).mono ?_); rintro e w' ⟨rfl, rfl⟩)))
    have E : Hid (Rz (fun _ => none) w1 (n + 60) W0) := Lib.hid ⟨_, _, _, jf_weak J0.out (zb_none _ _ _ _ _ _ _), HL.out, by have := HN.out; omega⟩
    go_meet
    case rel => exact E
  case rest =>
  have E := hcut
  clear JH HL HN
  go_step
  exact both_tail E
set_option maxRecDepth 100000 in
set_option maxHeartbeats 8000000 in
theorem both_moment {w1 wr : World} {u : Nat → Ch} {ps : List Pl} {ws : List Int} {n : Nat} {i part x nn addr : Int} (JH : Hid (Jf (fun _ => none) w1 wr u u ps ws)) (HL : Hid (ws.length = ps.length)) (HN : Hid (ps.length ≤ n)) (hn8 : n ≤ 80000) (x0 : 0 ≤ x) (x1 : x < 65536) (a0 : 0 ≤ addr) (a1 : addr < 4294967296) :
    Calls Try.prog 16 #[.pointer (some ⟨w1.heap.size, 0, none⟩), .pointer (some ⟨w1.heap.size + 1, 0, none⟩), .pointer (some ⟨w1.heap.size + 2, 0, none⟩), .agg #[.int .i64 1, .int .i64 i, .int .i64 part, .int .u16 x, .int .i64 nn, .int .u32 addr]] wr fun e w' => e = .returned (.bool true) ∧ Hid (Rz (fun _ => none) w1 (n + 60) w') := by
  go_enter Try.func16, Try.ntmps16
  go_upto_block 0 with fail
  go_cut [] (fun wx => Hid (Rz (fun _ => none) w1 (n + 60) wx))
  case first =>
    have J0 : Hid (Jf (Zb wr.heap.size 1 i part x nn addr) w1 (wr.alloc (.cells #[.int .i64 1, .int .i64 i, .int .i64 part, .int .u16 x, .int .i64 nn, .int .u32 addr] 52)) u u ps ws) := Lib.hid (jf_alloc JH.out _)
    generalize wr.alloc (.cells #[.int .i64 1, .int .i64 i, .int .i64 part, .int .u16 x, .int .i64 nn, .int .u32 addr] 52) = W0 at *
    have c1 : W0.cell? ⟨wr.heap.size, 1, none⟩ = some (.int .i64 i) := cellsAt (jf_box J0.out (upd_same _ _ _)) 1
    have cl := sizeAt (jf_box J0.out (upd_same _ _ _))
    go_wp2_with fail
    refine (j_moment_u J0.out i).mono ?_
    rintro e W1 ⟨rfl, q⟩
    have J1 := Lib.hid q
    clear q J0 c1 cl
    have c1 : W1.cell? ⟨wr.heap.size, 1, none⟩ = some (.int .i64 i) := cellsAt (jf_box J1.out (upd_same _ _ _)) 1
    have cl := sizeAt (jf_box J1.out (upd_same _ _ _))
    go_wp2_with fail
    refine (j_moment_m J1.out i).mono ?_
    rintro e W2 ⟨rfl, q⟩
    have J2 := Lib.hid q
    clear q
    have E : Hid (Rz (fun _ => none) w1 (n + 60) W2) := Lib.hid ⟨_, _, _, jf_weak J2.out (zb_none _ _ _ _ _ _ _), HL.out, by have := HN.out; omega⟩
    clear J2
    go_wp2_with fail
    go_meet
    case rel => exact E
  case rest =>
  have E := hcut
  clear JH HL HN
  go_step
  exact both_tail E
set_option maxRecDepth 100000 in
set_option maxHeartbeats 8000000 in
theorem both_hungry {w1 wr : World} {u : Nat → Ch} {ps : List Pl} {ws : List Int} {n : Nat} {i part x nn addr : Int} (JH : Hid (Jf (fun _ => none) w1 wr u u ps ws)) (HL : Hid (ws.length = ps.length)) (HN : Hid (ps.length ≤ n)) (hn8 : n ≤ 80000) (x0 : 0 ≤ x) (x1 : x < 65536) (a0 : 0 ≤ addr) (a1 : addr < 4294967296) :
    Calls Try.prog 16 #[.pointer (some ⟨w1.heap.size, 0, none⟩), .pointer (some ⟨w1.heap.size + 1, 0, none⟩), .pointer (some ⟨w1.heap.size + 2, 0, none⟩), .agg #[.int .i64 2, .int .i64 i, .int .i64 part, .int .u16 x, .int .i64 nn, .int .u32 addr]] wr fun e w' => e = .returned (.bool true) ∧ Hid (Rz (fun _ => none) w1 (n + 60) w') := by
  go_enter Try.func16, Try.ntmps16
  go_upto_block 0 with fail
  go_cut [] (fun wx => Hid (Rz (fun _ => none) w1 (n + 60) wx))
  case first =>
    have J0 : Hid (Jf (Zb wr.heap.size 2 i part x nn addr) w1 (wr.alloc (.cells #[.int .i64 2, .int .i64 i, .int .i64 part, .int .u16 x, .int .i64 nn, .int .u32 addr] 52)) u u ps ws) := Lib.hid (jf_alloc JH.out _)
    generalize wr.alloc (.cells #[.int .i64 2, .int .i64 i, .int .i64 part, .int .u16 x, .int .i64 nn, .int .u32 addr] 52) = W0 at *
    have c5 : W0.cell? ⟨wr.heap.size, 5, none⟩ = some (.int .u32 addr) := cellsAt (jf_box J0.out (upd_same _ _ _)) 5
    have cl := sizeAt (jf_box J0.out (upd_same _ _ _))
    go_wp2_with fail
    refine (j_hungry_u J0.out addr).mono ?_
    rintro e W1 ⟨rfl, q⟩
    have J1 := Lib.hid q
    clear q J0 c5 cl
    have c5 : W1.cell? ⟨wr.heap.size, 5, none⟩ = some (.int .u32 addr) := cellsAt (jf_box J1.out (upd_same _ _ _)) 5
    have cl := sizeAt (jf_box J1.out (upd_same _ _ _))
    go_wp2_with fail
    refine (j_hungry_m J1.out addr).mono ?_
    rintro e W2 ⟨rfl, q⟩
    have J2 := Lib.hid q
    clear q
    have E : Hid (Rz (fun _ => none) w1 (n + 60) W2) := Lib.hid ⟨_, _, _, jf_weak J2.out (zb_none _ _ _ _ _ _ _), HL.out, by have := HN.out; omega⟩
    clear J2
    go_wp2_with fail
    go_meet
    case rel => exact E
  case rest =>
  have E := hcut
  clear JH HL HN
  go_step
  exact both_tail E
set_option maxRecDepth 100000 in
set_option maxHeartbeats 8000000 in
theorem both_other {w1 wr : World} {u : Nat → Ch} {ps : List Pl} {ws : List Int} {n : Nat} {kind i part x nn addr : Int} (JH : Hid (Jf (fun _ => none) w1 wr u u ps ws)) (HL : Hid (ws.length = ps.length)) (HN : Hid (ps.length ≤ n)) (hn8 : n ≤ 80000) (x0 : 0 ≤ x) (x1 : x < 65536) (a0 : 0 ≤ addr) (a1 : addr < 4294967296) (q0 : (kind == 0) = false) (q1 : (kind == 1) = false) (q2 : (kind == 2) = false) (q3 : (kind == 3) = false) :
    Calls Try.prog 16 #[.pointer (some ⟨w1.heap.size, 0, none⟩), .pointer (some ⟨w1.heap.size + 1, 0, none⟩), .pointer (some ⟨w1.heap.size + 2, 0, none⟩), .agg #[.int .i64 kind, .int .i64 i, .int .i64 part, .int .u16 x, .int .i64 nn, .int .u32 addr]] wr fun e w' => e = .returned (.bool true) ∧ Hid (Rz (fun _ => none) w1 (n + 60) w') := by
  go_enter Try.func16, Try.ntmps16
  go_upto_block 0 with fail
  go_cut [] (fun wx => Hid (Rz (fun _ => none) w1 (n + 60) wx))
  case first =>
    have J0 : Hid (Jf (Zb wr.heap.size kind i part x nn addr) w1 (wr.alloc (.cells #[.int .i64 kind, .int .i64 i, .int .i64 part, .int .u16 x, .int .i64 nn, .int .u32 addr] 52)) u u ps ws) := Lib.hid (jf_alloc JH.out _)
    generalize wr.alloc (.cells #[.int .i64 kind, .int .i64 i, .int .i64 part, .int .u16 x, .int .i64 nn, .int .u32 addr] 52) = W0 at *
    have c0 : W0.cell? ⟨wr.heap.size, 0, none⟩ = some (.int .i64 kind) := cellsAt (jf_box J0.out (upd_same _ _ _)) 0
    have cl := sizeAt (jf_box J0.out (upd_same _ _ _))
    have E : Hid (Rz (fun _ => none) w1 (n + 60) W0) := Lib.hid ⟨_, _, _, jf_weak J0.out (zb_none _ _ _ _ _ _ _), HL.out, by have := HN.out; omega⟩
    go_wp2_with fail
    go_meet
    case rel => exact E
  case rest =>
  have E := hcut
  clear JH HL HN
  go_step
  exact both_tail E
end Go.Proofs.Ytbpeppmajmhmiaa.Wc
