/- Package bank, walked. -/
import Derived.Test.YtajbankfnnlocaaProg
import Derived.Test.YtajbankfnnlocaaBt
import Derived.Test.YtajbankfnnlocaaWk
import Derived.Test.YtajbankfnnlocaaSg
import Derived.WalkLawsBesides
import Derived.Outline
import Derived.Lib.Hide
import Derived.Deep.QuietTactic
import Derived.BigQuiet
import Derived.RegionTactic
import Derived.BigRegion
import Derived.ChangeAlike
import Derived.LoopTactic
import Derived.StillTailTactics
import Derived.Laws.CopyOwn
namespace Go.Proofs.Ytajbankfnnlocaa.Ba
set_option linter.unusedVariables false
set_option linter.unusedSimpArgs false
open Go.RowKit Go.Proofs.Ytajbankfnnlocaa.Bt Go.Proofs.Ytajbankfnnlocaa.Wk Go.Proofs.Ytajbankfnnlocaa.Sg

/-- What a bank holds. -/
structure Bk where
  r : Nat → Int
  ot : Nat → Int
  hi : Nat → Int
  sv : Nat → Int
  c : Int
def u (f : Nat → Int) : Nat → Value := fun i => .int .u32 (f i)
theorem updu (f : Nat → Int) (i : Nat) (v : Int) : upd (u f) i (.int .u32 v) = u (upd f i v) := by
  funext k; unfold u upd; split <;> rfl
def bl (P : Bk) : List Value := seg 16 (u P.r) ++ (seg 12 (u P.ot) ++ (seg 10 (u P.hi) ++ (seg 6 (u P.sv) ++ [.int .u32 P.c])))
def bk (P : Bk) : Obj := .cells (bl P).toArray 59 (0, 0)
theorem atR (P : Bk) {i : Nat} (h : i < 16) : (bl P).toArray[i]? = some (.int .u32 (P.r i)) := by rw [toArray_at]; exact seg_in _ _ h
theorem atO (P : Bk) {i : Nat} (h : i < 12) : (bl P).toArray[16 + i]? = some (.int .u32 (P.ot i)) := by rw [toArray_at]; unfold bl; rw [seg_out]; exact seg_in _ _ h
theorem atH (P : Bk) {i : Nat} (h : i < 10) : (bl P).toArray[28 + i]? = some (.int .u32 (P.hi i)) := by
  rw [toArray_at, show 28 + i = 16 + (12 + i) by omega]; unfold bl; rw [seg_out, seg_out]; exact seg_in _ _ h
theorem atS (P : Bk) {i : Nat} (h : i < 6) : (bl P).toArray[38 + i]? = some (.int .u32 (P.sv i)) := by
  rw [toArray_at, show 38 + i = 16 + (12 + (10 + i)) by omega]; unfold bl; rw [seg_out, seg_out, seg_out]; exact seg_in _ _ h
theorem atC (P : Bk) : (bl P).toArray[44]? = some (.int .u32 P.c) := by
  rw [toArray_at, show 44 = 16 + (12 + (10 + (6 + 0))) by omega]; unfold bl; rw [seg_out, seg_out, seg_out, seg_out]; rfl
theorem setR (P : Bk) {i : Nat} (h : i < 16) (v : Int) : (bl P).toArray.setIfInBounds i (.int .u32 v) = (bl { P with r := upd P.r i v }).toArray := by
  rw [toArray_set]; unfold bl; rw [seg_set_in _ _ _ h, updu]
theorem setO (P : Bk) {i : Nat} (h : i < 12) (v : Int) : (bl P).toArray.setIfInBounds (16 + i) (.int .u32 v) = (bl { P with ot := upd P.ot i v }).toArray := by
  rw [toArray_set]; unfold bl; rw [seg_set_out, seg_set_in _ _ _ h, updu]
theorem setH (P : Bk) {i : Nat} (h : i < 10) (v : Int) : (bl P).toArray.setIfInBounds (28 + i) (.int .u32 v) = (bl { P with hi := upd P.hi i v }).toArray := by
  rw [toArray_set, show 28 + i = 16 + (12 + i) by omega]; unfold bl; rw [seg_set_out, seg_set_out, seg_set_in _ _ _ h, updu]
theorem setS (P : Bk) {i : Nat} (h : i < 6) (v : Int) : (bl P).toArray.setIfInBounds (38 + i) (.int .u32 v) = (bl { P with sv := upd P.sv i v }).toArray := by
  rw [toArray_set, show 38 + i = 16 + (12 + (10 + i)) by omega]; unfold bl; rw [seg_set_out, seg_set_out, seg_set_out, seg_set_in _ _ _ h, updu]
theorem setC (P : Bk) (v : Int) : (bl P).toArray.setIfInBounds 44 (.int .u32 v) = (bl { P with c := v }).toArray := by
  rw [toArray_set, show 44 = 16 + (12 + (10 + (6 + 0))) by omega]; unfold bl; rw [seg_set_out, seg_set_out, seg_set_out, seg_set_out]; rfl
theorem and_m {a : Int} (i : Nat) (hi : i < 63) (n : Int) (hn : (2 : Int) ^ i - 1 = n) (m : Int) (hm : (2 : Int) ^ i = m) : Go.bits .and .i64 a n = a % m := by
  rw [← hn, and_mask_i64 a i hi, hm]
theorem and_u {a : Int} (h0 : 0 ≤ a) (h1 : a < 4294967296) (i : Nat) (hi : i ≤ 32) (n : Int) (hn : (2 : Int) ^ i - 1 = n) (m : Int) (hm : (2 : Int) ^ i = m) : Go.bits .and .u32 a n = a % m := by
  rw [← hn, and_mask_u32 h0 h1 i hi, hm]
/-- A mode's slot. -/
def sl (x : Int) : Nat := if x % 32 = 17 then 1 else if x % 32 = 18 then 2 else if x % 32 = 19 then 3 else if x % 32 = 23 then 4 else if x % 32 = 27 then 5 else 0
theorem sl_lt (x : Int) : sl x < 6 := by
  unfold sl
  repeat' split
  all_goals omega
set_option maxHeartbeats 1000000 in
theorem slot_any (x : Int) (h0 : 0 ≤ x) (h1 : x < 4294967296) (w : World) :
    Calls Try.prog 33 #[.int .u32 x] w fun e w' => e = .returned (.int .i64 (sl x)) ∧ w = w' := by
  have g : Go.bits .and .u32 x 31 = x % 32 := and_u h0 h1 5 (by decide) _ (by decide) _ (by decide)
  go_enter Try.func33, Try.ntmps33
  go_wp2
  all_goals
    go_ret
    refine ⟨ret_i ?_, rfl⟩
    clear g
    try simp only [beq_iff_eq, beq_eq_false_iff_ne, ne_eq] at *
    unfold sl
    repeat' split
    all_goals first | rfl | omega
set_option maxHeartbeats 1000000 in
theorem get_any (b k : Nat) (i : Int) (P : Bk) (hk : i % 16 = k) (w : World) (hs : w.heap[b]? = some (bk P)) :
    Calls Try.prog 13 #[.pointer (some ⟨b, 0, none⟩), .int .i64 i] w fun e w' => e = .returned (.int .u32 (P.r k)) ∧ w = w' := by
  have hk16 : k < 16 := by omega
  have g : Go.bits .and .i64 i 15 = k := by rw [and_m 4 (by decide) 15 (by decide) 16 (by decide), hk]
  have C : w.cell? ⟨b, k, none⟩ = some (.int .u32 (P.r k)) := (cellsAt hs _).trans (atR P hk16)
  clear hs hk
  go_enter Try.func13, Try.ntmps13
  go_wp2
  go_ret
  exact ⟨rfl, rfl⟩
set_option maxHeartbeats 1000000 in
theorem set_any (b k : Nat) (i x : Int) (P : Bk) (hk : i % 16 = k) (w : World) (hs : w.heap[b]? = some (bk P)) :
    Calls Try.prog 11 #[.pointer (some ⟨b, 0, none⟩), .int .i64 i, .int .u32 x] w fun e w' => e = .returned (.tuple #[]) ∧ Only b (bk { P with r := upd P.r k x }) w w' := by
  have hk16 : k < 16 := by omega
  have g : Go.bits .and .i64 i 15 = k := by rw [and_m 4 (by decide) 15 (by decide) 16 (by decide), hk]
  have C : w.cell? ⟨b, k, none⟩ = some (.int .u32 (P.r k)) := (cellsAt hs _).trans (atR P hk16)
  have F := freeAt hs
  have O : Only b (bk { P with r := upd P.r k x }) w (w.setCell ⟨b, k, none⟩ (.int .u32 x)) := ((Only.refl hs).set _).to (by rw [setR P hk16]; rfl)
  have OH := Lib.hid O
  clear hs hk O
  go_enter Try.func11, Try.ntmps11
  go_wp2
  go_end0
  exact ⟨rfl, OH.out⟩
set_option maxHeartbeats 1000000 in
theorem status_any (b : Nat) (P : Bk) (w : World) (hs : w.heap[b]? = some (bk P)) :
    Calls Try.prog 22 #[.pointer (some ⟨b, 0, none⟩)] w fun e w' => e = .returned (.int .u32 P.c) ∧ w = w' := by
  have C : w.cell? ⟨b, 44, none⟩ = some (.int .u32 P.c) := (cellsAt hs _).trans (atC P)
  clear hs
  go_enter Try.func22, Try.ntmps22
  go_wp2
  go_ret
  exact ⟨rfl, rfl⟩
def savedV (P : Bk) : Int := if sl P.c = 0 then P.c else P.sv (sl P.c)
set_option maxHeartbeats 1000000 in
theorem saved_any (b : Nat) (P : Bk) (c0 : 0 ≤ P.c) (c1 : P.c < 4294967296) (w : World) (hs : w.heap[b]? = some (bk P)) :
    Calls Try.prog 14 #[.pointer (some ⟨b, 0, none⟩)] w fun e w' => e = .returned (.int .u32 (savedV P)) ∧ w = w' := by
  have C : w.cell? ⟨b, 44, none⟩ = some (.int .u32 P.c) := (cellsAt hs _).trans (atC P)
  have D : w.cell? ⟨b, 38 + sl P.c, none⟩ = some (.int .u32 (P.sv (sl P.c))) := (cellsAt hs _).trans (atS P (sl_lt _))
  have R := Lib.hid (slot_any P.c c0 c1 w)
  have l := sl_lt P.c
  clear hs
  unfold savedV
  generalize sl P.c = s at *
  by_cases h : s = 0
  · rw [if_pos h]
    subst h
    go_enter Try.func14, Try.ntmps14
    go_wp2_with (go_at_call 33; refine R.out.mono ?_; rintro e w' ⟨rfl, rfl⟩)
    go_ret
    exact ⟨rfl, rfl⟩
  · rw [if_neg h]
    have d : decide (0 < (s : Int)) = true := decide_eq_true (by omega)
    go_enter Try.func14, Try.ntmps14
    go_wp2_with (go_at_call 33; refine R.out.mono ?_; rintro e w' ⟨rfl, rfl⟩)
    go_ret
    exact ⟨rfl, rfl⟩
def setSavedF (P : Bk) (x : Int) : Bk := if sl P.c = 0 then P else { P with sv := upd P.sv (sl P.c) x }
set_option maxHeartbeats 1000000 in
theorem setSaved_any (b : Nat) (P : Bk) (x : Int) (c0 : 0 ≤ P.c) (c1 : P.c < 4294967296) (w : World) (hs : w.heap[b]? = some (bk P)) :
    Calls Try.prog 12 #[.pointer (some ⟨b, 0, none⟩), .int .u32 x] w fun e w' => e = .returned (.tuple #[]) ∧ Only b (bk (setSavedF P x)) w w' := by
  have C : w.cell? ⟨b, 44, none⟩ = some (.int .u32 P.c) := (cellsAt hs _).trans (atC P)
  have D : w.cell? ⟨b, 38 + sl P.c, none⟩ = some (.int .u32 (P.sv (sl P.c))) := (cellsAt hs _).trans (atS P (sl_lt _))
  have F := freeAt hs
  have R := Lib.hid (slot_any P.c c0 c1 w)
  have l := sl_lt P.c
  have O := Lib.hid (Only.refl hs)
  have O2 : Only b (bk { P with sv := upd P.sv (sl P.c) x }) w (w.setCell ⟨b, 38 + sl P.c, none⟩ (.int .u32 x)) := ((Only.refl hs).set _).to (by rw [setS P (sl_lt _)]; rfl)
  have O2H := Lib.hid O2
  clear hs O2
  unfold setSavedF
  generalize sl P.c = s at *
  by_cases h : s = 0
  · rw [if_pos h]
    subst h
    go_enter Try.func12, Try.ntmps12
    go_wp2_with (go_at_call 33; refine R.out.mono ?_; rintro e w' ⟨rfl, rfl⟩)
    go_end0
    exact ⟨rfl, O.out⟩
  · rw [if_neg h]
    have d : decide (0 < (s : Int)) = true := decide_eq_true (by omega)
    go_enter Try.func12, Try.ntmps12
    go_wp2_with (go_at_call 33; refine R.out.mono ?_; rintro e w' ⟨rfl, rfl⟩)
    go_end0
    exact ⟨rfl, O2H.out⟩
end Go.Proofs.Ytajbankfnnlocaa.Ba
