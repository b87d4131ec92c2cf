/- awake, walked. -/
import Derived.Test.YtbljlnhgllbbdaaGz
namespace Go.Proofs.Ytbljlnhgllbbdaa.Hw
set_option linter.unusedVariables false
set_option linter.unusedSimpArgs false
open Go.RowKit Go.Proofs.Ytbljlnhgllbbdaa.Bt Go.Proofs.Ytbljlnhgllbbdaa.Wk Go.Proofs.Ytbljlnhgllbbdaa.Sg Go.Proofs.Ytbljlnhgllbbdaa.Gp Go.Proofs.Ytbljlnhgllbbdaa.Gm Go.Proofs.Ytbljlnhgllbbdaa.Gs Go.Proofs.Ytbljlnhgllbbdaa.Gh Go.Proofs.Ytbljlnhgllbbdaa.Gx Go.Proofs.Ytbljlnhgllbbdaa.Gy Go.Proofs.Ytbljlnhgllbbdaa.Gz

theorem line_at (f : Nat → Int) {i : Nat} (h : i < 240) : (lineC f).toArray[i]? = some (.int .u16 (f i)) := by rw [toArray_at]; exact seg_at _ h
theorem line_ix0 (f : Nat → Int) (w : World) : (Instr.index 42 (lineVal f) (.int .i64 0)).run Try.prog w = .ok (.int .u16 (f 0)) w := by kernel_rfl
theorem alloc_setRow (W : World) (z cs : Array Value) (t : TypeId) (fr : Nat × Nat) : (W.alloc (.cells z t fr)).setRow W.heap.size cs = W.alloc (.cells cs t fr) := by
  show ({ W with heap := _ } : World) = { W with heap := _ }
  congr 1
  show (W.heap.push (Obj.cells z t fr)).modify W.heap.size _ = W.heap.push (Obj.cells cs t fr)
  apply Array.ext
  · simp
  · intro i h1 h2
    rw [Array.getElem_modify]
    simp only [Array.size_modify, Array.size_push] at h1
    by_cases e : W.heap.size = i
    · subst e; simp
    · rw [if_neg e, Array.getElem_push_lt (by omega), Array.getElem_push_lt (by omega)]
def m0 : Mem := ⟨none, 0, 0, fun _ => 0⟩
theorem rd_none (w : World) (f : Nat → Int) (c : Nat) : Rd w ⟨none, 0, c, f⟩ := fun i hi => absurd hi (Nat.not_lt_zero _)
theorem mok_none : Mok m0 := ⟨Nat.zero_le _, fun i hi => absurd hi (Nat.not_lt_zero _)⟩
/-- The scene of awake. -/
def s0 (B : Nat) : Sc := ⟨1027, fun _ => 0, fun _ => 0, fun _ => 0, fun k => if k = 0 ∨ k = 3 then 256 else 0, fun _ => 0, 0, ⟨some ⟨B, 0, none⟩, 2, 2, fun _ => 255⟩, m0, m0⟩
theorem s0_ok (B : Nat) : Sok (s0 B) where
  c0 := by show (0 : Int) ≤ 1027; decide
  c1 := by show (1027 : Int) < 65536; decide
  b := fun i _ => by show (0 : Int) ≤ 0 ∧ (0 : Int) < 65536; decide
  x := fun i _ => by show (0 : Int) ≤ 0 ∧ (0 : Int) < 65536; decide
  y := fun i _ => by show (0 : Int) ≤ 0 ∧ (0 : Int) < 65536; decide
  p := fun i _ => by show (-32768 : Int) ≤ (if i = 0 ∨ i = 3 then 256 else 0) ∧ (if i = 0 ∨ i = 3 then 256 else 0 : Int) < 32768; split <;> decide
  r := fun i _ => by show (-2147483648 : Int) ≤ 0 ∧ (0 : Int) < 2147483648; decide
  m0 := by show (0 : Int) ≤ 0; decide
  m1 := by show (0 : Int) < 65536; decide
  vr := ⟨by show 2 ≤ maxLen; unfold maxLen; decide, fun i _ => by show (0 : Int) ≤ 255 ∧ (255 : Int) < 256; decide⟩
  pa := mok_none
  oa := mok_none
theorem s0_cells (B : Nat) : (cellsS (s0 B)).toArray = #[.int .u16 1027, .int .u16 0, .int .u16 0, .int .u16 0, .int .u16 0, .int .u16 0, .int .u16 0, .int .u16 0, .int .u16 0, .int .u16 0, .int .u16 0, .int .u16 0, .int .u16 0, .int .i16 256, .int .i16 0, .int .i16 0, .int .i16 256, .int .i16 0, .int .i16 0, .int .i16 0, .int .i16 0, .int .i32 0, .int .i32 0, .int .i32 0, .int .i32 0, .int .u16 0, .slice (some ⟨B, 0, none⟩) 2 2, .slice none 0 0, .slice none 0 0] := rfl
theorem s0_0 (B : Nat) : lineV (s0 B) 2 0 0 = 32767 := by kernel_rfl
theorem s0_1 (B : Nat) : lineV (s0 B) 2 0 1 = 0 := by kernel_rfl
theorem s0_n (B : Nat) : lineV (s0 B) 1 0 0 = 32768 := by kernel_rfl
theorem s0_s2 (B : Nat) : shownV (s0 B) 2 = true := by kernel_rfl
theorem s0_s1 (B : Nat) : shownV (s0 B) 1 = false := by kernel_rfl
theorem s0_m (B : Nat) : modeV (s0 B) = 3 := by kernel_rfl
theorem sn_s0 (w : World) : Sn ((w.alloc (.cells #[.int .u8 255, .int .u8 255] 5)).alloc (.cells (cellsS (s0 w.heap.size)).toArray 31)) (w.heap.size + 1) 31 (s0 w.heap.size) := by
  have a := alloc_old (.cells (cellsS (s0 w.heap.size)).toArray 31) (alloc_new w (.cells #[.int .u8 255, .int .u8 255] 5))
  refine ⟨?_, ?_, rd_none _ _ _, rd_none _ _ _⟩
  · have := alloc_new (w.alloc (.cells #[.int .u8 255, .int .u8 255] 5)) (.cells (cellsS (s0 w.heap.size)).toArray 31)
    simpa using this
  · intro i hi
    refine ⟨⟨w.heap.size, 0, none⟩, rfl, ?_, fun j hj => ?_⟩
    · show w.heap.size < _
      simp; omega
    · have hi2 : i < 2 := hi
      have hj1 : j = 0 := by omega
      subst hj1
      rw [Nat.mul_one, Nat.add_zero, add_cellAt]
      rcases (show i = 0 ∨ i = 1 by omega) with rfl | rfl
      · exact cellsAt a 0
      · exact cellsAt a 1
set_option maxRecDepth 100000 in
set_option maxHeartbeats 8000000 in
theorem awake_any (w : World) : Calls Try.prog 8 #[] w fun e w' => e = .returned (.bool true) ∧ Below w.heap.size w w' := by
  go_enter Try.func8, Try.ntmps8
  go_wp2_with fail
  have S := sn_s0 w
  have hb : Below w.heap.size w ((w.alloc (.cells #[.int .u8 255, .int .u8 255] 5)).alloc (.cells (cellsS (s0 w.heap.size)).toArray 31)) := ((Below.refl _ _).alloc (Nat.le_refl _) _).alloc (by simp) _
  rw [s0_cells] at S hb
  generalize (w.alloc (.cells #[.int .u8 255, .int .u8 255] 5)).alloc _ = w2 at *
  have K := Lib.hid (s0_ok w.heap.size)
  have e0 := Lib.hid (s0_0 w.heap.size)
  have e1 := Lib.hid (s0_1 w.heap.size)
  have en := Lib.hid (s0_n w.heap.size)
  have e2 := Lib.hid (s0_s2 w.heap.size)
  have e3 := Lib.hid (s0_s1 w.heap.size)
  have em := Lib.hid (s0_m w.heap.size)
  generalize s0 w.heap.size = s at *
  refine (draw_any S K.out 2 0).mono ?_
  rintro e w3 ⟨rfl, hb3⟩
  have S3 := S.later hb3
  have HB3 := Lib.hid (below_then hb hb3 hb.size)
  clear hb hb3 S
  generalize hF : lineV s 2 0 = F at *
  have HF := Lib.hid hF
  clear hF
  unfold lineVal
  have ZL := zeroLine
  go_upto_region 3 with (refine wpList_store_row rfl 42 (.tmp 2) (.tmp 9) rfl w3.heap.size _ rfl rfl 42 _ (alloc_new _ _) (info_lineC _) (by rw [line_size, line_size]) (line_one _) ?_; rw [alloc_setRow])
  clear ZL
  have S4 : Hid (∀ q, Sn ((w3.alloc (lineO F 42)).drewN q) (w.heap.size + 1) 31 s) := Lib.hid fun q => (S3.later ((Below.refl _ _).alloc (Nat.le_refl _) _)).drewN q
  have A4 := alloc_new w3 (lineO F 42)
  have HB4 := Lib.hid (HB3.out.alloc HB3.out.size (lineO F 42))
  have C0 : (w3.alloc (lineO F 42)).cell? ⟨w3.heap.size, 0, none⟩ = some (.int .u16 (F 0)) := by rw [cellsAt A4]; exact line_at F (by decide)
  have C1 : (w3.alloc (lineO F 42)).cell? ⟨w3.heap.size, 1, none⟩ = some (.int .u16 (F 1)) := by rw [cellsAt A4]; exact line_at F (by decide)
  have L4 := sizeAt A4
  rw [e0.out] at C0
  rw [e1.out] at C1
  generalize w3.alloc (lineO F 42) = w4 at *
  have S4' : Hid (Sn w4 (w.heap.size + 1) 31 s) := Lib.hid (S4.out 0)
  have M4 := Lib.hid (mode_any S4'.out K.out)
  have X2 := Lib.hid (shown_in S4'.out K.out (i := 2) (by decide) (by decide))
  have X1 := Lib.hid (shown_in S4'.out K.out (i := 1) (by decide) (by decide))
  rw [em.out] at M4
  rw [e2.out] at X2
  rw [e3.out] at X1
  have D4 := Lib.hid (draw_any S4'.out K.out 1 0)
  have DX := line_ix0 (lineV s 1 0)
  rw [en.out] at DX
  go_wp2_with (first | (go_at_call 15; ((with_reducible refine (M4.out).mono ?_); rintro e w' ⟨rfl, rfl⟩)) | (go_at_call 13; ((with_reducible refine (X2.out).mono ?_); rintro e w' ⟨rfl, rfl⟩)) | (go_at_call 13; ((with_reducible refine (X1.out).mono ?_); rintro e w' ⟨rfl, rfl⟩)) | (go_at_call 11; ((with_reducible refine (D4.out).mono ?_); rintro e w5 ⟨rfl, hb5⟩)))
  go_ret
  exact ⟨rfl, below_then HB4.out hb5 HB4.out.size⟩
end Go.Proofs.Ytbljlnhgllbbdaa.Hw
