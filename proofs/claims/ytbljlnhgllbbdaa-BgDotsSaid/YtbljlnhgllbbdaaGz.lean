/- Package bg, walked: Draw. -/
import Derived.Test.YtbljlnhgllbbdaaGy
import Derived.Laws.Rows
import Derived.Laws.Tables
import Derived.Great.Walk
namespace Go.Proofs.Ytbljlnhgllbbdaa.Gz
set_option linter.unusedVariables false
set_option linter.unusedSimpArgs false
open Go.RowKit Go.Proofs.Ytbljlnhgllbbdaa.Bt Go.Proofs.Ytbljlnhgllbbdaa.Wk Go.Proofs.Ytbljlnhgllbbdaa.Sg Go.Proofs.Ytbljlnhgllbbdaa.Gp Go.Proofs.Ytbljlnhgllbbdaa.Gm Go.Proofs.Ytbljlnhgllbbdaa.Gs Go.Proofs.Ytbljlnhgllbbdaa.Gh Go.Proofs.Ytbljlnhgllbbdaa.Gc Go.Proofs.Ytbljlnhgllbbdaa.Gx Go.Proofs.Ytbljlnhgllbbdaa.Gy

theorem zeroLine (w : World) : (zeroValue 42).run Try.prog w = .ok (.agg (lineC (fun _ => 0)).toArray) w := by kernel_rfl
theorem info_line : (Try.prog.info? 42).map (·.size) = some 240 := by kernel_rfl
theorem line_size (f : Nat → Int) : (lineC f).toArray.size = 240 := by simp [lineC, seg_length]
theorem info_lineC (f : Nat → Int) : (Try.prog.info? 42).map (·.size) = some (lineC f).toArray.size := by rw [line_size]; exact info_line
theorem line_one (f : Nat → Int) : (lineC f).toArray.all (·.oneCell') = true := by
  rw [Array.all_eq_true']
  intro x hx
  simp only [lineC, seg, List.mem_toArray, List.mem_map] at hx
  obtain ⟨i, _, rfl⟩ := hx
  rfl
theorem only_row {b : Nat} {cs : Array Value} {t : TypeId} {w W : World} (h : Only b (.cells cs t (0, 0)) w W) (new : Array Value) : Only b (.cells new t (0, 0)) w (W.setRow b new) :=
  ⟨setRow_heap W b cs new t (0, 0) h.at_, h.os, h.tape, h.output, by simpa [World.setRow] using h.size, fun k hk hn => by rw [setRow_other _ _ _ _ hn]; exact h.block k hk hn⟩
/-- The line as a value. -/
def lineVal (f : Nat → Int) : Value := .agg (lineC f).toArray
set_option maxRecDepth 100000 in
set_option maxHeartbeats 8000000 in
theorem draw_none {w : World} (p : Option Addr) (i line : Int) (sh : Bool) (SC : ∀ w', Below w.heap.size w w' → Calls Try.prog 13 #[.pointer p, .int .i64 i] w' fun e w'' => e = .returned (.bool sh) ∧ w' = w'')
    (hc : sh = false ∨ line < 0 ∨ 160 ≤ line) :
    Calls Try.prog 11 #[.pointer p, .int .i64 i, .int .i64 line] w fun r w' => r = .returned (lineVal (fun _ => 32768)) ∧ Below w.heap.size w w' := by
  have ZL := zeroLine
  have SH := Lib.hid SC
  clear SC
  go_enter Try.func11, Try.ntmps11
  go_wp2_with fail
  clear ZL
  have A1 : ((w.alloc (lineO (fun _ => 0) 42)).alloc (lineO (fun _ => 0) 42)).heap[w.heap.size]? = some (lineO (fun _ => 0) 42) := alloc_old _ (alloc_new _ _)
  have A2 : ((w.alloc (lineO (fun _ => 0) 42)).alloc (lineO (fun _ => 0) 42)).heap[w.heap.size + 1]? = some (lineO (fun _ => 0) 42) := by
    have := alloc_new (w.alloc (lineO (fun _ => 0) 42)) (lineO (fun _ => 0) 42)
    simpa using this
  have hB : Below w.heap.size w ((w.alloc (lineO (fun _ => 0) 42)).alloc (lineO (fun _ => 0) 42)) := ((Below.refl _ _).alloc (Nat.le_refl _) _).alloc (by simp) _
  generalize (w.alloc (lineO (fun _ => 0) 42)).alloc (lineO (fun _ => 0) 42) = w2 at *
  have OH : Hid (Only (w.heap.size + 1) (lineO (uptoV (fun _ => 32768) (fun _ => 0) 0) 42) w2 w2) := Lib.hid (by rw [upto_zero]; exact Only.refl A2)
  have A1H := Lib.hid A1
  have BH := Lib.hid hB
  clear A1 A2 hB
  go_loopw [9] (fun iv wr => ∃ (n : Nat), iv = .int .i64 n ∧ n ≤ 240 ∧ Only (w.heap.size + 1) (lineO (uptoV (fun _ => 32768) (fun _ => 0) n) 42) w2 wr) (fun iv _ => 240 - (intOf iv).toNat)
  case atStart => exact ⟨0, rfl, by omega, OH.out⟩
  case round =>
    obtain ⟨n, rfl, hn, ON⟩ := hrel
    by_cases hlt : n < 240
    · have tt : decide ((n : Int) < 240) = true := by simp; omega
      have n0 : (0 : Int) ≤ (n : Int) := by omega
      have n1 : (n : Int) < 240 := by omega
      have FR := freeAt ON.at_ n
      have LL := sizeAt ON.at_
      have CC : wr.cell? ⟨w.heap.size + 1, n, none⟩ = some (.int .u16 (uptoV (fun _ => 32768) (fun _ => 0) n n)) := by
        rw [cellsAt ON.at_, toArray_at]; exact seg_at _ hlt
      have ON3 : Hid (Only (w.heap.size + 1) (lineO (uptoV (fun _ => 32768) (fun _ => 0) (n + 1)) 42) w2 (wr.setCell ⟨w.heap.size + 1, n, none⟩ (.int .u16 32768))) := by
        have := ON.set (j := n) (.int .u16 32768)
        rw [upto_set (fun _ => 32768) (fun _ => 0) hlt] at this
        exact Lib.hid this
      clear ON
      go_wp2_with fail
      exact ⟨⟨n + 1, by go_num, by omega, ON3.out⟩, by simp [intOf]; omega⟩
    · have nn : n = 240 := by omega
      have tt : decide ((n : Int) < 240) = false := by simp; omega
      have OE : Only (w.heap.size + 1) (lineO (fun _ => 32768) 42) w2 wr := by rw [nn] at ON; exact ON.to (by unfold lineO; rw [upto_end])
      have OEH := Lib.hid OE
      have A1' := Lib.hid (OE.keep A1H.out (by omega))
      have B3 := Lib.hid (below_only BH.out OE (by omega) BH.out.size)
      have SW := Lib.hid (SH.out wr B3.out)
      clear OE nn ON hlt
      have hc' : sh = false ∨ (sh = true ∧ line < 0) ∨ (sh = true ∧ 0 ≤ line ∧ 160 ≤ line) := by cases sh <;> simp at hc ⊢ <;> omega
      clear hc
      rcases hc' with hs | ⟨hs, h1⟩ | ⟨hs, h1, h2⟩
      all_goals
        subst hs
        go_wp2_with (first | (go_at_call 13; ((with_reducible refine SW.out.mono ?_); rintro e w' ⟨rfl, rfl⟩)) | (refine wpList_load_row rfl 42 (.tmp 7) rfl (w.heap.size + 1) rfl 42 _ (0, 0) _ OEH.out.at_ Try.underlying42 rfl (info_lineC _) ?_) | (refine wpList_store_row rfl 42 (.tmp 6) (.tmp 27) rfl w.heap.size _ rfl rfl 42 _ A1'.out (info_lineC _) (by rw [line_size, line_size]) (line_one _) ?_))
        exact bodyPost_ret (results_cell_row rfl _ _ w.heap.size 42 _ _ _ rfl (setRow_heap _ _ _ _ _ _ A1'.out) Try.underlying42 rfl (info_lineC _)) rfl ⟨rfl, below_only B3.out (only_row (Only.refl A1'.out) _) (Nat.le_refl _) B3.out.size⟩
def drawnV (s : Sc) (i line : Int) (n : Nat) : Int := if kindV s i = 1 then textV s i.toNat line n else turnedV s (i.toNat - 2) line n
theorem kind_two {s : Sc} {i : Int} (hs : shownV s i = true) (h : kindV s i ≠ 1) : 2 ≤ i := by
  unfold shownV at hs
  simp only [Bool.and_eq_true, decide_eq_true_eq, bne_iff_ne] at hs
  have hk := hs.1.2
  unfold kindV at h hk
  by_cases g : 2 ≤ i
  · exact g
  · exfalso
    revert h hk
    repeat' split
    all_goals omega
set_option maxRecDepth 100000 in
set_option maxHeartbeats 8000000 in
theorem draw_in {w : World} {b : Nat} {T : TypeId} {s : Sc} (h : Sn w b T s) (k : Sok s) (i line : Int) (i0 : 0 ≤ i) (i4 : i < 4) (hs : shownV s i = true) (l0 : 0 ≤ line) (l1 : line < 160) :
    Calls Try.prog 11 #[.pointer (some ⟨b, 0, none⟩), .int .i64 i, .int .i64 line] w fun r w' => r = .returned (lineVal (drawnV s i line)) ∧ Below w.heap.size w w' := by
  have ZL := zeroLine
  have DV : kindV s i = 1 ∧ drawnV s i line = textV s i.toNat line ∨ kindV s i ≠ 1 ∧ 2 ≤ i ∧ drawnV s i line = turnedV s (i.toNat - 2) line := by
    by_cases g : kindV s i = 1
    · exact .inl ⟨g, funext fun n => if_pos g⟩
    · exact .inr ⟨g, kind_two hs g, funext fun n => if_neg g⟩
  have DVH := Lib.hid DV
  clear DV
  have SS := Lib.hid h
  have KS := Lib.hid k
  have SH : Hid (∀ w', Below w.heap.size w w' → Calls Try.prog 13 #[.pointer (some ⟨b, 0, none⟩), .int .i64 i] w' fun e w'' => e = .returned (.bool true) ∧ w' = w'') := Lib.hid fun w' hb => by rw [← hs]; exact shown_in (h.later hb) k i0 i4
  clear h k
  go_enter Try.func11, Try.ntmps11
  go_wp2_with fail
  clear ZL
  have A1 : ((w.alloc (lineO (fun _ => 0) 42)).alloc (lineO (fun _ => 0) 42)).heap[w.heap.size]? = some (lineO (fun _ => 0) 42) := alloc_old _ (alloc_new _ _)
  have A2 : ((w.alloc (lineO (fun _ => 0) 42)).alloc (lineO (fun _ => 0) 42)).heap[w.heap.size + 1]? = some (lineO (fun _ => 0) 42) := by
    have := alloc_new (w.alloc (lineO (fun _ => 0) 42)) (lineO (fun _ => 0) 42)
    simpa using this
  have hB : Below w.heap.size w ((w.alloc (lineO (fun _ => 0) 42)).alloc (lineO (fun _ => 0) 42)) := ((Below.refl _ _).alloc (Nat.le_refl _) _).alloc (by simp) _
  generalize (w.alloc (lineO (fun _ => 0) 42)).alloc (lineO (fun _ => 0) 42) = w2 at *
  have OH : Hid (Only (w.heap.size + 1) (lineO (uptoV (fun _ => 32768) (fun _ => 0) 0) 42) w2 w2) := Lib.hid (by rw [upto_zero]; exact Only.refl A2)
  have A1H := Lib.hid A1
  have BH := Lib.hid hB
  clear A1 A2 hB
  go_loopw [9] (fun iv wr => ∃ (n : Nat), iv = .int .i64 n ∧ n ≤ 240 ∧ Only (w.heap.size + 1) (lineO (uptoV (fun _ => 32768) (fun _ => 0) n) 42) w2 wr) (fun iv _ => 240 - (intOf iv).toNat)
  case atStart => exact ⟨0, rfl, by omega, OH.out⟩
  case round =>
    obtain ⟨n, rfl, hn, ON⟩ := hrel
    by_cases hlt : n < 240
    · have tt : decide ((n : Int) < 240) = true := by simp; omega
      have n0 : (0 : Int) ≤ (n : Int) := by omega
      have n1 : (n : Int) < 240 := by omega
      have FR := freeAt ON.at_ n
      have LL := sizeAt ON.at_
      have CC : wr.cell? ⟨w.heap.size + 1, n, none⟩ = some (.int .u16 (uptoV (fun _ => 32768) (fun _ => 0) n n)) := by
        rw [cellsAt ON.at_, toArray_at]; exact seg_at _ hlt
      have ON3 : Hid (Only (w.heap.size + 1) (lineO (uptoV (fun _ => 32768) (fun _ => 0) (n + 1)) 42) w2 (wr.setCell ⟨w.heap.size + 1, n, none⟩ (.int .u16 32768))) := by
        have := ON.set (j := n) (.int .u16 32768)
        rw [upto_set (fun _ => 32768) (fun _ => 0) hlt] at this
        exact Lib.hid this
      clear ON
      go_wp2_with fail
      exact ⟨⟨n + 1, by go_num, by omega, ON3.out⟩, by simp [intOf]; omega⟩
    · have nn : n = 240 := by omega
      have tt : decide ((n : Int) < 240) = false := by simp; omega
      have OE : Only (w.heap.size + 1) (lineO (fun _ => 32768) 42) w2 wr := by rw [nn] at ON; exact ON.to (by unfold lineO; rw [upto_end])
      have OEH := Lib.hid OE
      have A1' := Lib.hid (OE.keep A1H.out (by omega))
      have B3 := Lib.hid (below_only BH.out OE (by omega) BH.out.size)
      have SW := Lib.hid (SH.out wr B3.out)
      have KW := Lib.hid (kind_any (SS.out.later B3.out) KS.out i0 i4)
      clear OE nn ON hlt
      generalize hDD : drawnV s i line = D at *
      have HDD := Lib.hid hDD
      clear hDD
      have tl : decide (line < 0) = false := by simp; omega
      have th : decide (160 ≤ line) = false := by simp; omega
      rcases DVH.out with ⟨gk, hD⟩ | ⟨gk, g2, hD⟩
      · obtain ⟨n, rfl⟩ := Int.eq_ofNat_of_zero_le i0
        have TX := Lib.hid (text_any SS.out KS.out B3.out (Nat.le_succ w.heap.size) OEH.out.at_ (i := n) (by omega) l0 l1)
        rw [Int.toNat_natCast] at hD
        rw [← hD] at TX
        have hD := Lib.hid hD
        rw [gk] at KW
        clear gk DVH
        go_wp2_with (first | (go_at_call 13; ((with_reducible refine SW.out.mono ?_); rintro e w' ⟨rfl, rfl⟩)) | (go_at_call 17; ((with_reducible refine KW.out.mono ?_); rintro e w' ⟨rfl, rfl⟩)))
        refine TX.out.mono ?_
        rintro e w3 ⟨rfl, OT⟩
        have A1'' := Lib.hid (OT.keep A1'.out (by omega))
        have B4 := Lib.hid (below_only B3.out OT (by omega) B3.out.size)
        have OTH := Lib.hid OT.at_
        clear OT
        go_wp2_with (first | (refine wpList_load_row rfl 42 (.tmp 7) rfl (w.heap.size + 1) rfl 42 _ (0, 0) _ OTH.out Try.underlying42 rfl (info_lineC _) ?_) | (refine wpList_store_row rfl 42 (.tmp 6) (.tmp 41) rfl w.heap.size _ rfl rfl 42 _ A1''.out (info_lineC _) (by rw [line_size, line_size]) (line_one _) ?_))
        exact bodyPost_ret (results_cell_row rfl _ _ w.heap.size 42 _ _ _ rfl (setRow_heap _ _ _ _ _ _ A1''.out) Try.underlying42 rfl (info_lineC _)) rfl ⟨by rw [HDD.out]; rfl, below_only B4.out (only_row (Only.refl A1''.out) _) (Nat.le_refl _) B4.out.size⟩
      · obtain ⟨m, hm⟩ := Int.eq_ofNat_of_zero_le i0
        obtain ⟨n, rfl⟩ : ∃ n : Nat, i = (n : Int) + 2 := ⟨m - 2, by omega⟩
        have TX := Lib.hid (turned_any SS.out KS.out B3.out (Nat.le_succ w.heap.size) OEH.out.at_ (j := n) (by omega) l0 l1)
        rw [show ((n : Int) + 2).toNat - 2 = n by omega] at hD
        rw [← hD] at TX
        have hD := Lib.hid hD
        have gkk : (kindV s ((n : Int) + 2) == 1) = false := by simpa using gk
        generalize kindV s ((n : Int) + 2) = kd at *
        clear gk DVH hm
        go_wp2_with (first | (go_at_call 13; ((with_reducible refine SW.out.mono ?_); rintro e w' ⟨rfl, rfl⟩)) | (go_at_call 17; ((with_reducible refine KW.out.mono ?_); rintro e w' ⟨rfl, rfl⟩)))
        refine TX.out.mono ?_
        rintro e w3 ⟨rfl, OT⟩
        have A1'' := Lib.hid (OT.keep A1'.out (by omega))
        have B4 := Lib.hid (below_only B3.out OT (by omega) B3.out.size)
        have OTH := Lib.hid OT.at_
        clear OT
        go_wp2_with (first | (refine wpList_load_row rfl 42 (.tmp 7) rfl (w.heap.size + 1) rfl 42 _ (0, 0) _ OTH.out Try.underlying42 rfl (info_lineC _) ?_) | (refine wpList_store_row rfl 42 (.tmp 6) (.tmp 41) rfl w.heap.size _ rfl rfl 42 _ A1''.out (info_lineC _) (by rw [line_size, line_size]) (line_one _) ?_))
        exact bodyPost_ret (results_cell_row rfl _ _ w.heap.size 42 _ _ _ rfl (setRow_heap _ _ _ _ _ _ A1''.out) Try.underlying42 rfl (info_lineC _)) rfl ⟨by rw [HDD.out]; rfl, below_only B4.out (only_row (Only.refl A1''.out) _) (Nat.le_refl _) B4.out.size⟩
/-- What a line shows. -/
def lineV (s : Sc) (i line : Int) (n : Nat) : Int := if shownV s i = true ∧ 0 ≤ line ∧ line < 160 then drawnV s i line n else 32768
theorem draw_any {w : World} {b : Nat} {T : TypeId} {s : Sc} (h : Sn w b T s) (k : Sok s) (i line : Int) :
    Calls Try.prog 11 #[.pointer (some ⟨b, 0, none⟩), .int .i64 i, .int .i64 line] w fun r w' => r = .returned (lineVal (lineV s i line)) ∧ Below w.heap.size w w' := by
  by_cases g : shownV s i = true ∧ 0 ≤ line ∧ line < 160
  · have e : lineV s i line = drawnV s i line := funext fun n => if_pos g
    rw [e]
    have hi : 0 ≤ i ∧ i < 4 := by
      have := g.1
      unfold shownV at this
      simp only [Bool.and_eq_true, decide_eq_true_eq] at this
      exact this.1.1.1
    exact draw_in h k i line hi.1 hi.2 g.1 g.2.1 g.2.2
  · have e : lineV s i line = fun _ => 32768 := funext fun n => if_neg g
    rw [e]
    by_cases hi : 0 ≤ i ∧ i < 4
    · refine draw_none _ i line (shownV s i) (fun w' hb => shown_in (h.later hb) k hi.1 hi.2) ?_
      cases hs : shownV s i
      · exact .inl rfl
      · exact .inr (by simp [hs] at g; omega)
    · exact draw_none _ i line false (fun w' hb => shown_out i (by omega)) (.inl rfl)
theorem draw_nil (i line : Int) (w : World) :
    Calls Try.prog 11 #[.pointer none, .int .i64 i, .int .i64 line] w fun r w' => r = .returned (lineVal (fun _ => 32768)) ∧ Below w.heap.size w w' :=
  draw_none _ i line false (fun w' hb => shown_nil i w') (.inl rfl)
end Go.Proofs.Ytbljlnhgllbbdaa.Gz
