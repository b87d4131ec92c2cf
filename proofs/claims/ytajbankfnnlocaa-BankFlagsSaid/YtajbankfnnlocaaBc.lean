/- Package bank, walked on: SetStatus. -/
import Derived.Test.YtajbankfnnlocaaBb
namespace Go.Proofs.Ytajbankfnnlocaa.Bc
set_option linter.unusedVariables false
set_option linter.unusedSimpArgs false
open Go.RowKit Go.Proofs.Ytajbankfnnlocaa.Bt Go.Proofs.Ytajbankfnnlocaa.Wk Go.Proofs.Ytajbankfnnlocaa.Sg Go.Proofs.Ytajbankfnnlocaa.Ba

set_option maxRecDepth 100000 in
set_option maxHeartbeats 4000000 in
theorem setStatus_same (b : Nat) (x : Int) (P : Bk) (c0 : 0 ≤ P.c) (c1 : P.c < 4294967296) (x0 : 0 ≤ x) (x1 : x < 4294967296) (hsl : sl P.c = sl x) (w : World) (hs : w.heap[b]? = some (bk P)) :
    Calls Try.prog 10 #[.pointer (some ⟨b, 0, none⟩), .int .u32 x] w fun e w' => e = .returned (.tuple #[]) ∧ Only b (bk { P with c := x }) w w' := by
  have C : w.cell? ⟨b, 44, none⟩ = some (.int .u32 P.c) := (cellsAt hs _).trans (atC P)
  have R1 := Lib.hid (slot_any P.c c0 c1 w)
  have R2 := slot_any x x0 x1 w
  rw [← hsl] at R2
  have R2H := Lib.hid R2
  have F := freeAt hs
  have O : Only b (bk { P with c := x }) w (w.setCell ⟨b, 44, none⟩ (.int .u32 x)) := ((Only.refl hs).set _).to (by rw [setC]; rfl)
  have OH := Lib.hid O
  clear hs O R2 hsl
  generalize sl P.c = s at *
  go_enter Try.func10, Try.ntmps10
  go_wp2_with fail
  refine R1.out.mono ?_
  rintro e w' ⟨rfl, rfl⟩
  go_wp2_with fail
  refine R2H.out.mono ?_
  rintro e w' ⟨rfl, rfl⟩
  go_wp2
  refine bodyPost_ret (results_none rfl _ _ _) rfl ?_
  exact ⟨rfl, OH.out⟩
theorem only_row {b : Nat} {cs : Array Value} {t : TypeId} {w W : World} (h : Only b (.cells cs t (0, 0)) w W) (new : Array Value) : Only b (.cells new t (0, 0)) w (W.setRow b new) :=
  ⟨setRow_heap W b cs new t (0, 0) h.at_, h.os, h.tape, h.output, by simpa [World.setRow] using h.size, fun k hk hn => by rw [setRow_other _ _ _ _ hn]; exact h.block k hk hn⟩
/-- Five cells of f, from i on. -/
def five (f : Nat → Int) (i : Nat) : List Value := [.int .u32 (f i), .int .u32 (f (i + 1)), .int .u32 (f (i + 2)), .int .u32 (f (i + 3)), .int .u32 (f (i + 4))]
def put5 (f : Nat → Int) (i : Nat) (g : Nat → Int) (j : Nat) : Nat → Int := fun k => if i ≤ k ∧ k < i + 5 then g (j + (k - i)) else f k
theorem splice_r (Q : Bk) (g : Nat → Int) (j : Nat) : (bl Q).toArray.toList.take 8 ++ (five g j ++ (bl Q).toArray.toList.drop (8 + (five g j).length)) = bl { Q with r := put5 Q.r 8 g j } := rfl
theorem splice_h0 (Q : Bk) (g : Nat → Int) (j : Nat) : (bl Q).toArray.toList.take 28 ++ (five g j ++ (bl Q).toArray.toList.drop (28 + (five g j).length)) = bl { Q with hi := put5 Q.hi 0 g j } := rfl
theorem splice_h1 (Q : Bk) (g : Nat → Int) (j : Nat) : (bl Q).toArray.toList.take 33 ++ (five g j ++ (bl Q).toArray.toList.drop (33 + (five g j).length)) = bl { Q with hi := put5 Q.hi 5 g j } := rfl
theorem five_at (f : Nat → Int) (i j : Nat) (v : Value) (h : (five f i)[j]? = some v) : j < 5 ∧ v = .int .u32 (f (i + j)) := by
  match j, h with
  | 0, h => exact ⟨by omega, (Option.some.inj h).symm⟩
  | 1, h => exact ⟨by omega, (Option.some.inj h).symm⟩
  | 2, h => exact ⟨by omega, (Option.some.inj h).symm⟩
  | 3, h => exact ⟨by omega, (Option.some.inj h).symm⟩
  | 4, h => exact ⟨by omega, (Option.some.inj h).symm⟩
  | n + 5, h => simp [five] at h
theorem five_one (f : Nat → Int) (i : Nat) : ∀ v ∈ five f i, v.oneCell' = true := by
  intro v hv
  simp only [five, List.mem_cons, List.not_mem_nil, or_false] at hv
  rcases hv with rfl | rfl | rfl | rfl | rfl <;> rfl
theorem addr_add (b i j : Nat) : (⟨b, i, none⟩ : Addr).add j = ⟨b, i + j, none⟩ := by
  unfold Addr.add
  by_cases h : j = 0
  · rw [if_pos h, h]; rfl
  · rw [if_neg h]
/-- A bank behind another status word: from slot o to slot n. -/
def setStF (P : Bk) (x : Int) (o n : Nat) : Bk :=
  if o = n then { P with c := x } else
  if o = 1 then { r := put5 (upd (upd P.r 13 (P.ot (n * 2))) 14 (P.ot (n * 2 + 1))) 8 (put5 P.hi 0 (upd (upd P.r 13 (P.ot (n * 2))) 14 (P.ot (n * 2 + 1))) 8) 5, ot := upd (upd P.ot (o * 2) (P.r 13)) (o * 2 + 1) (P.r 14), hi := put5 P.hi 0 (upd (upd P.r 13 (P.ot (n * 2))) 14 (P.ot (n * 2 + 1))) 8, sv := P.sv, c := x }
  else if n = 1 then { r := put5 (upd (upd P.r 13 (P.ot (n * 2))) 14 (P.ot (n * 2 + 1))) 8 (put5 P.hi 5 (upd (upd P.r 13 (P.ot (n * 2))) 14 (P.ot (n * 2 + 1))) 8) 0, ot := upd (upd P.ot (o * 2) (P.r 13)) (o * 2 + 1) (P.r 14), hi := put5 P.hi 5 (upd (upd P.r 13 (P.ot (n * 2))) 14 (P.ot (n * 2 + 1))) 8, sv := P.sv, c := x }
  else { r := upd (upd P.r 13 (P.ot (n * 2))) 14 (P.ot (n * 2 + 1)), ot := upd (upd P.ot (o * 2) (P.r 13)) (o * 2 + 1) (P.r 14), hi := P.hi, sv := P.sv, c := x }
set_option maxRecDepth 100000 in
set_option maxHeartbeats 4000000 in
theorem setStatus_else (b o n : Nat) (x : Int) (P : Bk) (c0 : 0 ≤ P.c) (c1 : P.c < 4294967296) (x0 : 0 ≤ x) (x1 : x < 4294967296) (ho : sl P.c = o) (hn : sl x = n) (hne : o ≠ n) (w : World) (hs : w.heap[b]? = some (bk P)) :
    Calls Try.prog 10 #[.pointer (some ⟨b, 0, none⟩), .int .u32 x] w fun e w' => e = .returned (.tuple #[]) ∧ Only b (bk (setStF P x o n)) w w' := by
  have R1 := slot_any P.c c0 c1 w
  have R2 := slot_any x x0 x1 w
  have lo : o < 6 := ho ▸ sl_lt _
  have ln : n < 6 := hn ▸ sl_lt _
  rw [ho] at R1
  rw [hn] at R2
  have FS : setStF P x o n = (if o = 1 then { r := put5 (upd (upd P.r 13 (P.ot (n * 2))) 14 (P.ot (n * 2 + 1))) 8 (put5 P.hi 0 (upd (upd P.r 13 (P.ot (n * 2))) 14 (P.ot (n * 2 + 1))) 8) 5, ot := upd (upd P.ot (o * 2) (P.r 13)) (o * 2 + 1) (P.r 14), hi := put5 P.hi 0 (upd (upd P.r 13 (P.ot (n * 2))) 14 (P.ot (n * 2 + 1))) 8, sv := P.sv, c := x }
    else if n = 1 then { r := put5 (upd (upd P.r 13 (P.ot (n * 2))) 14 (P.ot (n * 2 + 1))) 8 (put5 P.hi 5 (upd (upd P.r 13 (P.ot (n * 2))) 14 (P.ot (n * 2 + 1))) 8) 0, ot := upd (upd P.ot (o * 2) (P.r 13)) (o * 2 + 1) (P.r 14), hi := put5 P.hi 5 (upd (upd P.r 13 (P.ot (n * 2))) 14 (P.ot (n * 2 + 1))) 8, sv := P.sv, c := x }
    else { r := upd (upd P.r 13 (P.ot (n * 2))) 14 (P.ot (n * 2 + 1)), ot := upd (upd P.ot (o * 2) (P.r 13)) (o * 2 + 1) (P.r 14), hi := P.hi, sv := P.sv, c := x }) := by
    unfold setStF; rw [if_neg hne]
  generalize setStF P x o n = FF at *
  have FSH := Lib.hid FS
  clear FS
  have lo' : (o : Int) < 6 := by omega
  have lo0 : 0 ≤ (o : Int) := by omega
  have ln' : (n : Int) < 6 := by omega
  have ln0 : 0 ≤ (n : Int) := by omega
  have R1H := Lib.hid R1
  have R2H := Lib.hid R2
  have C : w.cell? ⟨b, 44, none⟩ = some (.int .u32 P.c) := (cellsAt hs _).trans (atC P)
  have F := freeAt hs
  have hne' : ((o : Int) == (n : Int)) = false := by simp; omega
  have o1 : Only b (bk { P with c := x }) w (w.setCell ⟨b, 44, none⟩ (.int .u32 x)) := ((Only.refl hs).set _).to (by rw [setC]; rfl)
  clear hs ho hn R1 R2
  go_enter Try.func10, Try.ntmps10
  go_wp2_with fail
  refine R1H.out.mono ?_
  rintro e w' ⟨rfl, rfl⟩
  go_wp2_with fail
  refine R2H.out.mono ?_
  rintro e w' ⟨rfl, rfl⟩
  go_wp2_with fail
  clear C F
  generalize w.setCell ⟨b, 44, none⟩ (.int .u32 x) = w1 at *
  have hs := o1.at_
  have C13 : w1.cell? ⟨b, 13, none⟩ = some (.int .u32 (P.r 13)) := (cellsAt hs _).trans (atR _ (by decide))
  have C14 : w1.cell? ⟨b, 14, none⟩ = some (.int .u32 (P.r 14)) := (cellsAt hs _).trans (atR _ (by decide))
  have D0 : w1.cell? ⟨b, 16 + o * 2, none⟩ = some (.int .u32 (P.ot (o * 2))) := (cellsAt hs _).trans (atO _ (by omega))
  have D1 : w1.cell? ⟨b, 16 + o * 2 + 1, none⟩ = some (.int .u32 (P.ot (o * 2 + 1))) := (cellsAt hs (16 + (o * 2 + 1))).trans (atO _ (by omega))
  have F := freeAt hs
  have O1 := Lib.hid o1
  clear o1 hs
  go_still_tail 16, (by kernel_rfl)
  change wpList _ _ _ _ _ (World.drew _)
  go_wp2_with fail
  have o2 := ((O1.out.set (j := 16 + o * 2) (.int .u32 (P.r 13))).to (show _ = bk { P with c := x, ot := upd P.ot (o * 2) (P.r 13) } by rw [setO _ (by omega)]; rfl))
  have o3 := ((o2.set (j := 16 + (o * 2 + 1)) (.int .u32 (P.r 14))).to (show _ = bk { P with c := x, ot := upd (upd P.ot (o * 2) (P.r 13)) (o * 2 + 1) (P.r 14) } by rw [setO _ (by omega)]; rfl)).drew
  rw [show 16 + (o * 2 + 1) = 16 + o * 2 + 1 by omega] at o3
  clear C13 C14 D0 D1 F O1 o2
  generalize ((w1.setCell ⟨b, 16 + o * 2, none⟩ (.int .u32 (P.r 13))).setCell ⟨b, 16 + o * 2 + 1, none⟩ (.int .u32 (P.r 14))).drew = w2 at *
  have hs := o3.at_
  have e0 : upd (upd P.ot (o * 2) (P.r 13)) (o * 2 + 1) (P.r 14) (n * 2) = P.ot (n * 2) := by rw [upd_ne _ _ (by omega), upd_ne _ _ (by omega)]
  have e1 : upd (upd P.ot (o * 2) (P.r 13)) (o * 2 + 1) (P.r 14) (n * 2 + 1) = P.ot (n * 2 + 1) := by rw [upd_ne _ _ (by omega), upd_ne _ _ (by omega)]
  have C13 : w2.cell? ⟨b, 13, none⟩ = some (.int .u32 (P.r 13)) := (cellsAt hs _).trans (atR _ (by decide))
  have C14 : w2.cell? ⟨b, 14, none⟩ = some (.int .u32 (P.r 14)) := (cellsAt hs _).trans (atR _ (by decide))
  have E0 : w2.cell? ⟨b, 16 + n * 2, none⟩ = some (.int .u32 (P.ot (n * 2))) := by rw [← e0]; exact (cellsAt hs _).trans (atO _ (by omega))
  have E1 : w2.cell? ⟨b, 16 + n * 2 + 1, none⟩ = some (.int .u32 (P.ot (n * 2 + 1))) := by rw [← e1]; exact (cellsAt hs (16 + (n * 2 + 1))).trans (atO _ (by omega))
  have F := freeAt hs
  have O3 := Lib.hid o3
  clear o3 hs e0 e1
  go_region
  have o4 := ((O3.out.set (j := 13) (.int .u32 (P.ot (n * 2)))).to (show _ = bk { r := upd P.r 13 (P.ot (n * 2)), ot := upd (upd P.ot (o * 2) (P.r 13)) (o * 2 + 1) (P.r 14), hi := P.hi, sv := P.sv, c := x } by rw [setR _ (by decide)]; rfl))
  have o5 := ((o4.set (j := 14) (.int .u32 (P.ot (n * 2 + 1)))).to (show _ = bk { r := upd (upd P.r 13 (P.ot (n * 2))) 14 (P.ot (n * 2 + 1)), ot := upd (upd P.ot (o * 2) (P.r 13)) (o * 2 + 1) (P.r 14), hi := P.hi, sv := P.sv, c := x } by rw [setR _ (by decide)]; rfl)).drew
  clear C13 C14 E0 E1 F O3 o4
  generalize ((w2.setCell ⟨b, 13, none⟩ (.int .u32 (P.ot (n * 2)))).setCell ⟨b, 14, none⟩ (.int .u32 (P.ot (n * 2 + 1)))).drew = w3 at *
  generalize upd (upd P.r 13 (P.ot (n * 2))) 14 (P.ot (n * 2 + 1)) = r5 at *
  generalize upd (upd P.ot (o * 2) (P.r 13)) (o * 2 + 1) (P.r 14) = ot5 at *
  have O5 := Lib.hid o5
  clear o5
  by_cases ho1 : o = 1
  · subst ho1
    rw [if_pos rfl] at FSH
    have d : ((n : Int) == 1) = false := by simp; omega
    go_wp2_with fail
    go_still_tail 10, (by kernel_rfl)
    change wpList _ _ _ _ _ (World.drew _)
    have h6 := O5.out.drew
    refine wpList_copy_own rfl (.tmp 74) (.tmp 78) 26 26 rfl 22 Try.underlying26 (by kernel_rfl) b 28 5 5 ⟨b, 8, none⟩ 5 8 rfl rfl _ 59 h6.at_ (five r5 8) rfl (fun j v hv => ?_) (by show 28 + 5 ≤ 45; decide) (five_one _ _) ?_
    · obtain ⟨hj, rfl⟩ := five_at _ _ _ _ hv
      rw [addr_add]
      exact (cellsAt h6.at_ _).trans (atR _ (by omega))
    have h7 := only_row h6 (List.take 28 (bl { r := r5, ot := ot5, hi := P.hi, sv := P.sv, c := x }).toArray.toList ++ (five r5 8 ++ List.drop (28 + (five r5 8).length) (bl { r := r5, ot := ot5, hi := P.hi, sv := P.sv, c := x }).toArray.toList)).toArray
    generalize w3.drew.setRow b _ = w4 at *
    rw [splice_h0] at h7
    have O7 := Lib.hid h7
    clear h6 h7
    go_wp2_with fail
    go_still_tail 10, (by kernel_rfl)
    change wpList _ _ _ _ _ (World.drew _)
    have h8 := O7.out.drew
    refine wpList_copy_own rfl (.tmp 83) (.tmp 89) 26 26 rfl 22 Try.underlying26 (by kernel_rfl) b 8 5 8 ⟨b, 33, none⟩ 5 5 rfl rfl _ 59 h8.at_ (five (put5 P.hi 0 r5 8) 5) rfl (fun j v hv => ?_) (by show 8 + 5 ≤ 45; decide) (five_one _ _) ?_
    · obtain ⟨hj, rfl⟩ := five_at _ _ _ _ hv
      rw [addr_add, show 33 + j = 28 + (5 + j) by omega]
      exact (cellsAt h8.at_ _).trans (atH _ (by omega))
    have h9 := only_row h8 (List.take 8 (bl { r := r5, ot := ot5, hi := put5 P.hi 0 r5 8, sv := P.sv, c := x }).toArray.toList ++ (five (put5 P.hi 0 r5 8) 5 ++ List.drop (8 + (five (put5 P.hi 0 r5 8) 5).length) (bl { r := r5, ot := ot5, hi := put5 P.hi 0 r5 8, sv := P.sv, c := x }).toArray.toList)).toArray
    generalize w4.drew.setRow b _ = w5 at *
    rw [splice_r] at h9
    have O9 := Lib.hid h9
    clear h8 h9
    go_wp2_with fail
    go_end0
    rw [FSH.out]
    exact ⟨rfl, O9.out⟩
  · have do1 : ((o : Int) == 1) = false := by simp; omega
    rw [if_neg ho1] at FSH
    by_cases hn1 : n = 1
    · subst hn1
      rw [if_pos rfl] at FSH
      go_wp2_with fail
      go_still_tail 10, (by kernel_rfl)
      change wpList _ _ _ _ _ (World.drew _)
      have h6 := O5.out.drew
      refine wpList_copy_own rfl (.tmp 74) (.tmp 78) 26 26 rfl 22 Try.underlying26 (by kernel_rfl) b 33 5 5 ⟨b, 8, none⟩ 5 8 rfl rfl _ 59 h6.at_ (five r5 8) rfl (fun j v hv => ?_) (by show 33 + 5 ≤ 45; decide) (five_one _ _) ?_
      · obtain ⟨hj, rfl⟩ := five_at _ _ _ _ hv
        rw [addr_add]
        exact (cellsAt h6.at_ _).trans (atR _ (by omega))
      have h7 := only_row h6 (List.take 33 (bl { r := r5, ot := ot5, hi := P.hi, sv := P.sv, c := x }).toArray.toList ++ (five r5 8 ++ List.drop (33 + (five r5 8).length) (bl { r := r5, ot := ot5, hi := P.hi, sv := P.sv, c := x }).toArray.toList)).toArray
      generalize w3.drew.setRow b _ = w4 at *
      rw [splice_h1] at h7
      have O7 := Lib.hid h7
      clear h6 h7
      go_wp2_with fail
      go_still_tail 10, (by kernel_rfl)
      change wpList _ _ _ _ _ (World.drew _)
      have h8 := O7.out.drew
      refine wpList_copy_own rfl (.tmp 83) (.tmp 89) 26 26 rfl 22 Try.underlying26 (by kernel_rfl) b 8 5 8 ⟨b, 28, none⟩ 5 5 rfl rfl _ 59 h8.at_ (five (put5 P.hi 5 r5 8) 0) rfl (fun j v hv => ?_) (by show 8 + 5 ≤ 45; decide) (five_one _ _) ?_
      · obtain ⟨hj, rfl⟩ := five_at _ _ _ _ hv
        rw [addr_add, show 28 + j = 28 + (0 + j) by omega]
        exact (cellsAt h8.at_ _).trans (atH _ (by omega))
      have h9 := only_row h8 (List.take 8 (bl { r := r5, ot := ot5, hi := put5 P.hi 5 r5 8, sv := P.sv, c := x }).toArray.toList ++ (five (put5 P.hi 5 r5 8) 0 ++ List.drop (8 + (five (put5 P.hi 5 r5 8) 0).length) (bl { r := r5, ot := ot5, hi := put5 P.hi 5 r5 8, sv := P.sv, c := x }).toArray.toList)).toArray
      generalize w4.drew.setRow b _ = w5 at *
      rw [splice_r] at h9
      have O9 := Lib.hid h9
      clear h8 h9
      go_wp2_with fail
      go_end0
      rw [FSH.out]
      exact ⟨rfl, O9.out⟩
    · have dn1 : ((n : Int) == 1) = false := by simp; omega
      rw [if_neg hn1] at FSH
      go_wp2_with fail
      go_end0
      rw [FSH.out]
      exact ⟨rfl, O5.out⟩
end Go.Proofs.Ytajbankfnnlocaa.Bc
