/- The document's sprites, walked: read, whole. -/
import Derived.Test.YthbpcenobaloaaaNb
namespace Go.Proofs.Ythbpcenobaloaaa.Nc
set_option linter.unusedVariables false
set_option linter.unusedSimpArgs false
open Go.RowKit Go.Proofs.Ythbpcenobaloaaa.Bt Go.Proofs.Ythbpcenobaloaaa.Wk Go.Proofs.Ythbpcenobaloaaa.Sg Go.Proofs.Ythbpcenobaloaaa.Gp Go.Proofs.Ythbpcenobaloaaa.Gm Go.Proofs.Ythbpcenobaloaaa.Pp Go.Proofs.Ythbpcenobaloaaa.Pa Go.Proofs.Ythbpcenobaloaaa.Pb Go.Proofs.Ythbpcenobaloaaa.Pc Go.Proofs.Ythbpcenobaloaaa.Pg Go.Proofs.Ythbpcenobaloaaa.Ph Go.Proofs.Ythbpcenobaloaaa.Ha Go.Proofs.Ythbpcenobaloaaa.Na Go.Proofs.Ythbpcenobaloaaa.Rq Go.Proofs.Ythbpcenobaloaaa.Nb

theorem kAS (a : Act) (w : World) (o : Oper) (h : o.op = .alloc 70) : (execOp (Act.eval a) o).run Try.prog w = .ok (.value (.pointer (some ⟨w.heap.size, 0, none⟩))) (w.alloc (sprO zero9)) := by
  have z := zeroS w
  unfold execOp
  rw [h]
  go_simp
  rfl
set_option maxRecDepth 1000000 in
set_option maxHeartbeats 16000000 in
theorem rread_any {w : World} {sb : Nat} {T : TypeId} {s : Sc} (h : Sn w sb T s) (k : Sok s) {i : Nat} (hi : i < 128) :
    Calls Try.prog 17 #[.pointer (some ⟨sb, 0, none⟩), .int .i64 i] w fun e w' => QOut w s i e w' := by
  have ZL := zeroS
  have hb0 : Below w.heap.size w (w.alloc (sprO zero9)) := (Below.refl _ _).alloc (Nat.le_refl _) _
  have S1 := Lib.hid (h.later hb0)
  have R1 := Lib.hid (alloc_new w (sprO zero9))
  have HB := Lib.hid hb0
  have SH := Lib.hid h
  have KH := Lib.hid k
  have n0 : (0 : Int) ≤ (i : Int) := by omega
  have n1 : (i : Int) < 128 := by omega
  clear h k hb0
  go_enter Try.func17, Try.ntmps17
  go_upto_region 1 with fail
  change Code.wp _ _ _ _ (w.alloc (sprO zero9))
  generalize hw1 : w.alloc (sprO zero9) = w1 at *
  have LZ : w.heap.size < w1.heap.size := sizeAt R1.out
  clear hw1 ZL
  go_cut [6] (fun pv wx => pv = .pointer (some ⟨w1.heap.size, 0, none⟩) ∧ Hid (Qs w wx sb T s w1.heap.size (head9 s i)))
  case first =>
    have e1 : IntKind.i64.wrap (8 * (i : Int)) = 8 * (i : Int) := i64_in (by omega) (by omega)
    have e2 : IntKind.i64.wrap (8 * (i : Int) + 2) = 8 * (i : Int) + 2 := i64_in (by omega) (by omega)
    have e3 : IntKind.i64.wrap (8 * (i : Int) + 4) = 8 * (i : Int) + 4 := i64_in (by omega) (by omega)
    have A0 := Lib.hid (fun w (h : Sn w sb T s) => rhalf_any h.oa KH.out.oa (8 * (i : Int)) (by omega) (by omega))
    have A1 := Lib.hid (fun w (h : Sn w sb T s) => rhalf_any h.oa KH.out.oa (8 * (i : Int) + 2) (by omega) (by omega))
    have A2 := Lib.hid (fun w (h : Sn w sb T s) => rhalf_any h.oa KH.out.oa (8 * (i : Int) + 4) (by omega) (by omega))
    unfold Mem.v at A0 A1 A2
    change Hid (∀ w, Sn w sb T s → Calls Try.prog 26 _ _ fun e w' => e = .returned (.int .i64 (wA s i)) ∧ _) at A0
    change Hid (∀ w, Sn w sb T s → Calls Try.prog 26 _ _ fun e w' => e = .returned (.int .i64 (wB s i)) ∧ _) at A1
    change Hid (∀ w, Sn w sb T s → Calls Try.prog 26 _ _ fun e w' => e = .returned (.int .i64 (wC s i)) ∧ _) at A2
    have HA : Hid (∀ q, Qs w ((w1.drewN q).alloc (sprO (head9 s i))) sb T s w1.heap.size (head9 s i)) := Lib.hid fun q => by
      have b : Below w1.heap.size w1 ((w1.drewN q).alloc (sprO (head9 s i))) := (below_dn (Below.refl _ _) q).alloc (Nat.le_refl _) _
      exact ⟨S1.out.later b, keep b R1.out, alloc_new (w1.drewN q) _, below_then HB.out b HB.out.size, LZ, SH.out⟩
    have HC : Hid (cells9 (head9 s i) = [.int .i64 (wA s i), .int .i64 (wB s i), .int .i64 (wC s i), .int .i64 0, .int .i64 0, .int .i64 0, .int .i64 0, .int .i64 0, .int .i64 0]) := Lib.hid rfl
    generalize head9 s i = H9 at *
    generalize wA s i = A at *
    generalize wB s i = B at *
    generalize wC s i = C at *
    refine region_quiet_alloc 25 24 (by kernel_rfl) (by kernel_rfl) _ (sprO zero9) rfl rfl (fun a w => kAS a w _ rfl) ?_
    simp only [List.take_succ_cons, List.take_zero, List.drop_succ_cons, List.drop_zero]
    repeat (first | (refine wpX_alloc (by decide) ?_; go_simp) | (refine wpX_next (by decide) ?_ (fun w' hw' J hJ => ?_) (fun L hL => ?_) w1 (Below.refl _ _); rotate_left; (have SW := S1.out.later hw'; have CO := SW.oam; unfold Mem.v at CO; have lt := SW.lt; have SWH := Lib.hid SW; clear SW hw'; unfold stillD; go_simp; (first | exact hJ | ((with_reducible refine ⟨_, A0.out _ SWH.out, ?_⟩); exact hJ) | ((with_reducible refine ⟨_, A1.out _ SWH.out, ?_⟩); exact hJ) | ((with_reducible refine ⟨_, A2.out _ SWH.out, ?_⟩); exact hJ))); (go_simp; refine hL _ ?_; clear hL L)))
    refine wpX_nil ?_
    intro q
    have XA := alloc_new (w1.drewN q) (sprO zero9)
    have HA' := HA.out q
    rw [show ((w1.drewN q).alloc (sprO H9)) = ((w1.drewN q).alloc (sprO zero9)).setRow w1.heap.size (cells9 H9).toArray from (alloc_setRow (w1.drewN q) _ _ _ _).symm] at HA'
    change ((w1.drewN q).alloc (sprO zero9)).heap[w1.heap.size]? = _ at XA
    have HAH := Lib.hid HA'
    clear HA'
    rw [HC.out] at HAH
    generalize (w1.drewN q).alloc (sprO zero9) = wx at *
    have XAH := Lib.hid XA
    clear XA
    go_wp2_with (refine wpList_store_row rfl 70 (.tmp 6) (.tmp 31) rfl w1.heap.size _ rfl rfl 70 _ XAH.out info_s rfl (by simp [Value.oneCell']) ?_)
    go_meet
    case rel => exact ⟨rfl, HAH⟩
  case rest =>
    obtain ⟨rfl, hQ⟩ := hcut
    go_step
    cases hk : okV s i
    · exact rread_no KH (Lib.hid hk) hQ
    · exact rread_yes KH (Lib.hid hk) hQ
end Go.Proofs.Ythbpcenobaloaaa.Nc
