/- SchedRuns, walked. -/
import Derived.Test.YtkgjikdkidjpjaaUf
import Derived.Deep.DeepCutAuto
import Derived.ChangeKeysEq
import Derived.Laws.StructEq
namespace Go.Proofs.Ytkgjikdkidjpjaa.Ug
set_option linter.unusedVariables false
set_option linter.unusedSimpArgs false
open Go.RowKit Go.Proofs.Ytkgjikdkidjpjaa.Wk Go.Proofs.Ytkgjikdkidjpjaa.Sp Go.Proofs.Ytkgjikdkidjpjaa.Sa Go.Proofs.Ytkgjikdkidjpjaa.Sb Go.Proofs.Ytkgjikdkidjpjaa.Sc Go.Proofs.Ytkgjikdkidjpjaa.Sd Go.Proofs.Ytkgjikdkidjpjaa.Se Go.Proofs.Ytkgjikdkidjpjaa.Sf Go.Proofs.Ytkgjikdkidjpjaa.Sk Go.Proofs.Ytkgjikdkidjpjaa.Up Go.Proofs.Ytkgjikdkidjpjaa.Ua Go.Proofs.Ytkgjikdkidjpjaa.Ub Go.Proofs.Ytkgjikdkidjpjaa.Uc Go.Proofs.Ytkgjikdkidjpjaa.Ud Go.Proofs.Ytkgjikdkidjpjaa.Ue Go.Proofs.Ytkgjikdkidjpjaa.Uf

/-- Block k holds o, and is none of the two clocks'. -/
structure X3 (w : World) (sb : Nat) (v : Value) (mb : Nat) (vm : Value) (k : Nat) (o : Obj) : Prop where
  at_ : w.heap[k]? = some o
  f1 : ¬ Foot sb v k
  f2 : ¬ Foot mb vm k
theorem X3.new {w : World} {B sb mb : Nat} {now turn nowM : Int} {v vm : Value} {L : List Ent} {E : List Ev} (h : Two w B sb mb now turn v vm L nowM E) (o : Obj) : X3 (w.alloc o) sb v mb vm w.heap.size o :=
  ⟨alloc_new w o, (Kept.new h.s o).far, fun f => by
    rcases f with e | e
    · have := h.m.lt; omega
    · have := (own2_lt h.m.own e).2; omega⟩
theorem X3.stepS {w w' : World} {sb mb k : Nat} {v vm v' : Value} {o : Obj} (h : X3 w sb v mb vm k o) (T : Step w sb v w' v') : X3 w' sb v' mb vm k o :=
  have K := Kept.step (⟨h.at_, h.f1⟩ : Kept w sb v k o) T
  ⟨K.at_, K.far, h.f2⟩
theorem X3.stepM {w w' : World} {sb mb k : Nat} {v vm vm' : Value} {o : Obj} (h : X3 w sb v mb vm k o) (T : StepM w mb vm w' vm') : X3 w' sb v mb vm' k o :=
  ⟨T.fr.keep h.at_ h.f2, h.f1, fun f => by
    rcases f with e | e
    · exact h.f2 (.inl e)
    · rcases T.own k e with q | q
      · exact h.f2 (.inr q)
      · have := sizeAt h.at_; omega⟩
theorem X3.below {w w' : World} {sb mb k : Nat} {v vm : Value} {o : Obj} (h : X3 w sb v mb vm k o) (hb : Below w.heap.size w w') : X3 w' sb v mb vm k o := ⟨keep hb h.at_, h.f1, h.f2⟩
theorem mbel {w w' W : World} {B sb mb : Nat} {now turn nowM : Int} {v vm vm' : Value} {L : List Ent} {E : List Ev} (h : Two w B sb mb now turn v vm L nowM E) (s : StepM w mb vm w' vm') (hb : Below B W w) : Below B W w' := h.m.bel s hb
theorem two_start {w w1 : World} (hb : Below w.heap.size w w1) : Two ((w1.alloc (.cells #[.int .i64 0, .int .i64 0, .slice none 0 0] 54)).alloc (.cells #[.int .i64 0, .slice none 0 0] 43)) w.heap.size w1.heap.size (w1.heap.size + 1) 0 0 (.slice none 0 0) (.slice none 0 0) [] 0 [] := by
  refine ⟨(st_new w1 w.heap.size hb.size).below (bl _ _), ⟨?_, World.ownsRow_nil _ _ _ _, by simp [Value.ownBlock], by have := hb.size; omega, by simp⟩, fun f => ?_, fun g hg => by simp [Value.ownBlock] at hg⟩
  · have := alloc_new (w1.alloc (.cells #[.int .i64 0, .int .i64 0, .slice none 0 0] 54)) (.cells #[.int .i64 0, .slice none 0 0] 43)
    simpa using this
  · rcases f with e | e
    · omega
    · simp [Value.ownBlock] at e
theorem same2 (a b : Int) (w : World) : (Op.equalIn 10000 28 (.agg #[.int .i64 a, .int .i64 b]) (.agg #[.int .i64 a, .int .i64 b])).run Try.prog w = .ok true w := by
  rw [run_equalIn_agg (P := Try.prog) w 9999 28 _ _ (by kernel_rfl) (by kernel_rfl)]
  go_simp
set_option maxRecDepth 100000 in
set_option maxHeartbeats 40000000 in
theorem runs_law (A : Option Addr) (n cap : Nat) (f0 f1 f2 f3 : Nat → Int) (w : World) (hc : n ≤ cap) (hm : cap ≤ maxLen)
    (he : Elts w A n 4 (fun i => [.int .i64 (f0 i), .int .i64 (f1 i), .int .i64 (f2 i), .int .i64 (f3 i)]))
    (hf : ∀ i, i < n → (Lit.int .i64 (f0 i)).wf = true ∧ (Lit.int .i64 (f1 i)).wf = true ∧ (Lit.int .i64 (f2 i)).wf = true ∧ (Lit.int .i64 (f3 i)).wf = true ∧ True) :
    Calls Try.prog 6 #[.slice A n cap] w fun e w' => e = .returned (.bool true) ∧ Below w.heap.size w w' := by
  unfold maxLen at hm
  have HE := Lib.hid he
  clear he hf
  go_enter Try.func6, Try.ntmps6
  go_wp2_with fail
  refine (awake_any _).mono ?_
  rintro e w0 ⟨rfl, hb0⟩
  go_wp2_with fail
  refine (new_any _).mono ?_
  rintro e w1 ⟨rfl, rfl⟩
  have T0 := two_start hb0
  have hb := bl2 (bl2 hb0 (.cells #[.int .i64 0, .int .i64 0, .slice none 0 0] 54)) (.cells #[.int .i64 0, .slice none 0 0] 43)
  have T0H := Lib.hid T0
  have hbH := Lib.hid hb
  clear T0 hb hb0
  go_wp2_with fail
  generalize (w0.alloc (.cells #[.int .i64 0, .int .i64 0, .slice none 0 0] 54)).alloc (.cells #[.int .i64 0, .slice none 0 0] 43) = w1 at *
  generalize hmb : w0.heap.size + 1 = mb at *
  generalize w0.heap.size = sb at *
  have HMB := Lib.hid hmb
  clear hmb
  go_loopw [22] (fun iv wr => ∃ (k : Nat) (now turn : Int) (v vm : Value) (L : List Ent), iv = .int .i64 k ∧ k ≤ n ∧ k ≤ 500 ∧ turn ≤ k ∧ Two wr w.heap.size sb mb now turn v vm L now (L.map ev) ∧ Below w.heap.size w wr) (fun iv _ => n - (intOf iv).toNat)
  case atStart => exact ⟨0, 0, 0, _, _, [], rfl, by omega, by omega, by omega, T0H.out, hbH.out⟩
  case round =>
    obtain ⟨k, now, turn, v, vm, L, rfl, hk, hk5, htk, T, hb⟩ := hrel
    by_cases hlt : k < n
    · obtain ⟨a, rfl, hal, hcell⟩ := HE.out.cells hb hlt
      have ha : (a.add (k * 4)).block < wr.heap.size := Nat.lt_of_lt_of_le hal hb.size
      have g0 : wr.cell? (a.add (k * 4)) = some (.int .i64 (f0 k)) := hcell 0 (by decide)
      have g1 : wr.cell? ⟨(a.add (k * 4)).block, (a.add (k * 4)).off + 1, none⟩ = some (.int .i64 (f1 k)) := hcell 1 (by decide)
      have g2 : wr.cell? ⟨(a.add (k * 4)).block, (a.add (k * 4)).off + 2, none⟩ = some (.int .i64 (f2 k)) := hcell 2 (by decide)
      have g3 : wr.cell? ⟨(a.add (k * 4)).block, (a.add (k * 4)).off + 3, none⟩ = some (.int .i64 (f3 k)) := hcell 3 (by decide)
      have tl : decide ((k : Int) < (n : Int)) = true := by simpa using hlt
      clear hcell
      generalize f0 k = y0 at *
      generalize f1 k = y1 at *
      generalize f2 k = y2 at *
      generalize f3 k = y3 at *
      have TX := Lib.hid (T.below (bl wr (.cells #[.int .i64 y0, .int .i64 y1, .int .i64 y2, .int .i64 y3] 45)))
      have XX := Lib.hid (X3.new T (.cells #[.int .i64 y0, .int .i64 y1, .int .i64 y2, .int .i64 y3] 45))
      have HBX := Lib.hid (bl2 hb (.cells #[.int .i64 y0, .int .i64 y1, .int .i64 y2, .int .i64 y3] 45))
      clear T hb
      by_cases h5 : (k : Int) = 500
      · have h5' : ((k : Int) == 500) = true := by simpa using h5
        clear h5
        go_wp2
        go_ret
        exact ⟨rfl, HBX.out⟩
      · have h5' : ((k : Int) == 500) = false := by simpa using h5
        have k500 : k < 500 := by omega
        clear h5
        go_upto_region 8 with fail
        generalize wr.alloc (.cells #[.int .i64 y0, .int .i64 y1, .int .i64 y2, .int .i64 y3] 45) = wx at *
        generalize wr.heap.size = bx at *
        have TH := TX
        have XH := XX
        have HB := HBX
        clear TX XX HBX g0 g1 g2 g3 ha hal
        by_cases c0 : y0 = 0
        · have t0 : (y0 == 0) = true := by simpa using c0
          clear c0
          obtain ⟨r, turn', L', htt, P⟩ := pair_add (TH.out.below (bd wx)) y1 y2 (by omega)
          have P1 := Lib.hid P.1
          have P2 := Lib.hid P.2
          clear P
          have C := cellsAt XH.out.at_
          go_wp2_with fail
          go_region_held3 (fun w' => w'.cell? ⟨bx, 1, none⟩ = some (.int .i64 y1) ∧ w'.cell? ⟨bx, 2, none⟩ = some (.int .i64 y2))
            (first | exact ⟨cellsAt XA.out.at_ 1, cellsAt XA.out.at_ 2⟩ | exact ⟨cellsAt XB.out.at_ 1, cellsAt XB.out.at_ 2⟩ | go_keep)
            (first
              | (go_at_call 10; (with_reducible refine P1.out.mono ?_); rintro e w2 ⟨rfl, v2, S2, T2⟩; have TW := Lib.hid ((TH.out.below (bd wx)).stepS S2 T2); have XA := Lib.hid ((XH.out.below (bd wx)).stepS T2); have HA := Lib.hid ((TH.out.below (bd wx)).s.bel T2 (below_then HB.out (bd wx) HB.out.size)); clear S2 T2)
              | (go_at_call 16; (with_reducible refine (P2.out _ _ TW.out).mono ?_); rintro e w3 ⟨rfl, vm3, M3, T3⟩; have TT := Lib.hid (TW.out.stepM M3 T3); have XB := Lib.hid (XA.out.stepM T3); have HBB := Lib.hid (mbel TW.out T3 HA.out); clear M3 T3))
          obtain ⟨xx, bb, PN, PM⟩ := pair_next TT.out
          have PNH := Lib.hid PN
          have PMH := Lib.hid PM
          clear PN PM
          go_wp2_with fail
          refine PNH.out.mono ?_
          rintro e w' ⟨rfl, rfl⟩
          go_wp2_with fail
          refine PMH.out.mono ?_
          rintro e w8 ⟨rfl, hb8⟩
          have T8 := TT.out.below hb8
          have HB8 := Lib.hid (below_then HBB.out hb8 HBB.out.size)
          obtain ⟨qa, qc, hvm⟩ := slice2_form T8.m.own
          have D1 : w8.cell? ⟨mb, 1, none⟩ = some (.slice qa L'.length qc) := by rw [cellsAt T8.m.blk 1]; simp [hvm]
          have D0 : w8.cell? ⟨mb, 0, none⟩ = some (.int .i64 now) := cellsAt T8.m.blk 0
          have LN : Hid (∀ q, Calls Try.prog 11 #[.pointer (some ⟨sb, 0, none⟩)] (w8.drewN q) fun e w' => e = .returned (.int .i64 L'.length) ∧ w' = w8.drewN q) := Lib.hid fun q => Wk.flip (slen_any (T8.s.below (below_dn (Below.refl _ _) q)))
          have NW : Hid (∀ q, Calls Try.prog 13 #[.pointer (some ⟨sb, 0, none⟩)] (w8.drewN q) fun e w' => e = .returned (.int .i64 now) ∧ w' = w8.drewN q) := Lib.hid fun q => Wk.flip (now_any (T8.s.below (below_dn (Below.refl _ _) q)))
          have sz8 := T8.m.lt
          have l16 := T8.s.len
          have T8H := Lib.hid T8
          clear T8 hb8 hvm
          go_wp2
          go_quiet ((first | (go_at_call 11; (with_reducible exact Calls.quiet_of_same (LN.out _))) | (go_at_call 13; (with_reducible exact Calls.quiet_of_same (NW.out _)))))
          go_wp2
          go_roundw
          case rel => exact ⟨k + 1, now, turn', _, _, L', by go_num, by omega, by omega, by omega, T8H.out.below (below_dn (Below.refl _ _) _), below_dn HB8.out _⟩
          case measure => simp [intOf]; omega
        · have t0 : (y0 == 0) = false := by simpa using c0
          clear c0
          by_cases c1 : y0 = 1
          · have t1 : (y0 == 1) = true := by simpa using c1
            clear c1
            obtain ⟨r, now', P⟩ := pair_pass (TH.out.below (bd wx)) y3
            have P1 := Lib.hid P.1
            have P2 := Lib.hid P.2
            clear P
            have C := cellsAt XH.out.at_
            go_wp2_with fail
            go_region_held3 (fun w' => w'.cell? ⟨bx, 3, none⟩ = some (.int .i64 y3))
              (first | exact cellsAt XA.out.at_ 3 | exact cellsAt XB.out.at_ 3 | go_keep)
              (first
                | (go_at_call 12; (with_reducible refine P1.out.mono ?_); rintro e w2 ⟨rfl, v2, S2, T2⟩; have TW := Lib.hid ((TH.out.below (bd wx)).stepS S2 T2); have XA := Lib.hid ((XH.out.below (bd wx)).stepS T2); have HA := Lib.hid ((TH.out.below (bd wx)).s.bel T2 (below_then HB.out (bd wx) HB.out.size)); clear S2 T2)
                | (go_at_call 17; (with_reducible refine (P2.out _ _ TW.out).mono ?_); rintro e w3 ⟨rfl, vm3, M3, T3⟩; have TT := Lib.hid (TW.out.stepM M3 T3); have XB := Lib.hid (XA.out.stepM T3); have HBB := Lib.hid (mbel TW.out T3 HA.out); clear M3 T3))
            obtain ⟨xx, bb, PN, PM⟩ := pair_next TT.out
            have PNH := Lib.hid PN
            have PMH := Lib.hid PM
            clear PN PM
            go_wp2_with fail
            refine PNH.out.mono ?_
            rintro e w' ⟨rfl, rfl⟩
            go_wp2_with fail
            refine PMH.out.mono ?_
            rintro e w8 ⟨rfl, hb8⟩
            have T8 := TT.out.below hb8
            have HB8 := Lib.hid (below_then HBB.out hb8 HBB.out.size)
            obtain ⟨qa, qc, hvm⟩ := slice2_form T8.m.own
            have D1 : w8.cell? ⟨mb, 1, none⟩ = some (.slice qa L.length qc) := by rw [cellsAt T8.m.blk 1]; simp [hvm]
            have D0 : w8.cell? ⟨mb, 0, none⟩ = some (.int .i64 now') := cellsAt T8.m.blk 0
            have LN : Hid (∀ q, Calls Try.prog 11 #[.pointer (some ⟨sb, 0, none⟩)] (w8.drewN q) fun e w' => e = .returned (.int .i64 L.length) ∧ w' = w8.drewN q) := Lib.hid fun q => Wk.flip (slen_any (T8.s.below (below_dn (Below.refl _ _) q)))
            have NW : Hid (∀ q, Calls Try.prog 13 #[.pointer (some ⟨sb, 0, none⟩)] (w8.drewN q) fun e w' => e = .returned (.int .i64 now') ∧ w' = w8.drewN q) := Lib.hid fun q => Wk.flip (now_any (T8.s.below (below_dn (Below.refl _ _) q)))
            have sz8 := T8.m.lt
            have l16 := T8.s.len
            have T8H := Lib.hid T8
            clear T8 hb8 hvm
            go_wp2
            go_quiet ((first | (go_at_call 11; (with_reducible exact Calls.quiet_of_same (LN.out _))) | (go_at_call 13; (with_reducible exact Calls.quiet_of_same (NW.out _)))))
            go_wp2
            go_roundw
            case rel => exact ⟨k + 1, now', turn, _, _, L, by go_num, by omega, by omega, by omega, T8H.out.below (below_dn (Below.refl _ _) _), below_dn HB8.out _⟩
            case measure => simp [intOf]; omega
          · have t1 : (y0 == 1) = false := by simpa using c1
            clear c1
            by_cases c2 : y0 = 2
            · have t2 : (y0 == 2) = true := by simpa using c2
              clear c2
              obtain ⟨x1, x2, b, L', P⟩ := pair_due TH.out
              have P1 := Lib.hid P.1
              have P2 := Lib.hid P.2
              clear P
              have C := cellsAt XH.out.at_
              go_wp2_with fail
              refine P1.out.mono ?_
              rintro e w2 ⟨rfl, v2, S2, T2⟩
              have TW0 := TH.out.stepS S2 T2
              have TW := Lib.hid (TW0.below (bl w2 (.cells #[.int .i64 x1, .int .i64 x2] 28)))
              have XA := Lib.hid (X3.new TW0 (.cells #[.int .i64 x1, .int .i64 x2] 28))
              have HA := Lib.hid (bl2 (TH.out.s.bel T2 HB.out) (.cells #[.int .i64 x1, .int .i64 x2] 28))
              clear S2 T2 TW0 C
              go_wp2_with fail
              generalize w2.alloc (.cells #[.int .i64 x1, .int .i64 x2] 28) = w3 at *
              generalize w2.heap.size = bt at *
              refine (P2.out _ _ TW.out).mono ?_
              rintro e w4 ⟨rfl, vm4, M4, T4⟩
              have TT0 := TW.out.stepM M4 T4
              have XB := Lib.hid ((XA.out.stepM T4).below (bl w4 (.cells #[.int .i64 x1, .int .i64 x2] 28)))
              have XC := Lib.hid (X3.new TT0 (.cells #[.int .i64 x1, .int .i64 x2] 28))
              have TT := Lib.hid (TT0.below (bl w4 (.cells #[.int .i64 x1, .int .i64 x2] 28)))
              have HBB := Lib.hid (bl2 (mbel TW.out T4 HA.out) (.cells #[.int .i64 x1, .int .i64 x2] 28))
              have EQ := same2 x1 x2
              clear M4 T4 TT0
              go_upto_region 18 with fail
              generalize w4.alloc (.cells #[.int .i64 x1, .int .i64 x2] 28) = w5 at *
              generalize w4.heap.size = bu at *
              have C1 := cellsAt XB.out.at_
              have C2 := cellsAt XC.out.at_
              go_upto_region 23 with fail
              clear EQ C1 C2
              obtain ⟨xx, bb, PN, PM⟩ := pair_next TT.out
              have PNH := Lib.hid PN
              have PMH := Lib.hid PM
              clear PN PM
              go_wp2_with fail
              refine PNH.out.mono ?_
              rintro e w' ⟨rfl, rfl⟩
              go_wp2_with fail
              refine PMH.out.mono ?_
              rintro e w8 ⟨rfl, hb8⟩
              have T8 := TT.out.below hb8
              have HB8 := Lib.hid (below_then HBB.out hb8 HBB.out.size)
              obtain ⟨qa, qc, hvm⟩ := slice2_form T8.m.own
              have D1 : w8.cell? ⟨mb, 1, none⟩ = some (.slice qa L'.length qc) := by rw [cellsAt T8.m.blk 1]; simp [hvm]
              have D0 : w8.cell? ⟨mb, 0, none⟩ = some (.int .i64 now) := cellsAt T8.m.blk 0
              have LN : Hid (∀ q, Calls Try.prog 11 #[.pointer (some ⟨sb, 0, none⟩)] (w8.drewN q) fun e w' => e = .returned (.int .i64 L'.length) ∧ w' = w8.drewN q) := Lib.hid fun q => Wk.flip (slen_any (T8.s.below (below_dn (Below.refl _ _) q)))
              have NW : Hid (∀ q, Calls Try.prog 13 #[.pointer (some ⟨sb, 0, none⟩)] (w8.drewN q) fun e w' => e = .returned (.int .i64 now) ∧ w' = w8.drewN q) := Lib.hid fun q => Wk.flip (now_any (T8.s.below (below_dn (Below.refl _ _) q)))
              have sz8 := T8.m.lt
              have l16 := T8.s.len
              have T8H := Lib.hid T8
              clear T8 hb8 hvm
              go_wp2
              go_quiet ((first | (go_at_call 11; (with_reducible exact Calls.quiet_of_same (LN.out _))) | (go_at_call 13; (with_reducible exact Calls.quiet_of_same (NW.out _)))))
              go_wp2
              go_roundw
              case rel => exact ⟨k + 1, now, turn, _, _, L', by go_num, by omega, by omega, by omega, T8H.out.below (below_dn (Below.refl _ _) _), below_dn HB8.out _⟩
              case measure => simp [intOf]; omega
            · have t2 : (y0 == 2) = false := by simpa using c2
              clear c2
              by_cases c3 : y0 = 3
              · have t3 : (y0 == 3) = true := by simpa using c3
                clear c3
                obtain ⟨r, L', P⟩ := pair_cancel (TH.out.below (bd wx)) y3
                have P1 := Lib.hid P.1
                have P2 := Lib.hid P.2
                clear P
                have C := cellsAt XH.out.at_
                go_wp2_with fail
                go_region_held3 (fun w' => w'.cell? ⟨bx, 3, none⟩ = some (.int .i64 y3))
                  (first | exact cellsAt XA.out.at_ 3 | exact cellsAt XB.out.at_ 3 | go_keep)
                  (first
                    | (go_at_call 15; (with_reducible refine P1.out.mono ?_); rintro e w2 ⟨rfl, v2, S2, T2⟩; have TW := Lib.hid ((TH.out.below (bd wx)).stepS S2 T2); have XA := Lib.hid ((XH.out.below (bd wx)).stepS T2); have HA := Lib.hid ((TH.out.below (bd wx)).s.bel T2 (below_then HB.out (bd wx) HB.out.size)); clear S2 T2)
                    | (go_at_call 19; (with_reducible refine (P2.out _ _ TW.out).mono ?_); rintro e w3 ⟨rfl, vm3, M3, T3⟩; have TT := Lib.hid (TW.out.stepM M3 T3); have XB := Lib.hid (XA.out.stepM T3); have HBB := Lib.hid (mbel TW.out T3 HA.out); clear M3 T3))
                obtain ⟨xx, bb, PN, PM⟩ := pair_next TT.out
                have PNH := Lib.hid PN
                have PMH := Lib.hid PM
                clear PN PM
                go_wp2_with fail
                refine PNH.out.mono ?_
                rintro e w' ⟨rfl, rfl⟩
                go_wp2_with fail
                refine PMH.out.mono ?_
                rintro e w8 ⟨rfl, hb8⟩
                have T8 := TT.out.below hb8
                have HB8 := Lib.hid (below_then HBB.out hb8 HBB.out.size)
                obtain ⟨qa, qc, hvm⟩ := slice2_form T8.m.own
                have D1 : w8.cell? ⟨mb, 1, none⟩ = some (.slice qa L'.length qc) := by rw [cellsAt T8.m.blk 1]; simp [hvm]
                have D0 : w8.cell? ⟨mb, 0, none⟩ = some (.int .i64 now) := cellsAt T8.m.blk 0
                have LN : Hid (∀ q, Calls Try.prog 11 #[.pointer (some ⟨sb, 0, none⟩)] (w8.drewN q) fun e w' => e = .returned (.int .i64 L'.length) ∧ w' = w8.drewN q) := Lib.hid fun q => Wk.flip (slen_any (T8.s.below (below_dn (Below.refl _ _) q)))
                have NW : Hid (∀ q, Calls Try.prog 13 #[.pointer (some ⟨sb, 0, none⟩)] (w8.drewN q) fun e w' => e = .returned (.int .i64 now) ∧ w' = w8.drewN q) := Lib.hid fun q => Wk.flip (now_any (T8.s.below (below_dn (Below.refl _ _) q)))
                have sz8 := T8.m.lt
                have l16 := T8.s.len
                have T8H := Lib.hid T8
                clear T8 hb8 hvm
                go_wp2
                go_quiet ((first | (go_at_call 11; (with_reducible exact Calls.quiet_of_same (LN.out _))) | (go_at_call 13; (with_reducible exact Calls.quiet_of_same (NW.out _)))))
                go_wp2
                go_roundw
                case rel => exact ⟨k + 1, now, turn, _, _, L', by go_num, by omega, by omega, by omega, T8H.out.below (below_dn (Below.refl _ _) _), below_dn HB8.out _⟩
                case measure => simp [intOf]; omega
              · have t3 : (y0 == 3) = false := by simpa using c3
                clear c3
                have C := cellsAt XH.out.at_
                have TT := TH
                have HBB := HB
                go_upto_region 23 with fail
                clear C
                obtain ⟨xx, bb, PN, PM⟩ := pair_next TT.out
                have PNH := Lib.hid PN
                have PMH := Lib.hid PM
                clear PN PM
                go_wp2_with fail
                refine PNH.out.mono ?_
                rintro e w' ⟨rfl, rfl⟩
                go_wp2_with fail
                refine PMH.out.mono ?_
                rintro e w8 ⟨rfl, hb8⟩
                have T8 := TT.out.below hb8
                have HB8 := Lib.hid (below_then HBB.out hb8 HBB.out.size)
                obtain ⟨qa, qc, hvm⟩ := slice2_form T8.m.own
                have D1 : w8.cell? ⟨mb, 1, none⟩ = some (.slice qa L.length qc) := by rw [cellsAt T8.m.blk 1]; simp [hvm]
                have D0 : w8.cell? ⟨mb, 0, none⟩ = some (.int .i64 now) := cellsAt T8.m.blk 0
                have LN : Hid (∀ q, Calls Try.prog 11 #[.pointer (some ⟨sb, 0, none⟩)] (w8.drewN q) fun e w' => e = .returned (.int .i64 L.length) ∧ w' = w8.drewN q) := Lib.hid fun q => Wk.flip (slen_any (T8.s.below (below_dn (Below.refl _ _) q)))
                have NW : Hid (∀ q, Calls Try.prog 13 #[.pointer (some ⟨sb, 0, none⟩)] (w8.drewN q) fun e w' => e = .returned (.int .i64 now) ∧ w' = w8.drewN q) := Lib.hid fun q => Wk.flip (now_any (T8.s.below (below_dn (Below.refl _ _) q)))
                have sz8 := T8.m.lt
                have l16 := T8.s.len
                have T8H := Lib.hid T8
                clear T8 hb8 hvm
                go_wp2
                go_quiet ((first | (go_at_call 11; (with_reducible exact Calls.quiet_of_same (LN.out _))) | (go_at_call 13; (with_reducible exact Calls.quiet_of_same (NW.out _)))))
                go_wp2
                go_roundw
                case rel => exact ⟨k + 1, now, turn, _, _, L, by go_num, by omega, by omega, by omega, T8H.out.below (below_dn (Below.refl _ _) _), below_dn HB8.out _⟩
                case measure => simp [intOf]; omega
    · have hk' : k = n := by omega
      have tl : decide ((k : Int) < (n : Int)) = false := by simp; omega
      have HB := Lib.hid hb
      clear T hb
      go_wp2
      go_ret
      exact ⟨rfl, HB.out⟩
end Go.Proofs.Ytkgjikdkidjpjaa.Ug
