/- The document's channels, walked: Ready, Moment, Hungry, Write. -/
import Derived.Test.YtbpeppmajmhmiaaVa
namespace Go.Proofs.Ytbpeppmajmhmiaa.Vb
set_option linter.unusedVariables false
set_option linter.unusedSimpArgs false
open Go.RowKit Go.Proofs.Ytbpeppmajmhmiaa.Bt Go.Proofs.Ytbpeppmajmhmiaa.Wk Go.Proofs.Ytbpeppmajmhmiaa.Sg Go.Proofs.Ytbpeppmajmhmiaa.Dp Go.Proofs.Ytbpeppmajmhmiaa.Da Go.Proofs.Ytbpeppmajmhmiaa.Db Go.Proofs.Ytbpeppmajmhmiaa.Dc Go.Proofs.Ytbpeppmajmhmiaa.Dd Go.Proofs.Ytbpeppmajmhmiaa.De Go.Proofs.Ytbpeppmajmhmiaa.Fq Go.Proofs.Ytbpeppmajmhmiaa.Df Go.Proofs.Ytbpeppmajmhmiaa.Dg Go.Proofs.Ytbpeppmajmhmiaa.Dh Go.Proofs.Ytbpeppmajmhmiaa.Di Go.Proofs.Ytbpeppmajmhmiaa.Dj Go.Proofs.Ytbpeppmajmhmiaa.Dk Go.Proofs.Ytbpeppmajmhmiaa.Va

set_option maxHeartbeats 1000000 in
theorem rready_any {w : World} {ub : Nat} {T : TypeId} {u : Nat → Ch} (h : isU w ub T u) :
    Calls Try.prog 27 #[.pointer (some ⟨ub, 0, none⟩)] w fun e w' => e = .returned (.int .i64 (ready u)) ∧ w = w' := by
  rw [ready_rdy]
  have HH := Lib.hid h
  clear h
  go_enter Try.func27, Try.ntmps27
  go_wp2
  go_loop [3] (fun i => ∃ k : Nat, i = .int .i64 k ∧ k ≤ 4 ∧ rdy u k = rdy u 0) (fun i => 4 - (intOf i).toNat)
  case atStart => exact ⟨0, rfl, by omega, rfl⟩
  case round =>
    obtain ⟨k, rfl, hk, hr⟩ := hrel
    by_cases hlt : k < 4
    · have C7 := (isU_b1 HH.out k).c7 hlt
      rw [rdy_at u hlt] at hr
      have i0 : (0 : Int) ≤ (k : Int) := by omega
      have i4 : (k : Int) < 4 := by omega
      have t : decide ((k : Int) < 4) = true := decide_eq_true (by omega)
      generalize (u k).pend = p at *
      have HR := Lib.hid hr
      clear hr
      cases p
      · go_wp2
        go_round
        case rel => exact ⟨k + 1, by go_num, by omega, by have := HR.out; simpa using this⟩
        case measure => simp [intOf]; omega
      · go_wp2
        go_ret
        exact ⟨ret_i (by have := HR.out; simpa using this), rfl⟩
    · have : k = 4 := by omega
      subst this
      rw [rdy_end] at hr
      have HR := Lib.hid hr
      clear hr
      go_wp2
      go_ret
      exact ⟨ret_i HR.out, rfl⟩
set_option maxHeartbeats 4000000 in
theorem rmoment_any {w : World} {ub : Nat} {T : TypeId} {u : Nat → Ch} (h : isU w ub T u) (f : ∀ k, k < 4 → Wf (u k)) (n : Int) :
    Calls Try.prog 25 #[.pointer (some ⟨ub, 0, none⟩), .int .i64 n] w fun e w' => e = .returned (.tuple #[]) ∧ U2 w w' ub T (all u fun _ c => moment c n) := by
  have H0 : Hid (U2 w w ub T u) := Lib.hid (Only.refl h)
  have FH := Lib.hid f
  by_cases a : n = 1
  · subst a
    clear h f
    go_enter Try.func25, Try.ntmps25
    go_wp2
    go_loopw [4] (fun i wr => ∃ k : Nat, i = .int .i64 k ∧ k ≤ 4 ∧ U2 w wr ub T (upTo u (fun _ c => moment c (1 : Int)) k)) (fun i _ => 4 - (intOf i).toNat)
    case atStart => exact ⟨0, rfl, by omega, by rw [upTo_zero]; exact H0.out⟩
    case round =>
      obtain ⟨k, rfl, hk, hU⟩ := hrel
      by_cases hlt : k < 4
      · have b := hU.b1 k
        rw [upTo_at] at b
        have F := FH.out k hlt
        have i0 : (0 : Int) ≤ (k : Int) := by omega
        have i4 : (k : Int) < 4 := by omega
        have t : decide ((k : Int) < 4) = true := decide_eq_true (by omega)
        have ON := Lib.hid (ron_any (b := ub) (o := k * 10) (u k) F.c0 F.c1 (b.c3 hlt))
        have BW := Lib.hid (fun w => bits_12_2 (u k).ctl F.c0 F.c1 w)
        have C3 := b.c3 hlt
        have ub0 := b.lt
        have NXH := Lib.hid (upTo_succ u (fun _ c => moment c (1 : Int)) k)
        have BH := Lib.hid b
        have no : moment (u k) (1 : Int) = u k → Hid (U2 w wr ub T (upTo u (fun _ c => moment c (1 : Int)) (k + 1))) := fun e => Lib.hid (by rw [← NXH.out, e]; exact BH.out)
        clear b hU
        have wE : wh (u k) = (u k).ctl / 4096 % 4 := rfl
        cases ho : on (u k)
        · have R := no (by unfold moment; rw [if_neg (by rw [ho]; simp)])
          rw [ho] at ON
          clear ho wE no F
          go_wp2_with fail
          refine ON.out.mono ?_
          rintro e w' ⟨rfl, q, rfl⟩
          go_wp2_with fail
          go_roundw
          case rel => exact ⟨k + 1, by go_num, by omega, Only.drewN q R.out⟩
          case measure => simp [intOf]; omega
        · rw [ho] at ON
          cases hw : ((u k).ctl / 4096 % 4 == (1 : Int))
          · have R := no (by unfold moment; rw [if_neg (fun g => by have := g.2.2; rw [wE] at this; simp [this] at hw)])
            clear ho wE no F
            generalize (u k).ctl / 4096 % 4 = wk at *
            go_wp2_with fail
            refine ON.out.mono ?_
            rintro e w' ⟨rfl, q, rfl⟩
            go_wp2_with fail
            refine (BW.out _).mono ?_
            rintro e w' ⟨rfl, q2, rfl⟩
            go_wp2_with fail
            go_roundw
            case rel => exact ⟨k + 1, by go_num, by omega, Only.drewN _ R.out⟩
            case measure => simp [intOf]; omega
          · have ME := Lib.hid (show moment (u k) (1 : Int) = { u k with pend := true } by unfold moment; rw [if_pos ⟨by decide, ho, by rw [wE]; simpa using hw⟩])
            have WB := Lib.hid hw
            clear ho wE no F hw
            generalize (u k).ctl / 4096 % 4 = wk at *
            have hw := WB.out
            go_wp2_with fail
            refine ON.out.mono ?_
            rintro e w' ⟨rfl, q, rfl⟩
            go_wp2_with fail
            refine (BW.out _).mono ?_
            rintro e w' ⟨rfl, q2, rfl⟩
            have b2 : B1 w ((wr.drewN q).drewN q2) ub T (upTo u (fun _ c => moment c (1 : Int)) k) k (u k) := Only.drewN _ (Only.drewN _ BH.out)
            clear C3 ub0
            generalize (wr.drewN q).drewN q2 = w2 at *
            have C7 := b2.c7 hlt
            have Fz := b2.free
            have ub1 := b2.lt
            have S := Lib.hid (b2.s7 hlt true)
            clear b2
            go_wp2_with fail
            go_roundw
            case rel => exact ⟨k + 1, by go_num, by omega, by rw [← NXH.out, ME.out]; exact S.out⟩
            case measure => simp [intOf]; omega
      · have : k = 4 := by omega
        subst this
        have R : Hid (U2 w wr ub T (all u fun _ c => moment c (1 : Int))) := Lib.hid (by unfold U2; rw [← upTo_four]; exact hU)
        clear hU
        go_wp2
        go_end0
        exact ⟨rfl, R.out⟩
  by_cases b : n = 2
  · subst b
    clear a
    clear h f
    go_enter Try.func25, Try.ntmps25
    go_wp2
    go_loopw [4] (fun i wr => ∃ k : Nat, i = .int .i64 k ∧ k ≤ 4 ∧ U2 w wr ub T (upTo u (fun _ c => moment c (2 : Int)) k)) (fun i _ => 4 - (intOf i).toNat)
    case atStart => exact ⟨0, rfl, by omega, by rw [upTo_zero]; exact H0.out⟩
    case round =>
      obtain ⟨k, rfl, hk, hU⟩ := hrel
      by_cases hlt : k < 4
      · have b := hU.b1 k
        rw [upTo_at] at b
        have F := FH.out k hlt
        have i0 : (0 : Int) ≤ (k : Int) := by omega
        have i4 : (k : Int) < 4 := by omega
        have t : decide ((k : Int) < 4) = true := decide_eq_true (by omega)
        have ON := Lib.hid (ron_any (b := ub) (o := k * 10) (u k) F.c0 F.c1 (b.c3 hlt))
        have BW := Lib.hid (fun w => bits_12_2 (u k).ctl F.c0 F.c1 w)
        have C3 := b.c3 hlt
        have ub0 := b.lt
        have NXH := Lib.hid (upTo_succ u (fun _ c => moment c (2 : Int)) k)
        have BH := Lib.hid b
        have no : moment (u k) (2 : Int) = u k → Hid (U2 w wr ub T (upTo u (fun _ c => moment c (2 : Int)) (k + 1))) := fun e => Lib.hid (by rw [← NXH.out, e]; exact BH.out)
        clear b hU
        have wE : wh (u k) = (u k).ctl / 4096 % 4 := rfl
        cases ho : on (u k)
        · have R := no (by unfold moment; rw [if_neg (by rw [ho]; simp)])
          rw [ho] at ON
          clear ho wE no F
          go_wp2_with fail
          refine ON.out.mono ?_
          rintro e w' ⟨rfl, q, rfl⟩
          go_wp2_with fail
          go_roundw
          case rel => exact ⟨k + 1, by go_num, by omega, Only.drewN q R.out⟩
          case measure => simp [intOf]; omega
        · rw [ho] at ON
          cases hw : ((u k).ctl / 4096 % 4 == (2 : Int))
          · have R := no (by unfold moment; rw [if_neg (fun g => by have := g.2.2; rw [wE] at this; simp [this] at hw)])
            clear ho wE no F
            generalize (u k).ctl / 4096 % 4 = wk at *
            go_wp2_with fail
            refine ON.out.mono ?_
            rintro e w' ⟨rfl, q, rfl⟩
            go_wp2_with fail
            refine (BW.out _).mono ?_
            rintro e w' ⟨rfl, q2, rfl⟩
            go_wp2_with fail
            go_roundw
            case rel => exact ⟨k + 1, by go_num, by omega, Only.drewN _ R.out⟩
            case measure => simp [intOf]; omega
          · have ME := Lib.hid (show moment (u k) (2 : Int) = { u k with pend := true } by unfold moment; rw [if_pos ⟨by decide, ho, by rw [wE]; simpa using hw⟩])
            have WB := Lib.hid hw
            clear ho wE no F hw
            generalize (u k).ctl / 4096 % 4 = wk at *
            have hw := WB.out
            go_wp2_with fail
            refine ON.out.mono ?_
            rintro e w' ⟨rfl, q, rfl⟩
            go_wp2_with fail
            refine (BW.out _).mono ?_
            rintro e w' ⟨rfl, q2, rfl⟩
            have b2 : B1 w ((wr.drewN q).drewN q2) ub T (upTo u (fun _ c => moment c (2 : Int)) k) k (u k) := Only.drewN _ (Only.drewN _ BH.out)
            clear C3 ub0
            generalize (wr.drewN q).drewN q2 = w2 at *
            have C7 := b2.c7 hlt
            have Fz := b2.free
            have ub1 := b2.lt
            have S := Lib.hid (b2.s7 hlt true)
            clear b2
            go_wp2_with fail
            go_roundw
            case rel => exact ⟨k + 1, by go_num, by omega, by rw [← NXH.out, ME.out]; exact S.out⟩
            case measure => simp [intOf]; omega
      · have : k = 4 := by omega
        subst this
        have R : Hid (U2 w wr ub T (all u fun _ c => moment c (2 : Int))) := Lib.hid (by unfold U2; rw [← upTo_four]; exact hU)
        clear hU
        go_wp2
        go_end0
        exact ⟨rfl, R.out⟩
  have ha := a
  have hb := b
  have ta : (n == 1) = false := by simpa using a
  have tb : (n == 2) = false := by simpa using b
  clear h f
  go_enter Try.func25, Try.ntmps25
  go_wp2
  go_loopw [4] (fun i wr => ∃ k : Nat, i = .int .i64 k ∧ k ≤ 4 ∧ U2 w wr ub T (upTo u (fun _ c => moment c n) k)) (fun i _ => 4 - (intOf i).toNat)
  case atStart => exact ⟨0, rfl, by omega, by rw [upTo_zero]; exact H0.out⟩
  case round =>
    obtain ⟨k, rfl, hk, hU⟩ := hrel
    by_cases hlt : k < 4
    · have b := hU.b1 k
      rw [upTo_at] at b
      have F := FH.out k hlt
      have i0 : (0 : Int) ≤ (k : Int) := by omega
      have i4 : (k : Int) < 4 := by omega
      have t : decide ((k : Int) < 4) = true := decide_eq_true (by omega)
      have ON := Lib.hid (ron_any (b := ub) (o := k * 10) (u k) F.c0 F.c1 (b.c3 hlt))
      have BW := Lib.hid (fun w => bits_12_2 (u k).ctl F.c0 F.c1 w)
      have C3 := b.c3 hlt
      have ub0 := b.lt
      have NXH := Lib.hid (upTo_succ u (fun _ c => moment c n) k)
      have BH := Lib.hid b
      have no : moment (u k) n = u k → Hid (U2 w wr ub T (upTo u (fun _ c => moment c n) (k + 1))) := fun e => Lib.hid (by rw [← NXH.out, e]; exact BH.out)
      clear b hU
      have R := no (by unfold moment; rw [if_neg (fun g => by rcases g.1 with q | q; · exact ha q
                                                              · exact hb q)])
      clear no F
      go_wp2_with fail
      go_roundw
      case rel => exact ⟨k + 1, by go_num, by omega, R.out⟩
      case measure => simp [intOf]; omega
    · have : k = 4 := by omega
      subst this
      have R : Hid (U2 w wr ub T (all u fun _ c => moment c n)) := Lib.hid (by unfold U2; rw [← upTo_four]; exact hU)
      clear hU
      go_wp2
      go_end0
      exact ⟨rfl, R.out⟩
set_option maxHeartbeats 4000000 in
theorem rhungry_any {w : World} {ub : Nat} {T : TypeId} {u : Nat → Ch} (h : isU w ub T u) (f : ∀ k, k < 4 → Wf (u k)) (a : Int) :
    Calls Try.prog 26 #[.pointer (some ⟨ub, 0, none⟩), .int .u32 a] w fun e w' => e = .returned (.tuple #[]) ∧ U2 w w' ub T (all u fun k c => hungry c k a) := by
  have H0 : Hid (U2 w w ub T u) := Lib.hid (Only.refl h)
  have FH := Lib.hid f
  clear h f
  go_enter Try.func26, Try.ntmps26
  go_wp2
  go_loopw [4] (fun i wr => ∃ k : Nat, i = .int .i64 k ∧ k ≤ 4 ∧ U2 w wr ub T (upTo u (fun k c => hungry c k a) k)) (fun i _ => 4 - (intOf i).toNat)
  case atStart => exact ⟨0, rfl, by omega, by rw [upTo_zero]; exact H0.out⟩
  case round =>
    obtain ⟨k, rfl, hk, hU⟩ := hrel
    by_cases hlt : k < 4
    · have b := hU.b1 k
      rw [upTo_at] at b
      have F := FH.out k hlt
      have i0 : (0 : Int) ≤ (k : Int) := by omega
      have i4 : (k : Int) < 4 := by omega
      have t : decide ((k : Int) < 4) = true := decide_eq_true (by omega)
      have SN := Lib.hid (feeds_any (B1.self b) hlt F.c0 F.c1)
      have BH := Lib.hid b
      have NXH := Lib.hid (upTo_succ u (fun k c => hungry c k a) k)
      clear b hU
      cases ho : sound (u k) (k : Int)
      · have R : Hid (U2 w wr ub T (upTo u (fun k c => hungry c k a) (k + 1))) := Lib.hid (by
          rw [← NXH.out, show hungry (u k) k a = u k by unfold hungry; rw [if_neg (by rw [ho]; simp)]]; exact BH.out)
        rw [ho] at SN
        clear F ho
        go_wp2_with fail
        refine SN.out.mono ?_
        rintro e w' ⟨rfl, q, rfl⟩
        go_wp2_with fail
        go_roundw
        case rel => exact ⟨k + 1, by go_num, by omega, Only.drewN q R.out⟩
        case measure => simp [intOf]; omega
      · rw [ho] at SN
        cases tw : ((u k).to_ == a)
        · have R : Hid (U2 w wr ub T (upTo u (fun k c => hungry c k a) (k + 1))) := Lib.hid (by
            rw [← NXH.out, show hungry (u k) k a = u k by unfold hungry; rw [if_neg (fun g => by simp [g.2] at tw)]]; exact BH.out)
          have C5 := BH.out.c5 hlt
          clear F ho
          go_wp2_with fail
          refine SN.out.mono ?_
          rintro e w' ⟨rfl, q, rfl⟩
          go_wp2_with fail
          go_roundw
          case rel => exact ⟨k + 1, by go_num, by omega, Only.drewN q R.out⟩
          case measure => simp [intOf]; omega
        · have ME := Lib.hid (show hungry (u k) k a = { u k with pend := true } by unfold hungry; rw [if_pos ⟨ho, by simpa using tw⟩])
          clear F ho
          go_wp2_with fail
          refine SN.out.mono ?_
          rintro e w' ⟨rfl, q, rfl⟩
          have b2 : B1 w (wr.drewN q) ub T (upTo u (fun k c => hungry c k a) k) k (u k) := Only.drewN _ BH.out
          generalize wr.drewN q = w2 at *
          have C5 := b2.c5 hlt
          have C7 := b2.c7 hlt
          have Fz := b2.free
          have ub1 := b2.lt
          have S := Lib.hid (b2.s7 hlt true)
          clear b2
          go_wp2_with fail
          go_roundw
          case rel => exact ⟨k + 1, by go_num, by omega, by rw [← NXH.out, ME.out]; exact S.out⟩
          case measure => simp [intOf]; omega
    · have : k = 4 := by omega
      subst this
      have R : Hid (U2 w wr ub T (all u fun k c => hungry c k a)) := Lib.hid (by unfold U2; rw [← upTo_four]; exact hU)
      clear hU
      go_wp2
      go_end0
      exact ⟨rfl, R.out⟩
end Go.Proofs.Ytbpeppmajmhmiaa.Vb
