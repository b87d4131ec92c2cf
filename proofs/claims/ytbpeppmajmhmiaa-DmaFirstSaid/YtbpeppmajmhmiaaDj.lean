/- A unit is brought: Step over the tape, whole. -/
import Derived.Test.YtbpeppmajmhmiaaDi
namespace Go.Proofs.Ytbpeppmajmhmiaa.Dj
set_option linter.unusedVariables false
set_option linter.unusedSimpArgs false
open Go.RowKit Go.Proofs.Ytbpeppmajmhmiaa.Bt Go.Proofs.Ytbpeppmajmhmiaa.Wk Go.Proofs.Ytbpeppmajmhmiaa.Sg Go.Proofs.Ytbpeppmajmhmiaa.Dp Go.Proofs.Ytbpeppmajmhmiaa.Da Go.Proofs.Ytbpeppmajmhmiaa.Db Go.Proofs.Ytbpeppmajmhmiaa.Dc Go.Proofs.Ytbpeppmajmhmiaa.Dd Go.Proofs.Ytbpeppmajmhmiaa.De Go.Proofs.Ytbpeppmajmhmiaa.Fq Go.Proofs.Ytbpeppmajmhmiaa.Df Go.Proofs.Ytbpeppmajmhmiaa.Dg Go.Proofs.Ytbpeppmajmhmiaa.Ft Go.Proofs.Ytbpeppmajmhmiaa.Dh Go.Proofs.Ytbpeppmajmhmiaa.Di

set_option maxRecDepth 100000 in
set_option maxHeartbeats 8000000 in
theorem step_any {w : World} {B ub tb i : Nat} {pv wv : Value} {u : Nat → Ch} {ps : List Pl} {ws : List Int} (h : PS w B ub tb pv wv u ps ws) (f : Wf (u i)) (hi : i < 4) (hr : ready u = i) (hl : ws.length = ps.length) (hn : ps.length ≤ 90000) (wd cls : Int) (hwd : wd = width (u i) i) (hcl : cls = if (u i).first then 0 else 1) :
    Calls Try.prog 11 #[.pointer (some ⟨ub, 0, none⟩), .iface 25 (.pointer (some ⟨tb, 0, none⟩))] w fun e w' => e = .returned (.tuple #[.int .i64 i, .bool (took (u i) i (kept (u i) wd)).2.1, .bool ((took (u i) i (kept (u i) wd)).2.1 && (took (u i) i (kept (u i) wd)).2.2)]) ∧
      ∃ pv' wv', SEnd w w' B ub tb pv wv pv' wv' (upd u i (took (u i) i (kept (u i) wd)).1) (ps ++ [planOf (u i) i wd cls]) (ws ++ [kept (u i) wd]) := by
  generalize hc : u i = c at *
  have S0 : Hid (SEnd w w B ub tb pv wv pv wv (upd u i c) ps ws) := Lib.hid (by rw [← hc, upd_self]; exact SEnd.refl h)
  have RD := Lib.hid (ready_any h.hu)
  rw [hr] at RD
  have i0 : (0 : Int) ≤ (i : Int) := by omega
  have i4 : (i : Int) < 4 := by omega
  have q0 : decide ((i : Int) < 0) = false := decide_eq_false (by omega)
  have b := S0.out.b1
  have C3 := b.c3 hi
  have SN := Lib.hid (sound_any c i f.c0 f.c1 C3)
  have C8 := b.c8 hi
  have Fz := b.free
  have lt := b.lt
  have S8 := b.s8 hi false
  have FH := Lib.hid f
  have HN := Lib.hid hn
  have HL := Lib.hid hl
  have HW := Lib.hid hwd
  have HC := Lib.hid hcl
  have hct0 := f.c0
  have hct1 := f.c1
  clear h hr b hn hl hwd hcl f hc
  go_enter Try.func11, Try.ntmps11
  go_upto_region 6 with (first | (go_at_call 13; ((with_reducible refine RD.out.mono ?_); rintro e w' ⟨rfl, rfl⟩)))
  have g10 : Go.bits .and .u16 (c.ctl / 1024) 1 = c.ctl / 1024 % 2 := and_16 (by omega) (by omega) 1 (by decide) 1 (by decide) 2 (by decide)
  go_cut [40] (fun s wx => s = .bool ((c.ctl / 1024 % 2 == 1) || sound c i) ∧ w = wx)
  case first =>
    cases tb : (c.ctl / 1024 % 2 == 1)
    · go_wp2_with (go_at_call 22; ((with_reducible refine SN.out.mono ?_); rintro e w' ⟨rfl, rfl⟩))
      go_meet
      case rel => exact ⟨by simp [tb], rfl⟩
    · go_wp2_with fail
      go_meet
      case rel => exact ⟨by simp [tb], rfl⟩
  case rest =>
  obtain ⟨rfl, rfl⟩ := hcut
  go_upto_if 40 with fail
  go_cut [9] (fun s wx => s = .int .i64 wd ∧ w = wx)
  case first =>
    have hw := HW.out
    unfold width at hw
    cases tw : ((c.ctl / 1024 % 2 == 1) || sound c i)
    · rw [if_neg (by simpa using tw)] at hw
      clear tw
      go_wp2_with fail
      go_meet
      case rel => exact ⟨by rw [hw], rfl⟩
    · rw [if_pos (by simpa using tw)] at hw
      clear tw
      go_wp2_with fail
      go_meet
      case rel => exact ⟨by rw [hw], rfl⟩
  case rest =>
  obtain ⟨rfl, rfl⟩ := hcut
  go_upto_if 44 with fail
  go_cut [10] (fun s wx => s = .int .i64 cls ∧ Hid (SEnd w wx B ub tb pv wv pv wv (upd u i { c with first := false }) ps ws))
  case first =>
    have hc := HC.out
    cases tf : c.first
    · rw [tf] at hc
      rw [tf] at C8
      have E : Hid (SEnd w w B ub tb pv wv pv wv (upd u i { c with first := false }) ps ws) := Lib.hid (by
        have := S0.out; rw [show ({ c with first := false } : Ch) = c by rw [← tf]]; exact this)
      clear tf S8
      go_wp2_with fail
      go_meet
      case rel => exact ⟨by rw [hc]; rfl, E⟩
    · rw [tf] at hc
      rw [tf] at C8
      have E : Hid (SEnd w (w.setCell ⟨ub, i * 10 + 8, none⟩ (.bool false)) B ub tb pv wv pv wv (upd u i { c with first := false }) ps ws) := Lib.hid (S0.out.store S8)
      clear tf S8
      go_wp2_with fail
      go_meet
      case rel => exact ⟨by rw [hc]; rfl, E⟩
  case rest =>
  obtain ⟨rfl, E1⟩ := hcut
  have w2 : wd = 2 ∨ wd = 4 := by
    rw [HW.out]; unfold width; split
    · exact .inr rfl
    · exact .inl rfl
  have wl : 2 ≤ wd := by omega
  have wd4 : wd ≤ 4 := by omega
  have hm : Go.bits .xor .u32 (if IntKind.u32.signed = true then -1 else IntKind.u32.max) (wd - 1) = 4294967296 - wd := by
    rcases w2 with e | e
    · rw [e]; decide
    · rw [e]; decide
  clear C3 C8 Fz lt S8
  go_upto_region 10 with fail
  go_cut [11] (fun s wx => s = .int .u32 (4294967296 - wd) ∧ wc = wx)
  case first =>
    go_wp2_with fail
    go_meet
    case rel => exact ⟨rfl, rfl⟩
  case rest =>
  obtain ⟨rfl, rfl⟩ := hcut
  go_step
  exact step_mid FH hi HW w2 HN HL E1
end Go.Proofs.Ytbpeppmajmhmiaa.Dj
