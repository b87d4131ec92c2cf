/- Package dma, walked: Moment, Hungry, New. -/
import Derived.Test.YtbpeppmajmhmiaaDd
namespace Go.Proofs.Ytbpeppmajmhmiaa.De
set_option linter.unusedVariables false
set_option linter.unusedSimpArgs false
open Go.RowKit Go.Proofs.Ytbpeppmajmhmiaa.Bt Go.Proofs.Ytbpeppmajmhmiaa.Wk Go.Proofs.Ytbpeppmajmhmiaa.Sg Go.Proofs.Ytbpeppmajmhmiaa.Dp Go.Proofs.Ytbpeppmajmhmiaa.Da Go.Proofs.Ytbpeppmajmhmiaa.Db Go.Proofs.Ytbpeppmajmhmiaa.Dc Go.Proofs.Ytbpeppmajmhmiaa.Dd

/-- f is done to the channels below k. -/
def upTo (u : Nat → Ch) (f : Nat → Ch → Ch) (k : Nat) : Nat → Ch := fun j => if j < k then f j (u j) else u j
theorem upTo_zero (u : Nat → Ch) (f : Nat → Ch → Ch) : upTo u f 0 = u := by funext j; unfold upTo; simp
theorem upTo_at (u : Nat → Ch) (f : Nat → Ch → Ch) (k : Nat) : upTo u f k k = u k := by unfold upTo; simp
theorem upTo_succ (u : Nat → Ch) (f : Nat → Ch → Ch) (k : Nat) : upd (upTo u f k) k (f k (u k)) = upTo u f (k + 1) := by
  funext j
  unfold upd upTo
  by_cases e : j = k
  · subst e; simp
  · rw [if_neg e]
    by_cases h : j < k
    · rw [if_pos h, if_pos (by omega)]
    · rw [if_neg h, if_neg (by omega)]
def all (u : Nat → Ch) (f : Nat → Ch → Ch) : Nat → Ch := fun j => f j (u j)
theorem cells_congr {u v : Nat → Ch} (h : ∀ k, k < 4 → u k = v k) : cells u = cells v := by
  unfold cells
  exact seg_congr fun k hk => by rw [h (k / 10) (by omega)]
theorem upTo_four (u : Nat → Ch) (f : Nat → Ch → Ch) : cells (upTo u f 4) = cells (all u f) := cells_congr fun k hk => by unfold upTo all; rw [if_pos hk]
/-- Block ub holds the channels v now. -/
def U2 (w W : World) (ub : Nat) (T : TypeId) (v : Nat → Ch) : Prop := Only ub (.cells (cells v).toArray T (0, 0)) w W
theorem U2.b1 {w W : World} {ub : Nat} {T : TypeId} {v : Nat → Ch} (h : U2 w W ub T v) (i : Nat) : B1 w W ub T v i (v i) := by unfold B1; rw [upd_self]; exact h
theorem new_any (w : World) : Calls Try.prog 9 #[] w fun e w' => e = .returned (.pointer (some ⟨w.heap.size, 0, none⟩)) ∧ w' = w.alloc (.cells (cells fun _ => zeroCh).toArray 62) := by
  rw [cells_zero]
  go_enter Try.func9, Try.ntmps9
  go_wp2
  go_ret
  exact ⟨rfl, rfl⟩
theorem moment_nil (n : Int) (w : World) : Calls Try.prog 15 #[.pointer none, .int .i64 n] w fun e w' => e = .returned (.tuple #[]) ∧ w = w' := by
  go_enter Try.func15, Try.ntmps15
  go_wp2
  refine bodyPost_ret (results_none rfl _ _ _) rfl ?_
  exact ⟨rfl, rfl⟩
theorem hungry_nil (a : Int) (w : World) : Calls Try.prog 17 #[.pointer none, .int .u32 a] w fun e w' => e = .returned (.tuple #[]) ∧ w = w' := by
  go_enter Try.func17, Try.ntmps17
  go_wp2
  refine bodyPost_ret (results_none rfl _ _ _) rfl ?_
  exact ⟨rfl, rfl⟩
set_option maxHeartbeats 4000000 in
theorem moment_any {w : World} {ub : Nat} {T : TypeId} {u : Nat → Ch} (h : isU w ub T u) (f : ∀ k, k < 4 → Wf (u k)) (n : Int) :
    Calls Try.prog 15 #[.pointer (some ⟨ub, 0, none⟩), .int .i64 n] w fun e w' => e = .returned (.tuple #[]) ∧ U2 w w' ub T (all u fun _ c => moment c n) := by
  by_cases hn : n = 1 ∨ n = 2
  · have HN := Lib.hid hn
    have tn : ((n != 1) = false) ∨ ((n != 1) = true ∧ (n != 2) = false) := by
      rcases hn with rfl | rfl
      · exact .inl rfl
      · exact .inr ⟨rfl, rfl⟩
    have H0 : Hid (U2 w w ub T u) := Lib.hid (Only.refl h)
    have FH := Lib.hid f
    clear h hn f
    rcases tn with tn | ⟨tn, tn2⟩
    all_goals
      go_enter Try.func15, Try.ntmps15
      go_wp2
      go_loopw [16] (fun i wr => ∃ k : Nat, i = .int .i64 k ∧ k ≤ 4 ∧ U2 w wr ub T (upTo u (fun _ c => moment c n) k)) (fun i _ => 4 - (intOf i).toNat)
      case atStart => exact ⟨0, rfl, by omega, by rw [upTo_zero]; exact H0.out⟩
      case round =>
        obtain ⟨k, rfl, hk, hU⟩ := hrel
        by_cases hlt : k < 4
        · have b := hU.b1 k
          rw [upTo_at] at b
          have F := FH.out k hlt
          have i0 : (0 : Int) ≤ (k : Int) := by omega
          have i4 : (k : Int) < 4 := by omega
          have t : decide ((k : Int) < 4) = true := decide_eq_true (by omega)
          have ON := Lib.hid (on_any (u k) F.c0 F.c1 (b.c3 hlt))
          have WN := Lib.hid (when_any (u k) F.c0 F.c1 (b.c3 hlt))
          have C7 := b.c7 hlt
          have Fz := b.free
          have ub0 := b.lt
          have S := b.s7 hlt true
          have NX := upTo_succ u (fun _ c => moment c n) k
          cases ho : on (u k)
          · have R : Hid (U2 w wr ub T (upTo u (fun _ c => moment c n) (k + 1))) := Lib.hid (by
              rw [← NX, show moment (u k) n = u k by unfold moment; rw [if_neg (by rw [ho]; simp)]]; exact b)
            rw [ho] at ON
            clear b hU S NX F ho WN
            go_wp2_with fail
            refine ON.out.mono ?_
            rintro e w' ⟨rfl, rfl⟩
            go_wp2_with fail
            go_roundw
            case rel => exact ⟨k + 1, by go_num, by omega, R.out⟩
            case measure => simp [intOf]; omega
          · rw [ho] at ON
            by_cases hw : wh (u k) = n
            · have tw : (wh (u k) == n) = true := by simpa using hw
              have R : Hid (U2 w (wr.setCell ⟨ub, k * 10 + 7, none⟩ (.bool true)) ub T (upTo u (fun _ c => moment c n) (k + 1))) := Lib.hid (by
                rw [← NX, show moment (u k) n = { u k with pend := true } by unfold moment; rw [if_pos ⟨HN.out, ho, hw⟩]]; exact S)
              clear b hU S NX F ho hw
              generalize wh (u k) = wk at *
              go_wp2_with fail
              refine ON.out.mono ?_
              rintro e w' ⟨rfl, rfl⟩
              go_wp2_with fail
              refine WN.out.mono ?_
              rintro e w' ⟨rfl, rfl⟩
              go_wp2_with fail
              go_roundw
              case rel => exact ⟨k + 1, by go_num, by omega, R.out⟩
              case measure => simp [intOf]; omega
            · have tw : (wh (u k) == n) = false := by simpa using hw
              have R : Hid (U2 w wr ub T (upTo u (fun _ c => moment c n) (k + 1))) := Lib.hid (by
                rw [← NX, show moment (u k) n = u k by unfold moment; rw [if_neg (fun g => hw g.2.2)]]; exact b)
              clear b hU S NX F ho hw
              generalize wh (u k) = wk at *
              go_wp2_with fail
              refine ON.out.mono ?_
              rintro e w' ⟨rfl, rfl⟩
              go_wp2_with fail
              refine WN.out.mono ?_
              rintro e w' ⟨rfl, rfl⟩
              go_wp2_with fail
              go_roundw
              case rel => exact ⟨k + 1, by go_num, by omega, R.out⟩
              case measure => simp [intOf]; omega
        · have : k = 4 := by omega
          subst this
          have R : Hid (U2 w wr ub T (all u fun _ c => moment c n)) := Lib.hid (by unfold U2; rw [← upTo_four]; exact hU)
          clear hU
          go_wp2
          go_end0
          exact ⟨rfl, R.out⟩
  · have e : (all u fun _ c => moment c n) = u := by
      funext j; show moment (u j) n = u j; unfold moment; rw [if_neg (fun g => hn g.1)]
    have R : Hid (U2 w w ub T (all u fun _ c => moment c n)) := Lib.hid (by rw [e]; exact Only.refl h)
    have t1 : (n != 1) = true := by
      have : n ≠ 1 := fun q => hn (.inl q)
      simpa using this
    have t2 : (n != 2) = true := by
      have : n ≠ 2 := fun q => hn (.inr q)
      simpa using this
    clear h e hn f
    go_enter Try.func15, Try.ntmps15
    go_wp2
    refine bodyPost_ret (results_none rfl _ _ _) rfl ?_
    exact ⟨rfl, R.out⟩
set_option maxHeartbeats 4000000 in
theorem hungry_any {w : World} {ub : Nat} {T : TypeId} {u : Nat → Ch} (h : isU w ub T u) (f : ∀ k, k < 4 → Wf (u k)) (a : Int) :
    Calls Try.prog 17 #[.pointer (some ⟨ub, 0, none⟩), .int .u32 a] w fun e w' => e = .returned (.tuple #[]) ∧ U2 w w' ub T (all u fun k c => hungry c k a) := by
  have H0 : Hid (U2 w w ub T (upTo u (fun k c => hungry c k a) 1)) := Lib.hid (by
    have e : upTo u (fun k c => hungry c k a) 1 = u := by
      funext j
      unfold upTo
      split
      · rename_i g
        have : j = 0 := by omega
        subst this
        unfold hungry sound
        simp
      · rfl
    rw [e]; exact Only.refl h)
  have FH := Lib.hid f
  clear h f
  go_enter Try.func17, Try.ntmps17
  go_wp2
  go_loopw [4] (fun i wr => ∃ k : Nat, i = .int .i64 k ∧ 1 ≤ k ∧ k ≤ 3 ∧ U2 w wr ub T (upTo u (fun k c => hungry c k a) k)) (fun i _ => 4 - (intOf i).toNat)
  case atStart => exact ⟨1, rfl, by omega, by omega, H0.out⟩
  case round =>
    obtain ⟨k, rfl, k1, hk, hU⟩ := hrel
    by_cases hlt : k < 3
    · have b := hU.b1 k
      rw [upTo_at] at b
      have hlt4 : k < 4 := by omega
      have F := FH.out k hlt4
      have i0 : (0 : Int) ≤ (k : Int) := by omega
      have i4 : (k : Int) < 4 := by omega
      have t : decide ((k : Int) ≤ 2) = true := decide_eq_true (by omega)
      have SN := Lib.hid (sound_any (u k) (k : Int) F.c0 F.c1 (b.c3 hlt4))
      have C7 := b.c7 hlt4
      have C5 := b.c5 hlt4
      have Fz := b.free
      have ub0 := b.lt
      have S := b.s7 hlt4 true
      have NX := upTo_succ u (fun k c => hungry c k a) k
      cases ho : sound (u k) (k : Int)
      · have R : Hid (U2 w wr ub T (upTo u (fun k c => hungry c k a) (k + 1))) := Lib.hid (by
          rw [← NX, show hungry (u k) k a = u k by unfold hungry; rw [if_neg (by rw [ho]; simp)]]; exact b)
        rw [ho] at SN
        clear b hU S NX F ho
        go_wp2_with fail
        refine SN.out.mono ?_
        rintro e w' ⟨rfl, rfl⟩
        go_wp2_with fail
        go_roundw
        case rel => exact ⟨k + 1, by go_num, by omega, by omega, R.out⟩
        case measure => simp [intOf]; omega
      · rw [ho] at SN
        by_cases hw : (u k).to_ = a
        · have tw : ((u k).to_ == a) = true := by simpa using hw
          have R : Hid (U2 w (wr.setCell ⟨ub, k * 10 + 7, none⟩ (.bool true)) ub T (upTo u (fun k c => hungry c k a) (k + 1))) := Lib.hid (by
            rw [← NX, show hungry (u k) k a = { u k with pend := true } by unfold hungry; rw [if_pos ⟨ho, hw⟩]]; exact S)
          clear b hU S NX F ho hw
          go_wp2_with fail
          refine SN.out.mono ?_
          rintro e w' ⟨rfl, rfl⟩
          go_wp2_with fail
          go_roundw
          case rel => exact ⟨k + 1, by go_num, by omega, by omega, R.out⟩
          case measure => simp [intOf]; omega
        · have tw : ((u k).to_ == a) = false := by simpa using hw
          have R : Hid (U2 w wr ub T (upTo u (fun k c => hungry c k a) (k + 1))) := Lib.hid (by
            rw [← NX, show hungry (u k) k a = u k by unfold hungry; rw [if_neg (fun g => hw g.2)]]; exact b)
          clear b hU S NX F ho hw
          go_wp2_with fail
          refine SN.out.mono ?_
          rintro e w' ⟨rfl, rfl⟩
          go_wp2_with fail
          go_roundw
          case rel => exact ⟨k + 1, by go_num, by omega, by omega, R.out⟩
          case measure => simp [intOf]; omega
    · have : k = 3 := by omega
      subst this
      have R : Hid (U2 w wr ub T (all u fun k c => hungry c k a)) := Lib.hid (by
        have e : cells (upTo u (fun k c => hungry c k a) 3) = cells (all u fun k c => hungry c k a) := cells_congr fun k hk => by
          unfold upTo all
          by_cases g : k < 3
          · rw [if_pos g]
          · rw [if_neg g]
            have : k = 3 := by omega
            subst this
            unfold hungry sound
            simp
        unfold U2; rw [← e]; exact hU)
      clear hU
      go_wp2
      go_end0
      exact ⟨rfl, R.out⟩
end Go.Proofs.Ytbpeppmajmhmiaa.De
