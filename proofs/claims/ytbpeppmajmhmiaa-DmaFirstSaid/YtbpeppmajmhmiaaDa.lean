/- Package dma, walked: a channel's own calls. -/
import Derived.Test.YtbpeppmajmhmiaaProg
import Derived.Test.YtbpeppmajmhmiaaDp
import Derived.WalkLawsBesides
import Derived.WalkSpells
import Derived.Outline
import Derived.Lib.Hide
import Derived.Deep.QuietTactic
import Derived.BigQuiet
import Derived.BigRegion
import Derived.RegionTactic
import Derived.ChangeAlike
import Derived.LoopTactic
import Derived.StillTailTactics
import Derived.Deep.DeepCutAuto
namespace Go.Proofs.Ytbpeppmajmhmiaa.Da
set_option linter.unusedVariables false
set_option linter.unusedSimpArgs false
open Go.RowKit Go.Proofs.Ytbpeppmajmhmiaa.Bt Go.Proofs.Ytbpeppmajmhmiaa.Wk Go.Proofs.Ytbpeppmajmhmiaa.Sg Go.Proofs.Ytbpeppmajmhmiaa.Dp

/-- Block ub holds four channels, channel i of them is c; what else was there in w is as it was. -/
def B1 (w W : World) (ub : Nat) (T : TypeId) (u : Nat → Ch) (i : Nat) (c : Ch) : Prop := Only ub (.cells (cells (upd u i c)).toArray T (0, 0)) w W
theorem upd_upd {α : Type} (f : Nat → α) (i : Nat) (a b : α) : upd (upd f i a) i b = upd f i b := by
  funext k; unfold upd; split <;> rfl
theorem upd_self {α : Type} (f : Nat → α) (i : Nat) : upd f i (f i) = f := by
  funext k; unfold upd; split
  · rename_i h; rw [h]
  · rfl
theorem B1.set {w W : World} {ub : Nat} {T : TypeId} {u : Nat → Ch} {i j : Nat} {c : Ch} (h : B1 w W ub T u i c) (hi : i < 4) (hj : j < 10) (c' : Ch) (v : Value) (hv : chv c' j = v) (hc : ∀ m, m < 10 → m ≠ j → chv c' m = chv c m) :
    B1 w (W.setCell ⟨ub, i * 10 + j, none⟩ v) ub T u i c' := by
  have O := Only.set (j := i * 10 + j) h v
  refine O.to ?_
  rw [toArray_set, cells_set (upd u i c) hi hj c' v hv (by rw [upd_same]; exact hc), upd_upd]
theorem B1.cell {w W : World} {ub : Nat} {T : TypeId} {u : Nat → Ch} {i : Nat} {c : Ch} (h : B1 w W ub T u i c) (hi : i < 4) (j : Nat) (hj : j < 10) : W.cell? ⟨ub, i * 10 + j, none⟩ = some (chv c j) := by
  rw [cellsAt h.at_, toArray_at, cells_at _ hi hj, upd_same]
theorem B1.free {w W : World} {ub : Nat} {T : TypeId} {u : Nat → Ch} {i : Nat} {c : Ch} (h : B1 w W ub T u i c) (j : Nat) : W.frozen? ⟨ub, j, none⟩ = false := freeAt h.at_ j
theorem B1.start {w : World} {ub : Nat} {T : TypeId} {u : Nat → Ch} (h : w.heap[ub]? = some (.cells (cells u).toArray T (0, 0))) (i : Nat) : B1 w w ub T u i (u i) := by
  unfold B1; rw [upd_self]; exact Only.refl h
theorem B1.trans {w W W' : World} {ub : Nat} {T : TypeId} {u : Nat → Ch} {i : Nat} {c c' : Ch} (h : B1 w W ub T u i c) (h' : B1 W W' ub T u i c') : B1 w W' ub T u i c' := Only.trans h h'
theorem B1.self {w W : World} {ub : Nat} {T : TypeId} {u : Nat → Ch} {i : Nat} {c : Ch} (h : B1 w W ub T u i c) : B1 W W ub T u i c := Only.refl h.at_
theorem B1.lt {w W : World} {ub : Nat} {T : TypeId} {u : Nat → Ch} {i : Nat} {c : Ch} (h : B1 w W ub T u i c) : ub < W.heap.size := sizeAt h.at_
theorem B1.c0 {w W : World} {ub : Nat} {T : TypeId} {u : Nat → Ch} {i : Nat} {c : Ch} (h : B1 w W ub T u i c) (hi : i < 4) : W.cell? ⟨ub, i * 10, none⟩ = some (.int .u32 c.src) := h.cell hi 0 (by decide)
theorem B1.s0 {w W : World} {ub : Nat} {T : TypeId} {u : Nat → Ch} {i : Nat} {c : Ch} (h : B1 w W ub T u i c) (hi : i < 4) (x : Int) : B1 w (W.setCell ⟨ub, i * 10, none⟩ (.int .u32 x)) ub T u i { c with src := x } := h.set (j := 0) hi (by decide) _ _ rfl (by intro m hm hn; have : m = 0 ∨ m = 1 ∨ m = 2 ∨ m = 3 ∨ m = 4 ∨ m = 5 ∨ m = 6 ∨ m = 7 ∨ m = 8 ∨ m = 9 := (by omega); rcases this with rfl | rfl | rfl | rfl | rfl | rfl | rfl | rfl | rfl | rfl <;> first | rfl | exact absurd rfl hn)
theorem B1.c1 {w W : World} {ub : Nat} {T : TypeId} {u : Nat → Ch} {i : Nat} {c : Ch} (h : B1 w W ub T u i c) (hi : i < 4) : W.cell? ⟨ub, i * 10 + 1, none⟩ = some (.int .u32 c.dst) := h.cell hi 1 (by decide)
theorem B1.s1 {w W : World} {ub : Nat} {T : TypeId} {u : Nat → Ch} {i : Nat} {c : Ch} (h : B1 w W ub T u i c) (hi : i < 4) (x : Int) : B1 w (W.setCell ⟨ub, i * 10 + 1, none⟩ (.int .u32 x)) ub T u i { c with dst := x } := h.set (j := 1) hi (by decide) _ _ rfl (by intro m hm hn; have : m = 0 ∨ m = 1 ∨ m = 2 ∨ m = 3 ∨ m = 4 ∨ m = 5 ∨ m = 6 ∨ m = 7 ∨ m = 8 ∨ m = 9 := (by omega); rcases this with rfl | rfl | rfl | rfl | rfl | rfl | rfl | rfl | rfl | rfl <;> first | rfl | exact absurd rfl hn)
theorem B1.c2 {w W : World} {ub : Nat} {T : TypeId} {u : Nat → Ch} {i : Nat} {c : Ch} (h : B1 w W ub T u i c) (hi : i < 4) : W.cell? ⟨ub, i * 10 + 2, none⟩ = some (.int .i64 c.count) := h.cell hi 2 (by decide)
theorem B1.s2 {w W : World} {ub : Nat} {T : TypeId} {u : Nat → Ch} {i : Nat} {c : Ch} (h : B1 w W ub T u i c) (hi : i < 4) (x : Int) : B1 w (W.setCell ⟨ub, i * 10 + 2, none⟩ (.int .i64 x)) ub T u i { c with count := x } := h.set (j := 2) hi (by decide) _ _ rfl (by intro m hm hn; have : m = 0 ∨ m = 1 ∨ m = 2 ∨ m = 3 ∨ m = 4 ∨ m = 5 ∨ m = 6 ∨ m = 7 ∨ m = 8 ∨ m = 9 := (by omega); rcases this with rfl | rfl | rfl | rfl | rfl | rfl | rfl | rfl | rfl | rfl <;> first | rfl | exact absurd rfl hn)
theorem B1.c3 {w W : World} {ub : Nat} {T : TypeId} {u : Nat → Ch} {i : Nat} {c : Ch} (h : B1 w W ub T u i c) (hi : i < 4) : W.cell? ⟨ub, i * 10 + 3, none⟩ = some (.int .u16 c.ctl) := h.cell hi 3 (by decide)
theorem B1.s3 {w W : World} {ub : Nat} {T : TypeId} {u : Nat → Ch} {i : Nat} {c : Ch} (h : B1 w W ub T u i c) (hi : i < 4) (x : Int) : B1 w (W.setCell ⟨ub, i * 10 + 3, none⟩ (.int .u16 x)) ub T u i { c with ctl := x } := h.set (j := 3) hi (by decide) _ _ rfl (by intro m hm hn; have : m = 0 ∨ m = 1 ∨ m = 2 ∨ m = 3 ∨ m = 4 ∨ m = 5 ∨ m = 6 ∨ m = 7 ∨ m = 8 ∨ m = 9 := (by omega); rcases this with rfl | rfl | rfl | rfl | rfl | rfl | rfl | rfl | rfl | rfl <;> first | rfl | exact absurd rfl hn)
theorem B1.c4 {w W : World} {ub : Nat} {T : TypeId} {u : Nat → Ch} {i : Nat} {c : Ch} (h : B1 w W ub T u i c) (hi : i < 4) : W.cell? ⟨ub, i * 10 + 4, none⟩ = some (.int .u32 c.at_) := h.cell hi 4 (by decide)
theorem B1.s4 {w W : World} {ub : Nat} {T : TypeId} {u : Nat → Ch} {i : Nat} {c : Ch} (h : B1 w W ub T u i c) (hi : i < 4) (x : Int) : B1 w (W.setCell ⟨ub, i * 10 + 4, none⟩ (.int .u32 x)) ub T u i { c with at_ := x } := h.set (j := 4) hi (by decide) _ _ rfl (by intro m hm hn; have : m = 0 ∨ m = 1 ∨ m = 2 ∨ m = 3 ∨ m = 4 ∨ m = 5 ∨ m = 6 ∨ m = 7 ∨ m = 8 ∨ m = 9 := (by omega); rcases this with rfl | rfl | rfl | rfl | rfl | rfl | rfl | rfl | rfl | rfl <;> first | rfl | exact absurd rfl hn)
theorem B1.c5 {w W : World} {ub : Nat} {T : TypeId} {u : Nat → Ch} {i : Nat} {c : Ch} (h : B1 w W ub T u i c) (hi : i < 4) : W.cell? ⟨ub, i * 10 + 5, none⟩ = some (.int .u32 c.to_) := h.cell hi 5 (by decide)
theorem B1.s5 {w W : World} {ub : Nat} {T : TypeId} {u : Nat → Ch} {i : Nat} {c : Ch} (h : B1 w W ub T u i c) (hi : i < 4) (x : Int) : B1 w (W.setCell ⟨ub, i * 10 + 5, none⟩ (.int .u32 x)) ub T u i { c with to_ := x } := h.set (j := 5) hi (by decide) _ _ rfl (by intro m hm hn; have : m = 0 ∨ m = 1 ∨ m = 2 ∨ m = 3 ∨ m = 4 ∨ m = 5 ∨ m = 6 ∨ m = 7 ∨ m = 8 ∨ m = 9 := (by omega); rcases this with rfl | rfl | rfl | rfl | rfl | rfl | rfl | rfl | rfl | rfl <;> first | rfl | exact absurd rfl hn)
theorem B1.c6 {w W : World} {ub : Nat} {T : TypeId} {u : Nat → Ch} {i : Nat} {c : Ch} (h : B1 w W ub T u i c) (hi : i < 4) : W.cell? ⟨ub, i * 10 + 6, none⟩ = some (.int .i64 c.left) := h.cell hi 6 (by decide)
theorem B1.s6 {w W : World} {ub : Nat} {T : TypeId} {u : Nat → Ch} {i : Nat} {c : Ch} (h : B1 w W ub T u i c) (hi : i < 4) (x : Int) : B1 w (W.setCell ⟨ub, i * 10 + 6, none⟩ (.int .i64 x)) ub T u i { c with left := x } := h.set (j := 6) hi (by decide) _ _ rfl (by intro m hm hn; have : m = 0 ∨ m = 1 ∨ m = 2 ∨ m = 3 ∨ m = 4 ∨ m = 5 ∨ m = 6 ∨ m = 7 ∨ m = 8 ∨ m = 9 := (by omega); rcases this with rfl | rfl | rfl | rfl | rfl | rfl | rfl | rfl | rfl | rfl <;> first | rfl | exact absurd rfl hn)
theorem B1.c7 {w W : World} {ub : Nat} {T : TypeId} {u : Nat → Ch} {i : Nat} {c : Ch} (h : B1 w W ub T u i c) (hi : i < 4) : W.cell? ⟨ub, i * 10 + 7, none⟩ = some (.bool c.pend) := h.cell hi 7 (by decide)
theorem B1.s7 {w W : World} {ub : Nat} {T : TypeId} {u : Nat → Ch} {i : Nat} {c : Ch} (h : B1 w W ub T u i c) (hi : i < 4) (x : Bool) : B1 w (W.setCell ⟨ub, i * 10 + 7, none⟩ (.bool x)) ub T u i { c with pend := x } := h.set (j := 7) hi (by decide) _ _ rfl (by intro m hm hn; have : m = 0 ∨ m = 1 ∨ m = 2 ∨ m = 3 ∨ m = 4 ∨ m = 5 ∨ m = 6 ∨ m = 7 ∨ m = 8 ∨ m = 9 := (by omega); rcases this with rfl | rfl | rfl | rfl | rfl | rfl | rfl | rfl | rfl | rfl <;> first | rfl | exact absurd rfl hn)
theorem B1.c8 {w W : World} {ub : Nat} {T : TypeId} {u : Nat → Ch} {i : Nat} {c : Ch} (h : B1 w W ub T u i c) (hi : i < 4) : W.cell? ⟨ub, i * 10 + 8, none⟩ = some (.bool c.first) := h.cell hi 8 (by decide)
theorem B1.s8 {w W : World} {ub : Nat} {T : TypeId} {u : Nat → Ch} {i : Nat} {c : Ch} (h : B1 w W ub T u i c) (hi : i < 4) (x : Bool) : B1 w (W.setCell ⟨ub, i * 10 + 8, none⟩ (.bool x)) ub T u i { c with first := x } := h.set (j := 8) hi (by decide) _ _ rfl (by intro m hm hn; have : m = 0 ∨ m = 1 ∨ m = 2 ∨ m = 3 ∨ m = 4 ∨ m = 5 ∨ m = 6 ∨ m = 7 ∨ m = 8 ∨ m = 9 := (by omega); rcases this with rfl | rfl | rfl | rfl | rfl | rfl | rfl | rfl | rfl | rfl <;> first | rfl | exact absurd rfl hn)
theorem B1.c9 {w W : World} {ub : Nat} {T : TypeId} {u : Nat → Ch} {i : Nat} {c : Ch} (h : B1 w W ub T u i c) (hi : i < 4) : W.cell? ⟨ub, i * 10 + 9, none⟩ = some (.int .u32 c.latch) := h.cell hi 9 (by decide)
theorem B1.s9 {w W : World} {ub : Nat} {T : TypeId} {u : Nat → Ch} {i : Nat} {c : Ch} (h : B1 w W ub T u i c) (hi : i < 4) (x : Int) : B1 w (W.setCell ⟨ub, i * 10 + 9, none⟩ (.int .u32 x)) ub T u i { c with latch := x } := h.set (j := 9) hi (by decide) _ _ rfl (by intro m hm hn; have : m = 0 ∨ m = 1 ∨ m = 2 ∨ m = 3 ∨ m = 4 ∨ m = 5 ∨ m = 6 ∨ m = 7 ∨ m = 8 ∨ m = 9 := (by omega); rcases this with rfl | rfl | rfl | rfl | rfl | rfl | rfl | rfl | rfl | rfl <;> first | rfl | exact absurd rfl hn)
theorem most_any (i : Int) (w : World) : Calls Try.prog 18 #[.int .i64 i] w fun e w' => e = .returned (.int .i64 (most i)) ∧ w = w' := by
  unfold most
  by_cases h : i = 3
  · rw [if_pos h]
    have t : (i == 3) = true := by simpa using h
    clear h
    go_enter Try.func18, Try.ntmps18
    go_wp2
    go_ret
    exact ⟨rfl, rfl⟩
  · rw [if_neg h]
    have t : (i == 3) = false := by simpa using h
    clear h
    go_enter Try.func18, Try.ntmps18
    go_wp2
    go_ret
    exact ⟨rfl, rfl⟩
theorem on_any {w : World} {b o : Nat} (c : Ch) (h0 : 0 ≤ c.ctl) (h1 : c.ctl < 65536) (hc : w.cell? ⟨b, o + 3, none⟩ = some (.int .u16 c.ctl)) :
    Calls Try.prog 19 #[.pointer (some ⟨b, o, none⟩)] w fun e w' => e = .returned (.bool (on c)) ∧ w = w' := by
  unfold on
  generalize c.ctl = x at *
  go_enter Try.func19, Try.ntmps19
  go_wp2
  go_ret
  exact ⟨rfl, rfl⟩
theorem when_any {w : World} {b o : Nat} (c : Ch) (h0 : 0 ≤ c.ctl) (h1 : c.ctl < 65536) (hc : w.cell? ⟨b, o + 3, none⟩ = some (.int .u16 c.ctl)) :
    Calls Try.prog 21 #[.pointer (some ⟨b, o, none⟩)] w fun e w' => e = .returned (.int .i64 (wh c)) ∧ w = w' := by
  unfold wh
  generalize c.ctl = x at *
  have g : Go.bits .and .u16 (x / 4096) 3 = x / 4096 % 4 := by have := and_mask_u16 (a := x / 4096) (by omega) (by omega) 2 (by decide); simpa using this
  have r0 : 0 ≤ x / 4096 % 4 := by omega
  have r1 : x / 4096 % 4 < 4 := by omega
  go_enter Try.func21, Try.ntmps21
  go_wp2
  go_ret
  exact ⟨rfl, rfl⟩
set_option maxHeartbeats 1000000 in
theorem sound_any {w : World} {b o : Nat} (c : Ch) (i : Int) (h0 : 0 ≤ c.ctl) (h1 : c.ctl < 65536) (hc : w.cell? ⟨b, o + 3, none⟩ = some (.int .u16 c.ctl)) :
    Calls Try.prog 22 #[.pointer (some ⟨b, o, none⟩), .int .i64 i] w fun e w' => e = .returned (.bool (sound c i)) ∧ w = w' := by
  have O := on_any c h0 h1 hc
  have W := when_any c h0 h1 hc
  unfold sound
  generalize on c = oc at *
  generalize wh c = wc at *
  have OH := Lib.hid O
  have WH := Lib.hid W
  clear O W hc
  cases oc
  · go_enter Try.func22, Try.ntmps22
    go_wp2_with (go_at_call 19; ((with_reducible refine OH.out.mono ?_); rintro e w' ⟨rfl, rfl⟩))
    go_ret
    exact ⟨rfl, rfl⟩
  · cases t3 : (wc == 3)
    · go_enter Try.func22, Try.ntmps22
      go_wp2_with (first | (go_at_call 19; ((with_reducible refine OH.out.mono ?_); rintro e w' ⟨rfl, rfl⟩)) | (go_at_call 21; ((with_reducible refine WH.out.mono ?_); rintro e w' ⟨rfl, rfl⟩)))
      go_ret
      exact ⟨rfl, rfl⟩
    · cases t1 : (i == 1)
      · go_enter Try.func22, Try.ntmps22
        go_wp2_with (first | (go_at_call 19; ((with_reducible refine OH.out.mono ?_); rintro e w' ⟨rfl, rfl⟩)) | (go_at_call 21; ((with_reducible refine WH.out.mono ?_); rintro e w' ⟨rfl, rfl⟩)))
        go_ret
        exact ⟨rfl, rfl⟩
      · go_enter Try.func22, Try.ntmps22
        go_wp2_with (first | (go_at_call 19; ((with_reducible refine OH.out.mono ?_); rintro e w' ⟨rfl, rfl⟩)) | (go_at_call 21; ((with_reducible refine WH.out.mono ?_); rintro e w' ⟨rfl, rfl⟩)))
        go_ret
        exact ⟨rfl, rfl⟩
theorem moved_any (a h n : Int) (a0 : 0 ≤ a) (a1 : a < 4294967296) (n0 : 0 ≤ n) (n1 : n < 8) (w : World) :
    Calls Try.prog 23 #[.int .u32 a, .int .i64 h, .int .i64 n] w fun e w' => e = .returned (.int .u32 (moved a h n)) ∧ w = w' := by
  unfold moved
  have g : IntKind.u32.wrap n = n := by rw [wrap_u32]; omega
  by_cases h1 : h = 1
  · rw [if_pos h1]
    have t : (h == 1) = true := by simpa using h1
    clear h1
    go_enter Try.func23, Try.ntmps23
    go_wp2
    go_ret
    exact ⟨rfl, rfl⟩
  · rw [if_neg h1]
    have t : (h == 1) = false := by simpa using h1
    clear h1
    by_cases h2 : h = 2
    · rw [if_pos h2]
      have t2 : (h == 2) = true := by simpa using h2
      clear h2
      go_enter Try.func23, Try.ntmps23
      go_wp2
      go_ret
      exact ⟨rfl, rfl⟩
    · rw [if_neg h2]
      have t2 : (h == 2) = false := by simpa using h2
      clear h2
      go_enter Try.func23, Try.ntmps23
      go_wp2
      go_ret
      exact ⟨rfl, rfl⟩
set_option maxHeartbeats 4000000 in
theorem load_any {w : World} {ub i : Nat} {T : TypeId} {u : Nat → Ch} {c : Ch} (h : B1 w w ub T u i c) (hi : i < 4) (c0 : 0 ≤ c.ctl) (c1 : c.ctl < 65536) :
    Calls Try.prog 20 #[.pointer (some ⟨ub, i * 10, none⟩), .int .i64 i] w fun e w' => e = .returned (.tuple #[]) ∧ B1 w w' ub T u i (ldC c i) := by
  have C2 := h.c2 hi
  have C6 := h.c6 hi
  have Fz := h.free
  have h1 := h.s6 hi c.count
  have S := sound_any (b := ub) (o := i * 10) { c with left := c.count } (i : Int) c0 c1 (h1.c3 hi)
  have ub0 := h.lt
  have eS : sound { c with left := c.count } (i : Int) = sound c i := rfl
  rw [eS] at S
  have SH := Lib.hid S
  have H1 := Lib.hid h1
  clear S eS h h1
  go_enter Try.func20, Try.ntmps20
  go_wp2_with fail
  generalize w.setCell ⟨ub, i * 10 + 6, none⟩ (.int .i64 c.count) = w1 at *
  clear C2 C6 Fz
  have C6 := H1.out.c6 hi
  have C8 := H1.out.c8 hi
  have Fz := H1.out.free
  dsimp only at C6 C8
  have ub1 := H1.out.lt
  cases hs : sound c i
  · rw [hs] at SH
    by_cases hz : c.count = 0
    · have tz : (c.count == 0) = true := by simpa using hz
      have M := Lib.hid (most_any (i : Int))
      have H2 : Hid (B1 w ((w1.setCell ⟨ub, i * 10 + 6, none⟩ (.int .i64 (most (i : Int)))).setCell ⟨ub, i * 10 + 8, none⟩ (.bool true)) ub T u i (ldC c i)) := Lib.hid (by
        have := (H1.out.s6 hi (most (i : Int))).s8 hi true
        unfold ldC
        rw [hs, if_neg Bool.false_ne_true, if_pos hz]
        exact this)
      generalize most (i : Int) = mi at *
      refine SH.out.mono ?_
      rintro e w' ⟨rfl, rfl⟩
      clear hs SH hz
      go_wp2_with (go_at_call 18; ((with_reducible refine (M.out _).mono ?_); rintro e w' ⟨rfl, rfl⟩))
      go_end0
      exact ⟨rfl, H2.out⟩
    · have tz : (c.count == 0) = false := by simpa using hz
      have H2 : Hid (B1 w (w1.setCell ⟨ub, i * 10 + 8, none⟩ (.bool true)) ub T u i (ldC c i)) := Lib.hid (by
        have := H1.out.s8 hi true
        unfold ldC
        rw [hs, if_neg Bool.false_ne_true, if_neg hz]
        exact this)
      refine SH.out.mono ?_
      rintro e w' ⟨rfl, rfl⟩
      clear hs SH hz
      go_wp2
      go_end0
      exact ⟨rfl, H2.out⟩
  · rw [hs] at SH
    have H2 : Hid (B1 w ((w1.setCell ⟨ub, i * 10 + 6, none⟩ (.int .i64 4)).setCell ⟨ub, i * 10 + 8, none⟩ (.bool true)) ub T u i (ldC c i)) := Lib.hid (by
      have := (H1.out.s6 hi 4).s8 hi true
      unfold ldC
      rw [hs, if_pos rfl]
      exact this)
    refine SH.out.mono ?_
    rintro e w' ⟨rfl, rfl⟩
    clear hs SH
    go_wp2
    go_end0
    exact ⟨rfl, H2.out⟩
end Go.Proofs.Ytbpeppmajmhmiaa.Da
