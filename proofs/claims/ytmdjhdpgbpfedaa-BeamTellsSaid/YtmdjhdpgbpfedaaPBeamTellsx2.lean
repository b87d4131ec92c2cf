-- written by a program of this session (wip/patch_print.py over the printer of the kit)
import Derived.Test.YtmdjhdpgbpfedaaPBeamTellsx0
import Derived.Test.YtmdjhdpgbpfedaaPBeamTellsx1
namespace Go.Proofs.Ytmdjhdpgbpfedaa.PBeamTells
open Go.RowKit Go.Proofs.YtmdjhdpgbpfedaaW.PrintWords Go.Proofs.YtmdjhdpgbpfedaaW.PrintLast Go.Proofs.YtmdjhdpgbpfedaaW.PrintMore
attribute [local go_sem] max2_int min2_int max_two min_two max_three min_three max_four min_four   -- for this text's walks alone
set_option linter.unusedVariables false
set_option linter.unusedSimpArgs false

/-! ### cameoref18_Status: function 14 -/
mutual
def cameoref18_Status.l0 : Nat → Int → Int → Int → Int → Int → Option (Int)
  | 0, _, _, _, _, _ => none
  | k + 1, x1, x5, x6, x7, x8 => if x8 < 6 then ((cameoref18_bit.f x1 x8).bind fun t115 => (if t115 = true then (if 0 ≤ x8 then (cameoref18_Status.l0 k x1 x5 x6 (IntKind.u16.wrap (x7 + (shl .u16 1 x8))) (wrap64 (x8 + 1))) else (none)) else (cameoref18_Status.l0 k x1 x5 x6 x7 (wrap64 (x8 + 1))))) else (if x5 ≥ 160 then (cameoref18_Status.j1 k x1 x5 x6 x7 (decide (x5 ≤ 226))) else (cameoref18_Status.j1 k x1 x5 x6 x7 false))
def cameoref18_Status.j1 : Nat → Int → Int → Int → Int → Bool → Option (Int)
  | 0, _, _, _, _, _ => none
  | k + 1, x1, x5, x6, x7, x33 => if x33 = true then (cameoref18_Status.j2 k x1 x5 x6 (IntKind.u16.wrap (x7 + 1))) else (cameoref18_Status.j2 k x1 x5 x6 x7)
def cameoref18_Status.j2 : Nat → Int → Int → Int → Int → Option (Int)
  | 0, _, _, _, _ => none
  | k + 1, x1, x5, x6, x7 => if x6 ≥ 960 then (if x5 = (wrap64 (IntKind.u16.wrap (Int.tdiv x1 256))) then (some (IntKind.u16.wrap ((IntKind.u16.wrap (x7 + 2)) + 4))) else (some (IntKind.u16.wrap (x7 + 2)))) else (if x5 = (wrap64 (IntKind.u16.wrap (Int.tdiv x1 256))) then (some (IntKind.u16.wrap (x7 + 4))) else (some x7))
end
def cameoref18_Status.f (k : Nat) (a0 : Int) (a1 : Int) : Option (Int) := (cameoref18_At.f a0).bind fun bt113 => (cameoref18_Status.l0 k a1 bt113.1 bt113.2 (IntKind.u16.wrap ((IntKind.u16.wrap (Int.tdiv a1 256)) * 256)) 3)
theorem cameoref18_Status.mono_l : ∀ k, (∀ y0 y1 y2 y3 y4, LeO (cameoref18_Status.l0 k y0 y1 y2 y3 y4) (cameoref18_Status.l0 (k + 1) y0 y1 y2 y3 y4)) ∧ (∀ y0 y1 y2 y3 y4, LeO (cameoref18_Status.j1 k y0 y1 y2 y3 y4) (cameoref18_Status.j1 (k + 1) y0 y1 y2 y3 y4)) ∧ (∀ y0 y1 y2 y3, LeO (cameoref18_Status.j2 k y0 y1 y2 y3) (cameoref18_Status.j2 (k + 1) y0 y1 y2 y3))
  | 0 => ⟨fun _ _ _ _ _ r h => by simp [cameoref18_Status.l0] at h, fun _ _ _ _ _ r h => by simp [cameoref18_Status.j1] at h, fun _ _ _ _ r h => by simp [cameoref18_Status.j2] at h⟩
  | k + 1 => by
    obtain ⟨ih0, ih1, ih2⟩ := cameoref18_Status.mono_l k
    refine ⟨?_, ?_, ?_⟩
    · intro y0 y1 y2 y3 y4
      unfold cameoref18_Status.l0
      repeat' first
      | (with_reducible exact ih0 _ _ _ _ _)
      | (with_reducible exact ih1 _ _ _ _ _)
      | (with_reducible exact ih2 _ _ _ _)
      | (with_reducible exact LeO.refl _)
      | (with_reducible exact LeO.none _)
      | (with_reducible refine LeO.ite ?_ ?_)
      | (with_reducible refine LeO.bind ?_ (fun _ => ?_))
      | exact ih0 _ _ _ _ _
      | exact ih1 _ _ _ _ _
      | exact ih2 _ _ _ _
      | exact LeO.none _
      | refine LeO.ite ?_ ?_
      | refine LeO.bind ?_ (fun _ => ?_)
    · intro y0 y1 y2 y3 y4
      unfold cameoref18_Status.j1
      repeat' first
      | (with_reducible exact ih0 _ _ _ _ _)
      | (with_reducible exact ih1 _ _ _ _ _)
      | (with_reducible exact ih2 _ _ _ _)
      | (with_reducible exact LeO.refl _)
      | (with_reducible exact LeO.none _)
      | (with_reducible refine LeO.ite ?_ ?_)
      | (with_reducible refine LeO.bind ?_ (fun _ => ?_))
      | exact ih0 _ _ _ _ _
      | exact ih1 _ _ _ _ _
      | exact ih2 _ _ _ _
      | exact LeO.none _
      | refine LeO.ite ?_ ?_
      | refine LeO.bind ?_ (fun _ => ?_)
    · intro y0 y1 y2 y3
      unfold cameoref18_Status.j2
      repeat' first
      | (with_reducible exact ih0 _ _ _ _ _)
      | (with_reducible exact ih1 _ _ _ _ _)
      | (with_reducible exact ih2 _ _ _ _)
      | (with_reducible exact LeO.refl _)
      | (with_reducible exact LeO.none _)
      | (with_reducible refine LeO.ite ?_ ?_)
      | (with_reducible refine LeO.bind ?_ (fun _ => ?_))
      | exact ih0 _ _ _ _ _
      | exact ih1 _ _ _ _ _
      | exact ih2 _ _ _ _
      | exact LeO.none _
      | refine LeO.ite ?_ ?_
      | refine LeO.bind ?_ (fun _ => ?_)
theorem cameoref18_Status.mono : ∀ a0 a1 k, LeO (cameoref18_Status.f k a0 a1) (cameoref18_Status.f (k + 1) a0 a1) := by
  intro a0 a1 k
  obtain ⟨ih0, ih1, ih2⟩ := cameoref18_Status.mono_l k
  unfold cameoref18_Status.f
  repeat' first
      | (with_reducible exact ih0 _ _ _ _ _)
      | (with_reducible exact ih1 _ _ _ _ _)
      | (with_reducible exact ih2 _ _ _ _)
      | (with_reducible exact LeO.refl _)
      | (with_reducible exact LeO.none _)
      | (with_reducible refine LeO.ite ?_ ?_)
      | (with_reducible refine LeO.bind ?_ (fun _ => ?_))
      | exact ih0 _ _ _ _ _
      | exact ih1 _ _ _ _ _
      | exact ih2 _ _ _ _
      | exact LeO.none _
      | refine LeO.ite ?_ ?_
      | refine LeO.bind ?_ (fun _ => ?_)
set_option maxHeartbeats 8000000 in
set_option maxRecDepth 100000 in
theorem cameoref18_Status.calls (k : Nat) (a0 : Int) (a1 : Int) (r : Int) (w : World) (h : cameoref18_Status.f k a0 a1 = some r) :
    Calls Try.prog 14 #[.int .i64 a0, .int .u16 a1] w fun e w' => e = .returned (.int .u16 r) ∧ Drawn0 w w' := by
  have H : ((cameoref18_At.f a0).bind fun bt113 => (cameoref18_Status.l0 k a1 bt113.1 bt113.2 (IntKind.u16.wrap ((IntKind.u16.wrap (Int.tdiv a1 256)) * 256)) 3)) = some r := h
  clear h
  replace H := Option.bind_eq_some_iff.mp H
  obtain ⟨⟨t113, t114⟩, A30, H⟩ := H
  replace H : (cameoref18_Status.l0 k a1 t113 t114 (IntKind.u16.wrap ((IntKind.u16.wrap (Int.tdiv a1 256)) * 256)) 3) = some r := H
  have A3 := Aside0.mk A30
  clear A30
  have H' := Aside0.mk H
  clear H
  go_enter Try.func14, Try.ntmps14
  go_wp2_with (first | ((with_reducible refine gate_callee (f := 11) rfl ?_); refine goesL_ (some 11) rfl rfl Try.func11 (by kernel_rfl) rfl #[.int .i64 a0] rfl (by (try simp only [List.map_toArray, List.map_cons, List.map_nil]); first | done | rfl | (simp only [List.length_drop, List.length_take]; rfl)) ?_; (with_reducible refine (cameoref18_At.calls a0 t113 t114 _ A3.out).mono ?_); rintro e w' ⟨rfl, ⟨nd, rfl⟩⟩; refine ⟨_, rfl, ?_⟩))
  go_loopg [7, 8] k (fun kq v7 v8 w' => ∃ (x7_1 : Int) (x8_1 : Int), v7 = .int .u16 x7_1 ∧ v8 = .int .i64 x8_1 ∧ Aside0 (cameoref18_Status.l0 kq a1 t113 t114 x7_1 x8_1 = some r) ∧ Aside0 (kq ≤ k) ∧ Drawn0 w w')
  case atStart => exact ⟨(IntKind.u16.wrap ((IntKind.u16.wrap (Int.tdiv a1 256)) * 256)), (3), (by first | rfl | (simp; done) | (simp [*]; done)), (by first | rfl | (simp; done) | (simp [*]; done)), H', ⟨Nat.le_refl _⟩, by repeat (first | exact Drawn0.refl _ | apply Drawn0.step)⟩
  case round =>
    clear H'
    try clear c1
    try clear p2
    obtain ⟨x7_1, x8_1, rfl, rfl, HA, HK1, ⟨m1, rfl⟩⟩ := hrel
    cases gk with
    | zero => exact absurd HA.out (by simp [cameoref18_Status.l0])
    | succ k1 =>
      have H := HA.out
      clear HA
      simp only [cameoref18_Status.l0] at H
      by_cases c4 : x8_1 < 6
      · rw [if_pos c4] at H
        have c4b0 : decide (x8_1 < 6) = true := decide_eq_true c4
        clear c4
        replace H := Option.bind_eq_some_iff.mp H
        obtain ⟨t115, A50, H⟩ := H
        replace H : (if t115 = true then (if 0 ≤ x8_1 then (cameoref18_Status.l0 k1 a1 t113 t114 (IntKind.u16.wrap (x7_1 + (shl .u16 1 x8_1))) (wrap64 (x8_1 + 1))) else (none)) else (cameoref18_Status.l0 k1 a1 t113 t114 x7_1 (wrap64 (x8_1 + 1)))) = some r := H
        have A5 := Aside0.mk A50
        clear A50
        by_cases c6 : t115 = true
        · subst c6
          have H1 : (if 0 ≤ x8_1 then (cameoref18_Status.l0 k1 a1 t113 t114 (IntKind.u16.wrap (x7_1 + (shl .u16 1 x8_1))) (wrap64 (x8_1 + 1))) else (none)) = some r := by rw [if_pos rfl] at H; exact H
          clear H
          have H := H1
          clear H1
          by_cases c7 : 0 ≤ x8_1
          · rw [if_pos c7] at H
            have c7b0 := eq_true c7
            have c7b1 : decide (0 ≤ x8_1) = true := decide_eq_true c7
            clear c7
            obtain ⟨ji8, hji8⟩ : ∃ j_ : Int, (shl .u16 1 x8_1) = j_ := ⟨_, rfl⟩
            replace H : (cameoref18_Status.l0 k1 a1 t113 t114 (IntKind.u16.wrap (x7_1 + (ji8))) (wrap64 (x8_1 + 1))) = some r := by first | (rw [hji8] at H; exact H) | (simp only [hji8] at H ⊢; exact H)
            (try rw [hji8] at A5)
            have hji8_ : (IntKind.u16.wrap (1 * 2 ^ min x8_1.toNat 16)) = ji8 := hji8
            have hji8z : x8_1 ≤ 16 → (IntKind.u16.wrap (1 * 2 ^ x8_1.toNat)) = ji8 := shl_small hji8
            have hji8u : (IntKind.u16.wrap (2 ^ min x8_1.toNat 16)) = ji8 := by have h_ := hji8_; rw [Int.one_mul] at h_; exact h_
            have hji8v : x8_1 ≤ 16 → (IntKind.u16.wrap (2 ^ x8_1.toNat)) = ji8 := fun hle_ => by have h_ := hji8z hle_; rw [Int.one_mul] at h_; exact h_
            have H' := Aside0.mk H
            clear H
            go_wp2_with (first | ((with_reducible refine gate_callee (f := 16) rfl ?_); refine goesL_ (some 23) rfl rfl Try.func16 (by kernel_rfl) rfl #[.int .u16 a1, .int .i64 x8_1] rfl (by (try simp only [List.map_toArray, List.map_cons, List.map_nil]); first | done | rfl | (simp only [List.length_drop, List.length_take]; rfl)) ?_; (with_reducible refine (cameoref18_bit.calls a1 x8_1 true _ A5.out).mono ?_); rintro e w' ⟨rfl, ⟨nd, rfl⟩⟩; refine ⟨_, rfl, ?_⟩))
            go_roundg k1
            case measure => have := HK1.out; omega
            case rel => exact ⟨(IntKind.u16.wrap (x7_1 + (ji8))), (wrap64 (x8_1 + 1)), (by first | rfl | (simp; done) | (simp only [← hji8] <;> (first | rfl | simp)) | (simp [*]; done)), (by first | rfl | (simp; done) | (simp [*]; done)), H', ⟨by have := HK1.out; omega⟩, by repeat (first | exact Drawn0.refl _ | apply Drawn0.step)⟩
          · rw [if_neg c7] at H
            exact absurd H (by simp)
        · replace c6 := Bool.eq_false_iff.mpr c6
          subst c6
          have H1 : (cameoref18_Status.l0 k1 a1 t113 t114 x7_1 (wrap64 (x8_1 + 1))) = some r := by rw [if_neg (show ¬ (false = true) by decide)] at H; exact H
          clear H
          have H := H1
          clear H1
          have H' := Aside0.mk H
          clear H
          go_wp2_with (first | ((with_reducible refine gate_callee (f := 16) rfl ?_); refine goesL_ (some 23) rfl rfl Try.func16 (by kernel_rfl) rfl #[.int .u16 a1, .int .i64 x8_1] rfl (by (try simp only [List.map_toArray, List.map_cons, List.map_nil]); first | done | rfl | (simp only [List.length_drop, List.length_take]; rfl)) ?_; (with_reducible refine (cameoref18_bit.calls a1 x8_1 false _ A5.out).mono ?_); rintro e w' ⟨rfl, ⟨nd, rfl⟩⟩; refine ⟨_, rfl, ?_⟩))
          go_roundg k1
          case measure => have := HK1.out; omega
          case rel => exact ⟨(x7_1), (wrap64 (x8_1 + 1)), (by first | rfl | (simp; done) | (simp [*]; done)), (by first | rfl | (simp; done) | (simp [*]; done)), H', ⟨by have := HK1.out; omega⟩, by repeat (first | exact Drawn0.refl _ | apply Drawn0.step)⟩
      · rw [if_neg c4] at H
        have c4b0 : decide (x8_1 < 6) = false := decide_eq_false c4
        clear c4
        have HC9 := Aside0.mk H
        clear H
        go_upto_region 8 with (fail)
        go_cut [33] (fun v33 wc => ∃ (kq : Nat) (x33_8 : Bool), v33 = .bool x33_8 ∧ Aside0 (cameoref18_Status.j1 kq a1 t113 t114 x7_1 x33_8 = some r) ∧ Aside0 (kq ≤ k1) ∧ Drawn0 w wc)
        case first =>
          have H := HC9.out
          clear HC9
          by_cases c10 : t113 ≥ 160
          · rw [if_pos c10] at H
            have c10b0 : decide (160 ≤ t113) = true := decide_eq_true c10
            clear c10
            (first | rw [c10b0] | (simp only [i64_w, i32_w]; rw [c10b0]) | skip)
            have H' := Aside0.mk H
            clear H
            go_wp2
            go_meet
            case rel => exact ⟨_, (decide (t113 ≤ 226)), (by first | rfl | (simp; done) | (simp [*]; done)), H', ⟨by have := HK1.out; first | omega | exact Nat.le_refl _⟩, by repeat (first | exact Drawn0.refl _ | apply Drawn0.step)⟩
          · rw [if_neg c10] at H
            have c10b0 : decide (160 ≤ t113) = false := decide_eq_false c10
            clear c10
            (first | rw [c10b0] | (simp only [i64_w, i32_w]; rw [c10b0]) | skip)
            have H' := Aside0.mk H
            clear H
            go_wp2
            go_meet
            case rel => exact ⟨_, (false), (by first | rfl | (simp; done) | (simp [*]; done)), H', ⟨by have := HK1.out; first | omega | exact Nat.le_refl _⟩, by repeat (first | exact Drawn0.refl _ | apply Drawn0.step)⟩
        case rest =>
          clear HC9
          try clear c1
          try clear p2
          try clear c4
          try clear c4b0
          try clear c6
          try clear p6
          try clear c7
          try clear c7b0
          try clear c7b1
          try clear c10
          try clear c10b0
          try clear p2
          obtain ⟨kq, x33_8, rfl, HA, HJ8, ⟨mc8, rfl⟩⟩ := hcut
          cases kq with
          | zero => exact absurd HA.out (by simp [cameoref18_Status.j1])
          | succ kj8 =>
            have H := HA.out
            clear HA
            simp only [cameoref18_Status.j1] at H
            have HC11 := Aside0.mk H
            clear H
            go_upto_if 33 with (fail)
            go_cut [7] (fun v7 wc => ∃ (kq : Nat) (x7_10 : Int), v7 = .int .u16 x7_10 ∧ Aside0 (cameoref18_Status.j2 kq a1 t113 t114 x7_10 = some r) ∧ Aside0 (kq ≤ kj8) ∧ Drawn0 w wc)
            case first =>
              have H := HC11.out
              clear HC11
              by_cases c12 : x33_8 = true
              · subst c12
                have H1 : (cameoref18_Status.j2 kj8 a1 t113 t114 (IntKind.u16.wrap (x7_1 + 1))) = some r := by rw [if_pos rfl] at H; exact H
                clear H
                have H := H1
                clear H1
                have H' := Aside0.mk H
                clear H
                go_wp2
                go_meet
                case rel => exact ⟨_, (IntKind.u16.wrap (x7_1 + 1)), (by first | rfl | (simp; done) | (simp [*]; done)), H', ⟨by have := HK1.out; have := HJ8.out; first | omega | exact Nat.le_refl _⟩, by repeat (first | exact Drawn0.refl _ | apply Drawn0.step)⟩
              · replace c12 := Bool.eq_false_iff.mpr c12
                subst c12
                have H1 : (cameoref18_Status.j2 kj8 a1 t113 t114 x7_1) = some r := by rw [if_neg (show ¬ (false = true) by decide)] at H; exact H
                clear H
                have H := H1
                clear H1
                have H' := Aside0.mk H
                clear H
                go_wp2
                go_meet
                case rel => exact ⟨_, (x7_1), (by first | rfl | (simp; done) | (simp [*]; done)), H', ⟨by have := HK1.out; have := HJ8.out; first | omega | exact Nat.le_refl _⟩, by repeat (first | exact Drawn0.refl _ | apply Drawn0.step)⟩
            case rest =>
              clear HC11
              try clear c1
              try clear p2
              try clear c4
              try clear c4b0
              try clear c6
              try clear p6
              try clear c7
              try clear c7b0
              try clear c7b1
              try clear c8
              try clear c10
              try clear c10b0
              try clear c11
              try clear c12
              try clear p2
              try clear p6
              obtain ⟨kq, x7_10, rfl, HA, HJ10, ⟨mc10, rfl⟩⟩ := hcut
              cases kq with
              | zero => exact absurd HA.out (by simp [cameoref18_Status.j2])
              | succ kj10 =>
                have H := HA.out
                clear HA
                simp only [cameoref18_Status.j2] at H
                by_cases c13 : t114 ≥ 960
                · rw [if_pos c13] at H
                  have c13b0 : decide (960 ≤ t114) = true := decide_eq_true c13
                  clear c13
                  by_cases c14 : t113 = (wrap64 (IntKind.u16.wrap (Int.tdiv a1 256)))
                  · rw [if_pos c14] at H
                    have c14b0 : (t113 == (wrap64 (IntKind.u16.wrap (Int.tdiv a1 256)))) = true := beq_iff_eq.mpr c14
                    have c14b1 : (t113 != (wrap64 (IntKind.u16.wrap (Int.tdiv a1 256)))) = false := bne_eq_false_iff_eq.mpr c14
                    clear c14
                    obtain rfl := Option.some.inj H
                    go_wp2
                    go_ret
                    exact ⟨by first | rfl | (simp; done) | (simp [*]; done), by repeat (first | exact Drawn0.refl _ | apply Drawn0.step)⟩
                  · rw [if_neg c14] at H
                    have c14b0 : (t113 == (wrap64 (IntKind.u16.wrap (Int.tdiv a1 256)))) = false := beq_eq_false_iff_ne.mpr c14
                    have c14b1 : (t113 != (wrap64 (IntKind.u16.wrap (Int.tdiv a1 256)))) = true := bne_iff_ne.mpr c14
                    obtain rfl := Option.some.inj H
                    go_wp2
                    go_ret
                    exact ⟨by first | rfl | (simp; done) | (simp [*]; done), by repeat (first | exact Drawn0.refl _ | apply Drawn0.step)⟩
                · rw [if_neg c13] at H
                  have c13b0 : decide (960 ≤ t114) = false := decide_eq_false c13
                  clear c13
                  by_cases c15 : t113 = (wrap64 (IntKind.u16.wrap (Int.tdiv a1 256)))
                  · rw [if_pos c15] at H
                    have c15b0 : (t113 == (wrap64 (IntKind.u16.wrap (Int.tdiv a1 256)))) = true := beq_iff_eq.mpr c15
                    have c15b1 : (t113 != (wrap64 (IntKind.u16.wrap (Int.tdiv a1 256)))) = false := bne_eq_false_iff_eq.mpr c15
                    clear c15
                    obtain rfl := Option.some.inj H
                    go_wp2
                    go_ret
                    exact ⟨by first | rfl | (simp; done) | (simp [*]; done), by repeat (first | exact Drawn0.refl _ | apply Drawn0.step)⟩
                  · rw [if_neg c15] at H
                    have c15b0 : (t113 == (wrap64 (IntKind.u16.wrap (Int.tdiv a1 256)))) = false := beq_eq_false_iff_ne.mpr c15
                    have c15b1 : (t113 != (wrap64 (IntKind.u16.wrap (Int.tdiv a1 256)))) = true := bne_iff_ne.mpr c15
                    obtain rfl := Option.some.inj H
                    go_wp2
                    go_ret
                    exact ⟨by first | rfl | (simp; done) | (simp [*]; done), by repeat (first | exact Drawn0.refl _ | apply Drawn0.step)⟩

/-! ### cameoref18_Asks: function 15 -/
mutual
def cameoref18_Asks.j0 : Nat → Int → Int → Int → Int → Bool → Option (Int)
  | 0, _, _, _, _, _ => none
  | k + 1, x1, x5, x6, x7, x22 => if x22 = true then (cameoref18_Asks.j1 k x1 x5 x6 (IntKind.u16.wrap (x7 + 1))) else (cameoref18_Asks.j1 k x1 x5 x6 x7)
def cameoref18_Asks.j1 : Nat → Int → Int → Int → Int → Option (Int)
  | 0, _, _, _, _ => none
  | k + 1, x1, x5, x6, x7 => if x6 = 960 then ((cameoref18_bit.f x1 4).bind fun t119 => (cameoref18_Asks.j2 k x1 x5 x6 x7 t119)) else (cameoref18_Asks.j2 k x1 x5 x6 x7 false)
def cameoref18_Asks.j2 : Nat → Int → Int → Int → Int → Bool → Option (Int)
  | 0, _, _, _, _, _ => none
  | k + 1, x1, x5, x6, x7, x30 => if x30 = true then (if x6 = 0 then (if x5 = (wrap64 (IntKind.u16.wrap (Int.tdiv x1 256))) then ((cameoref18_bit.f x1 5).bind fun t120 => (if t120 = true then (some (IntKind.u16.wrap ((IntKind.u16.wrap (x7 + 2)) + 4))) else (some (IntKind.u16.wrap (x7 + 2))))) else (some (IntKind.u16.wrap (x7 + 2)))) else (some (IntKind.u16.wrap (x7 + 2)))) else (if x6 = 0 then (if x5 = (wrap64 (IntKind.u16.wrap (Int.tdiv x1 256))) then ((cameoref18_bit.f x1 5).bind fun t121 => (if t121 = true then (some (IntKind.u16.wrap (x7 + 4))) else (some x7))) else (some x7)) else (some x7))
end
def cameoref18_Asks.f (k : Nat) (a0 : Int) (a1 : Int) : Option (Int) := (cameoref18_At.f a0).bind fun bt116 => (if bt116.2 = 0 then (if bt116.1 = 160 then ((cameoref18_bit.f a1 3).bind fun t118 => (cameoref18_Asks.j0 k a1 bt116.1 bt116.2 0 t118)) else (cameoref18_Asks.j0 k a1 bt116.1 bt116.2 0 false)) else (cameoref18_Asks.j0 k a1 bt116.1 bt116.2 0 false))
theorem cameoref18_Asks.mono_l : ∀ k, (∀ y0 y1 y2 y3 y4, LeO (cameoref18_Asks.j0 k y0 y1 y2 y3 y4) (cameoref18_Asks.j0 (k + 1) y0 y1 y2 y3 y4)) ∧ (∀ y0 y1 y2 y3, LeO (cameoref18_Asks.j1 k y0 y1 y2 y3) (cameoref18_Asks.j1 (k + 1) y0 y1 y2 y3)) ∧ (∀ y0 y1 y2 y3 y4, LeO (cameoref18_Asks.j2 k y0 y1 y2 y3 y4) (cameoref18_Asks.j2 (k + 1) y0 y1 y2 y3 y4))
  | 0 => ⟨fun _ _ _ _ _ r h => by simp [cameoref18_Asks.j0] at h, fun _ _ _ _ r h => by simp [cameoref18_Asks.j1] at h, fun _ _ _ _ _ r h => by simp [cameoref18_Asks.j2] at h⟩
  | k + 1 => by
    obtain ⟨ih0, ih1, ih2⟩ := cameoref18_Asks.mono_l k
    refine ⟨?_, ?_, ?_⟩
    · intro y0 y1 y2 y3 y4
      unfold cameoref18_Asks.j0
      repeat' first
      | (with_reducible exact ih0 _ _ _ _ _)
      | (with_reducible exact ih1 _ _ _ _)
      | (with_reducible exact ih2 _ _ _ _ _)
      | (with_reducible exact LeO.refl _)
      | (with_reducible exact LeO.none _)
      | (with_reducible refine LeO.ite ?_ ?_)
      | (with_reducible refine LeO.bind ?_ (fun _ => ?_))
      | exact ih0 _ _ _ _ _
      | exact ih1 _ _ _ _
      | exact ih2 _ _ _ _ _
      | exact LeO.none _
      | refine LeO.ite ?_ ?_
      | refine LeO.bind ?_ (fun _ => ?_)
    · intro y0 y1 y2 y3
      unfold cameoref18_Asks.j1
      repeat' first
      | (with_reducible exact ih0 _ _ _ _ _)
      | (with_reducible exact ih1 _ _ _ _)
      | (with_reducible exact ih2 _ _ _ _ _)
      | (with_reducible exact LeO.refl _)
      | (with_reducible exact LeO.none _)
      | (with_reducible refine LeO.ite ?_ ?_)
      | (with_reducible refine LeO.bind ?_ (fun _ => ?_))
      | exact ih0 _ _ _ _ _
      | exact ih1 _ _ _ _
      | exact ih2 _ _ _ _ _
      | exact LeO.none _
      | refine LeO.ite ?_ ?_
      | refine LeO.bind ?_ (fun _ => ?_)
    · intro y0 y1 y2 y3 y4
      unfold cameoref18_Asks.j2
      repeat' first
      | (with_reducible exact ih0 _ _ _ _ _)
      | (with_reducible exact ih1 _ _ _ _)
      | (with_reducible exact ih2 _ _ _ _ _)
      | (with_reducible exact LeO.refl _)
      | (with_reducible exact LeO.none _)
      | (with_reducible refine LeO.ite ?_ ?_)
      | (with_reducible refine LeO.bind ?_ (fun _ => ?_))
      | exact ih0 _ _ _ _ _
      | exact ih1 _ _ _ _
      | exact ih2 _ _ _ _ _
      | exact LeO.none _
      | refine LeO.ite ?_ ?_
      | refine LeO.bind ?_ (fun _ => ?_)
theorem cameoref18_Asks.mono : ∀ a0 a1 k, LeO (cameoref18_Asks.f k a0 a1) (cameoref18_Asks.f (k + 1) a0 a1) := by
  intro a0 a1 k
  obtain ⟨ih0, ih1, ih2⟩ := cameoref18_Asks.mono_l k
  unfold cameoref18_Asks.f
  repeat' first
      | (with_reducible exact ih0 _ _ _ _ _)
      | (with_reducible exact ih1 _ _ _ _)
      | (with_reducible exact ih2 _ _ _ _ _)
      | (with_reducible exact LeO.refl _)
      | (with_reducible exact LeO.none _)
      | (with_reducible refine LeO.ite ?_ ?_)
      | (with_reducible refine LeO.bind ?_ (fun _ => ?_))
      | exact ih0 _ _ _ _ _
      | exact ih1 _ _ _ _
      | exact ih2 _ _ _ _ _
      | exact LeO.none _
      | refine LeO.ite ?_ ?_
      | refine LeO.bind ?_ (fun _ => ?_)
set_option maxHeartbeats 8000000 in
set_option maxRecDepth 100000 in
theorem cameoref18_Asks.calls (k : Nat) (a0 : Int) (a1 : Int) (r : Int) (w : World) (h : cameoref18_Asks.f k a0 a1 = some r) :
    Calls Try.prog 15 #[.int .i64 a0, .int .u16 a1] w fun e w' => e = .returned (.int .u16 r) ∧ Drawn0 w w' := by
  have H : ((cameoref18_At.f a0).bind fun bt116 => (if bt116.2 = 0 then (if bt116.1 = 160 then ((cameoref18_bit.f a1 3).bind fun t118 => (cameoref18_Asks.j0 k a1 bt116.1 bt116.2 0 t118)) else (cameoref18_Asks.j0 k a1 bt116.1 bt116.2 0 false)) else (cameoref18_Asks.j0 k a1 bt116.1 bt116.2 0 false))) = some r := h
  clear h
  replace H := Option.bind_eq_some_iff.mp H
  obtain ⟨⟨t116, t117⟩, A30, H⟩ := H
  replace H : (if t117 = 0 then (if t116 = 160 then ((cameoref18_bit.f a1 3).bind fun t118 => (cameoref18_Asks.j0 k a1 t116 t117 0 t118)) else (cameoref18_Asks.j0 k a1 t116 t117 0 false)) else (cameoref18_Asks.j0 k a1 t116 t117 0 false)) = some r := H
  have A3 := Aside0.mk A30
  clear A30
  have HC4 := Aside0.mk H
  clear H
  go_enter Try.func15, Try.ntmps15
  go_upto_region 3 with (first | ((with_reducible refine gate_callee (f := 11) rfl ?_); refine goesL_ (some 10) rfl rfl Try.func11 (by kernel_rfl) rfl #[.int .i64 a0] rfl (by (try simp only [List.map_toArray, List.map_cons, List.map_nil]); first | done | rfl | (simp only [List.length_drop, List.length_take]; rfl)) ?_; (with_reducible refine (cameoref18_At.calls a0 t116 t117 _ A3.out).mono ?_); rintro e w' ⟨rfl, ⟨nd, rfl⟩⟩; refine ⟨_, rfl, ?_⟩))
  (try simp only [Act.put, List.setIfInBounds_toArray, List.set_cons_zero, List.set_cons_succ])
  go_cut [22] (fun v22 wc => ∃ (kq : Nat) (x22_3 : Bool), v22 = .bool x22_3 ∧ Aside0 (cameoref18_Asks.j0 kq a1 t116 t117 0 x22_3 = some r) ∧ Aside0 (kq ≤ k) ∧ Drawn0 w wc)
  case first =>
    have H := HC4.out
    clear HC4
    by_cases c5 : t117 = 0
    · rw [if_pos c5] at H
      have c5b0 : (t117 == 0) = true := beq_iff_eq.mpr c5
      have c5b1 : (t117 != 0) = false := bne_eq_false_iff_eq.mpr c5
      clear c5
      (first | rw [c5b0] | (simp only [i64_w, i32_w]; rw [c5b0]) | skip)
      by_cases c6 : t116 = 160
      · rw [if_pos c6] at H
        have c6b0 : (t116 == 160) = true := beq_iff_eq.mpr c6
        have c6b1 : (t116 != 160) = false := bne_eq_false_iff_eq.mpr c6
        clear c6
        replace H := Option.bind_eq_some_iff.mp H
        obtain ⟨t118, A70, H⟩ := H
        replace H : (cameoref18_Asks.j0 k a1 t116 t117 0 t118) = some r := H
        have A7 := Aside0.mk A70
        clear A70
        have H' := Aside0.mk H
        clear H
        go_wp2_with (first | (go_at_call 16; (with_reducible refine (cameoref18_bit.calls a1 3 t118 _ A7.out).mono ?_); rintro e w' ⟨rfl, ⟨nd, rfl⟩⟩))
        go_meet
        case rel => exact ⟨_, (t118), (by first | rfl | (simp; done) | (simp [*]; done)), H', ⟨by first | omega | exact Nat.le_refl _⟩, by repeat (first | exact Drawn0.refl _ | apply Drawn0.step)⟩
      · rw [if_neg c6] at H
        have c6b0 : (t116 == 160) = false := beq_eq_false_iff_ne.mpr c6
        have c6b1 : (t116 != 160) = true := bne_iff_ne.mpr c6
        have H' := Aside0.mk H
        clear H
        go_wp2
        go_meet
        case rel => exact ⟨_, (false), (by first | rfl | (simp; done) | (simp [*]; done)), H', ⟨by first | omega | exact Nat.le_refl _⟩, by repeat (first | exact Drawn0.refl _ | apply Drawn0.step)⟩
    · rw [if_neg c5] at H
      have c5b0 : (t117 == 0) = false := beq_eq_false_iff_ne.mpr c5
      have c5b1 : (t117 != 0) = true := bne_iff_ne.mpr c5
      (first | rw [c5b0] | (simp only [i64_w, i32_w]; rw [c5b0]) | skip)
      have H' := Aside0.mk H
      clear H
      go_wp2
      go_meet
      case rel => exact ⟨_, (false), (by first | rfl | (simp; done) | (simp [*]; done)), H', ⟨by first | omega | exact Nat.le_refl _⟩, by repeat (first | exact Drawn0.refl _ | apply Drawn0.step)⟩
  case rest =>
    clear HC4
    try clear c1
    try clear p2
    try clear c5
    try clear c5b0
    try clear c5b1
    try clear c6
    try clear c6b0
    try clear c6b1
    obtain ⟨kq, x22_3, rfl, HA, HJ3, ⟨mc3, rfl⟩⟩ := hcut
    cases kq with
    | zero => exact absurd HA.out (by simp [cameoref18_Asks.j0])
    | succ kj3 =>
      have H := HA.out
      clear HA
      simp only [cameoref18_Asks.j0] at H
      have HC8 := Aside0.mk H
      clear H
      go_upto_if 22 with (fail)
      go_cut [7] (fun v7 wc => ∃ (kq : Nat) (x7_7 : Int), v7 = .int .u16 x7_7 ∧ Aside0 (cameoref18_Asks.j1 kq a1 t116 t117 x7_7 = some r) ∧ Aside0 (kq ≤ kj3) ∧ Drawn0 w wc)
      case first =>
        have H := HC8.out
        clear HC8
        by_cases c9 : x22_3 = true
        · subst c9
          have H1 : (cameoref18_Asks.j1 kj3 a1 t116 t117 (IntKind.u16.wrap (0 + 1))) = some r := by rw [if_pos rfl] at H; exact H
          clear H
          have H := H1
          clear H1
          have H' := Aside0.mk H
          clear H
          go_wp2
          go_meet
          case rel => exact ⟨_, (IntKind.u16.wrap (0 + 1)), (by first | rfl | (simp; done) | (simp [*]; done)), H', ⟨by have := HJ3.out; first | omega | exact Nat.le_refl _⟩, by repeat (first | exact Drawn0.refl _ | apply Drawn0.step)⟩
        · replace c9 := Bool.eq_false_iff.mpr c9
          subst c9
          have H1 : (cameoref18_Asks.j1 kj3 a1 t116 t117 0) = some r := by rw [if_neg (show ¬ (false = true) by decide)] at H; exact H
          clear H
          have H := H1
          clear H1
          have H' := Aside0.mk H
          clear H
          go_wp2
          go_meet
          case rel => exact ⟨_, (0), (by first | rfl | (simp; done) | (simp [*]; done)), H', ⟨by have := HJ3.out; first | omega | exact Nat.le_refl _⟩, by repeat (first | exact Drawn0.refl _ | apply Drawn0.step)⟩
      case rest =>
        clear HC8
        try clear c1
        try clear p2
        try clear c3
        try clear c5
        try clear c5b0
        try clear c5b1
        try clear c6
        try clear c6b0
        try clear c6b1
        try clear c9
        try clear p2
        obtain ⟨kq, x7_7, rfl, HA, HJ7, ⟨mc7, rfl⟩⟩ := hcut
        cases kq with
        | zero => exact absurd HA.out (by simp [cameoref18_Asks.j1])
        | succ kj7 =>
          have H := HA.out
          clear HA
          simp only [cameoref18_Asks.j1] at H
          have HC10 := Aside0.mk H
          clear H
          go_upto_region 5 with (fail)
          go_cut [30] (fun v30 wc => ∃ (kq : Nat) (x30_9 : Bool), v30 = .bool x30_9 ∧ Aside0 (cameoref18_Asks.j2 kq a1 t116 t117 x7_7 x30_9 = some r) ∧ Aside0 (kq ≤ kj7) ∧ Drawn0 w wc)
          case first =>
            have H := HC10.out
            clear HC10
            by_cases c11 : t117 = 960
            · rw [if_pos c11] at H
              have c11b0 : (t117 == 960) = true := beq_iff_eq.mpr c11
              have c11b1 : (t117 != 960) = false := bne_eq_false_iff_eq.mpr c11
              clear c11
              (first | rw [c11b0] | (simp only [i64_w, i32_w]; rw [c11b0]) | skip)
              replace H := Option.bind_eq_some_iff.mp H
              obtain ⟨t119, A120, H⟩ := H
              replace H : (cameoref18_Asks.j2 kj7 a1 t116 t117 x7_7 t119) = some r := H
              have A12 := Aside0.mk A120
              clear A120
              have H' := Aside0.mk H
              clear H
              go_wp2_with (first | (go_at_call 16; (with_reducible refine (cameoref18_bit.calls a1 4 t119 _ A12.out).mono ?_); rintro e w' ⟨rfl, ⟨nd, rfl⟩⟩))
              go_meet
              case rel => exact ⟨_, (t119), (by first | rfl | (simp; done) | (simp [*]; done)), H', ⟨by have := HJ3.out; have := HJ7.out; first | omega | exact Nat.le_refl _⟩, by repeat (first | exact Drawn0.refl _ | apply Drawn0.step)⟩
            · rw [if_neg c11] at H
              have c11b0 : (t117 == 960) = false := beq_eq_false_iff_ne.mpr c11
              have c11b1 : (t117 != 960) = true := bne_iff_ne.mpr c11
              (first | rw [c11b0] | (simp only [i64_w, i32_w]; rw [c11b0]) | skip)
              have H' := Aside0.mk H
              clear H
              go_wp2
              go_meet
              case rel => exact ⟨_, (false), (by first | rfl | (simp; done) | (simp [*]; done)), H', ⟨by have := HJ3.out; have := HJ7.out; first | omega | exact Nat.le_refl _⟩, by repeat (first | exact Drawn0.refl _ | apply Drawn0.step)⟩
          case rest =>
            clear HC10
            try clear c1
            try clear p2
            try clear c3
            try clear c5
            try clear c5b0
            try clear c5b1
            try clear c6
            try clear c6b0
            try clear c6b1
            try clear c7
            try clear c9
            try clear c11
            try clear c11b0
            try clear c11b1
            try clear p2
            obtain ⟨kq, x30_9, rfl, HA, HJ9, ⟨mc9, rfl⟩⟩ := hcut
            cases kq with
            | zero => exact absurd HA.out (by simp [cameoref18_Asks.j2])
            | succ kj9 =>
              have H := HA.out
              clear HA
              simp only [cameoref18_Asks.j2] at H
              by_cases c13 : x30_9 = true
              · subst c13
                have H1 : (if t117 = 0 then (if t116 = (wrap64 (IntKind.u16.wrap (Int.tdiv a1 256))) then ((cameoref18_bit.f a1 5).bind fun t120 => (if t120 = true then (some (IntKind.u16.wrap ((IntKind.u16.wrap (x7_7 + 2)) + 4))) else (some (IntKind.u16.wrap (x7_7 + 2))))) else (some (IntKind.u16.wrap (x7_7 + 2)))) else (some (IntKind.u16.wrap (x7_7 + 2)))) = some r := by rw [if_pos rfl] at H; exact H
                clear H
                have H := H1
                clear H1
                by_cases c14 : t117 = 0
                · rw [if_pos c14] at H
                  have c14b0 : (t117 == 0) = true := beq_iff_eq.mpr c14
                  have c14b1 : (t117 != 0) = false := bne_eq_false_iff_eq.mpr c14
                  clear c14
                  by_cases c15 : t116 = (wrap64 (IntKind.u16.wrap (Int.tdiv a1 256)))
                  · rw [if_pos c15] at H
                    have c15b0 : (t116 == (wrap64 (IntKind.u16.wrap (Int.tdiv a1 256)))) = true := beq_iff_eq.mpr c15
                    have c15b1 : (t116 != (wrap64 (IntKind.u16.wrap (Int.tdiv a1 256)))) = false := bne_eq_false_iff_eq.mpr c15
                    clear c15
                    replace H := Option.bind_eq_some_iff.mp H
                    obtain ⟨t120, A160, H⟩ := H
                    replace H : (if t120 = true then (some (IntKind.u16.wrap ((IntKind.u16.wrap (x7_7 + 2)) + 4))) else (some (IntKind.u16.wrap (x7_7 + 2)))) = some r := H
                    have A16 := Aside0.mk A160
                    clear A160
                    by_cases c17 : t120 = true
                    · subst c17
                      have H1 : (some (IntKind.u16.wrap ((IntKind.u16.wrap (x7_7 + 2)) + 4))) = some r := by rw [if_pos rfl] at H; exact H
                      clear H
                      have H := H1
                      clear H1
                      obtain rfl := Option.some.inj H
                      go_wp2_with (first | (go_at_call 16; (with_reducible refine (cameoref18_bit.calls a1 5 true _ A16.out).mono ?_); rintro e w' ⟨rfl, ⟨nd, rfl⟩⟩))
                      go_ret
                      exact ⟨by first | rfl | (simp; done) | (simp [*]; done), by repeat (first | exact Drawn0.refl _ | apply Drawn0.step)⟩
                    · replace c17 := Bool.eq_false_iff.mpr c17
                      subst c17
                      have H1 : (some (IntKind.u16.wrap (x7_7 + 2))) = some r := by rw [if_neg (show ¬ (false = true) by decide)] at H; exact H
                      clear H
                      have H := H1
                      clear H1
                      obtain rfl := Option.some.inj H
                      go_wp2_with (first | (go_at_call 16; (with_reducible refine (cameoref18_bit.calls a1 5 false _ A16.out).mono ?_); rintro e w' ⟨rfl, ⟨nd, rfl⟩⟩))
                      go_ret
                      exact ⟨by first | rfl | (simp; done) | (simp [*]; done), by repeat (first | exact Drawn0.refl _ | apply Drawn0.step)⟩
                  · rw [if_neg c15] at H
                    have c15b0 : (t116 == (wrap64 (IntKind.u16.wrap (Int.tdiv a1 256)))) = false := beq_eq_false_iff_ne.mpr c15
                    have c15b1 : (t116 != (wrap64 (IntKind.u16.wrap (Int.tdiv a1 256)))) = true := bne_iff_ne.mpr c15
                    obtain rfl := Option.some.inj H
                    go_wp2
                    go_ret
                    exact ⟨by first | rfl | (simp; done) | (simp [*]; done), by repeat (first | exact Drawn0.refl _ | apply Drawn0.step)⟩
                · rw [if_neg c14] at H
                  have c14b0 : (t117 == 0) = false := beq_eq_false_iff_ne.mpr c14
                  have c14b1 : (t117 != 0) = true := bne_iff_ne.mpr c14
                  obtain rfl := Option.some.inj H
                  go_wp2
                  go_ret
                  exact ⟨by first | rfl | (simp; done) | (simp [*]; done), by repeat (first | exact Drawn0.refl _ | apply Drawn0.step)⟩
              · replace c13 := Bool.eq_false_iff.mpr c13
                subst c13
                have H1 : (if t117 = 0 then (if t116 = (wrap64 (IntKind.u16.wrap (Int.tdiv a1 256))) then ((cameoref18_bit.f a1 5).bind fun t121 => (if t121 = true then (some (IntKind.u16.wrap (x7_7 + 4))) else (some x7_7))) else (some x7_7)) else (some x7_7)) = some r := by rw [if_neg (show ¬ (false = true) by decide)] at H; exact H
                clear H
                have H := H1
                clear H1
                by_cases c18 : t117 = 0
                · rw [if_pos c18] at H
                  have c18b0 : (t117 == 0) = true := beq_iff_eq.mpr c18
                  have c18b1 : (t117 != 0) = false := bne_eq_false_iff_eq.mpr c18
                  clear c18
                  by_cases c19 : t116 = (wrap64 (IntKind.u16.wrap (Int.tdiv a1 256)))
                  · rw [if_pos c19] at H
                    have c19b0 : (t116 == (wrap64 (IntKind.u16.wrap (Int.tdiv a1 256)))) = true := beq_iff_eq.mpr c19
                    have c19b1 : (t116 != (wrap64 (IntKind.u16.wrap (Int.tdiv a1 256)))) = false := bne_eq_false_iff_eq.mpr c19
                    clear c19
                    replace H := Option.bind_eq_some_iff.mp H
                    obtain ⟨t121, A200, H⟩ := H
                    replace H : (if t121 = true then (some (IntKind.u16.wrap (x7_7 + 4))) else (some x7_7)) = some r := H
                    have A20 := Aside0.mk A200
                    clear A200
                    by_cases c21 : t121 = true
                    · subst c21
                      have H1 : (some (IntKind.u16.wrap (x7_7 + 4))) = some r := by rw [if_pos rfl] at H; exact H
                      clear H
                      have H := H1
                      clear H1
                      obtain rfl := Option.some.inj H
                      go_wp2_with (first | (go_at_call 16; (with_reducible refine (cameoref18_bit.calls a1 5 true _ A20.out).mono ?_); rintro e w' ⟨rfl, ⟨nd, rfl⟩⟩))
                      go_ret
                      exact ⟨by first | rfl | (simp; done) | (simp [*]; done), by repeat (first | exact Drawn0.refl _ | apply Drawn0.step)⟩
                    · replace c21 := Bool.eq_false_iff.mpr c21
                      subst c21
                      have H1 : (some x7_7) = some r := by rw [if_neg (show ¬ (false = true) by decide)] at H; exact H
                      clear H
                      have H := H1
                      clear H1
                      obtain rfl := Option.some.inj H
                      go_wp2_with (first | (go_at_call 16; (with_reducible refine (cameoref18_bit.calls a1 5 false _ A20.out).mono ?_); rintro e w' ⟨rfl, ⟨nd, rfl⟩⟩))
                      go_ret
                      exact ⟨by first | rfl | (simp; done) | (simp [*]; done), by repeat (first | exact Drawn0.refl _ | apply Drawn0.step)⟩
                  · rw [if_neg c19] at H
                    have c19b0 : (t116 == (wrap64 (IntKind.u16.wrap (Int.tdiv a1 256)))) = false := beq_eq_false_iff_ne.mpr c19
                    have c19b1 : (t116 != (wrap64 (IntKind.u16.wrap (Int.tdiv a1 256)))) = true := bne_iff_ne.mpr c19
                    obtain rfl := Option.some.inj H
                    go_wp2
                    go_ret
                    exact ⟨by first | rfl | (simp; done) | (simp [*]; done), by repeat (first | exact Drawn0.refl _ | apply Drawn0.step)⟩
                · rw [if_neg c18] at H
                  have c18b0 : (t117 == 0) = false := beq_eq_false_iff_ne.mpr c18
                  have c18b1 : (t117 != 0) = true := bne_iff_ne.mpr c18
                  obtain rfl := Option.some.inj H
                  go_wp2
                  go_ret
                  exact ⟨by first | rfl | (simp; done) | (simp [*]; done), by repeat (first | exact Drawn0.refl _ | apply Drawn0.step)⟩

/-! ### cameolaw18_BeamTells: function 4 -/
def cameolaw18_BeamTells.f (k : Nat) (a0 : Int) (a1 : Int) : Option (Bool) := (cameolaw18_awake.f k).bind fun t122 => (if t122 = true then (if a0 > 1125899906842624 then (some true) else ((beam_At.f a0).bind fun bt123 => ((cameoref18_At.f a0).bind fun bt125 => (if bt123.1 = bt125.1 then (if bt123.2 = bt125.2 then ((beam_Next.f a0).bind fun t127 => ((cameoref18_Next.f k a0).bind fun t128 => (if t127 = t128 then ((beam_Status.f k a0 a1).bind fun t129 => ((cameoref18_Status.f k a0 a1).bind fun t130 => (if t129 = t130 then ((beam_Asks.f k a0 a1).bind fun t131 => ((cameoref18_Asks.f k a0 a1).bind fun t132 => (some (t131 == t132)))) else (some false)))) else (some false)))) else (some false)) else (some false))))) else (some false))
theorem cameolaw18_BeamTells.mono : ∀ a0 a1 k, LeO (cameolaw18_BeamTells.f k a0 a1) (cameolaw18_BeamTells.f (k + 1) a0 a1) := by
  intro a0 a1 k
  unfold cameolaw18_BeamTells.f
  repeat' first
      | (with_reducible exact beam_Asks.mono _ _ _)
      | (with_reducible exact beam_Status.mono _ _ _)
      | (with_reducible exact cameolaw18_awake.mono _)
      | (with_reducible exact cameoref18_Asks.mono _ _ _)
      | (with_reducible exact cameoref18_Next.mono _ _)
      | (with_reducible exact cameoref18_Status.mono _ _ _)
      | (with_reducible exact LeO.refl _)
      | (with_reducible exact LeO.none _)
      | (with_reducible refine LeO.ite ?_ ?_)
      | (with_reducible refine LeO.bind ?_ (fun _ => ?_))
      | exact beam_Asks.mono _ _ _
      | exact beam_Status.mono _ _ _
      | exact cameolaw18_awake.mono _
      | exact cameoref18_Asks.mono _ _ _
      | exact cameoref18_Next.mono _ _
      | exact cameoref18_Status.mono _ _ _
      | exact LeO.none _
      | refine LeO.ite ?_ ?_
      | refine LeO.bind ?_ (fun _ => ?_)
set_option maxHeartbeats 8000000 in
set_option maxRecDepth 100000 in
theorem cameolaw18_BeamTells.calls (k : Nat) (a0 : Int) (a1 : Int) (r : Bool) (w : World) (h : cameolaw18_BeamTells.f k a0 a1 = some r) :
    Calls Try.prog 4 #[.int .i64 a0, .int .u16 a1] w fun e w' => e = .returned (.bool r) ∧ Below w.heap.size w w' := by
  have HB := Aside0.mk (Below.refl w.heap.size w)
  have H : ((cameolaw18_awake.f k).bind fun t122 => (if t122 = true then (if a0 > 1125899906842624 then (some true) else ((beam_At.f a0).bind fun bt123 => ((cameoref18_At.f a0).bind fun bt125 => (if bt123.1 = bt125.1 then (if bt123.2 = bt125.2 then ((beam_Next.f a0).bind fun t127 => ((cameoref18_Next.f k a0).bind fun t128 => (if t127 = t128 then ((beam_Status.f k a0 a1).bind fun t129 => ((cameoref18_Status.f k a0 a1).bind fun t130 => (if t129 = t130 then ((beam_Asks.f k a0 a1).bind fun t131 => ((cameoref18_Asks.f k a0 a1).bind fun t132 => (some (t131 == t132)))) else (some false)))) else (some false)))) else (some false)) else (some false))))) else (some false))) = some r := h
  clear h
  replace H := Option.bind_eq_some_iff.mp H
  obtain ⟨t122, A30, H⟩ := H
  replace H : (if t122 = true then (if a0 > 1125899906842624 then (some true) else ((beam_At.f a0).bind fun bt123 => ((cameoref18_At.f a0).bind fun bt125 => (if bt123.1 = bt125.1 then (if bt123.2 = bt125.2 then ((beam_Next.f a0).bind fun t127 => ((cameoref18_Next.f k a0).bind fun t128 => (if t127 = t128 then ((beam_Status.f k a0 a1).bind fun t129 => ((cameoref18_Status.f k a0 a1).bind fun t130 => (if t129 = t130 then ((beam_Asks.f k a0 a1).bind fun t131 => ((cameoref18_Asks.f k a0 a1).bind fun t132 => (some (t131 == t132)))) else (some false)))) else (some false)))) else (some false)) else (some false))))) else (some false)) = some r := H
  have A3 := Aside0.mk A30
  clear A30
  by_cases c4 : t122 = true
  · subst c4
    have H1 : (if a0 > 1125899906842624 then (some true) else ((beam_At.f a0).bind fun bt123 => ((cameoref18_At.f a0).bind fun bt125 => (if bt123.1 = bt125.1 then (if bt123.2 = bt125.2 then ((beam_Next.f a0).bind fun t127 => ((cameoref18_Next.f k a0).bind fun t128 => (if t127 = t128 then ((beam_Status.f k a0 a1).bind fun t129 => ((cameoref18_Status.f k a0 a1).bind fun t130 => (if t129 = t130 then ((beam_Asks.f k a0 a1).bind fun t131 => ((cameoref18_Asks.f k a0 a1).bind fun t132 => (some (t131 == t132)))) else (some false)))) else (some false)))) else (some false)) else (some false))))) = some r := by rw [if_pos rfl] at H; exact H
    clear H
    have H := H1
    clear H1
    by_cases c5 : a0 > 1125899906842624
    · rw [if_pos c5] at H
      have c5b0 : decide (1125899906842624 < a0) = true := decide_eq_true c5
      clear c5
      obtain rfl := Option.some.inj H
      go_enter Try.func4, Try.ntmps4
      go_wp2_with (first | ((with_reducible refine gate_callee (f := 7) rfl ?_); refine goesL_ (some 9) rfl rfl Try.func7 (by kernel_rfl) rfl #[] rfl (by (try simp only [List.map_toArray, List.map_cons, List.map_nil]); first | done | rfl | (simp only [List.length_drop, List.length_take]; rfl)) ?_; (with_reducible refine (cameolaw18_awake.calls k  true _ A3.out).mono ?_); rintro e w6 ⟨rfl, hb⟩; refine ⟨_, rfl, ?_⟩; have n0_ := Aside0.mk (below_step (by repeat (first | (with_reducible first | exact HB.out | apply below_alloc | apply pw_below_drewN | apply below_drew1) | exact HB.out)) hb); clear HB; have HB := n0_; clear n0_; (try clear hb); (try clear hb2); (try clear hk); (try clear hi)))
      go_ret
      exact ⟨by first | rfl | (simp [errW_none, errW_some] <;> rfl) | (simp [*, errW_none, errW_some] <;> rfl), by repeat (first | (with_reducible first | exact HB.out | apply below_alloc | apply pw_below_drewN | apply below_drew1) | exact HB.out)⟩
    · rw [if_neg c5] at H
      have c5b0 : decide (1125899906842624 < a0) = false := decide_eq_false c5
      clear c5
      replace H := Option.bind_eq_some_iff.mp H
      obtain ⟨⟨t123, t124⟩, A70, H⟩ := H
      replace H : ((cameoref18_At.f a0).bind fun bt125 => (if t123 = bt125.1 then (if t124 = bt125.2 then ((beam_Next.f a0).bind fun t127 => ((cameoref18_Next.f k a0).bind fun t128 => (if t127 = t128 then ((beam_Status.f k a0 a1).bind fun t129 => ((cameoref18_Status.f k a0 a1).bind fun t130 => (if t129 = t130 then ((beam_Asks.f k a0 a1).bind fun t131 => ((cameoref18_Asks.f k a0 a1).bind fun t132 => (some (t131 == t132)))) else (some false)))) else (some false)))) else (some false)) else (some false))) = some r := H
      have A7 := Aside0.mk A70
      clear A70
      replace H := Option.bind_eq_some_iff.mp H
      obtain ⟨⟨t125, t126⟩, A80, H⟩ := H
      replace H : (if t123 = t125 then (if t124 = t126 then ((beam_Next.f a0).bind fun t127 => ((cameoref18_Next.f k a0).bind fun t128 => (if t127 = t128 then ((beam_Status.f k a0 a1).bind fun t129 => ((cameoref18_Status.f k a0 a1).bind fun t130 => (if t129 = t130 then ((beam_Asks.f k a0 a1).bind fun t131 => ((cameoref18_Asks.f k a0 a1).bind fun t132 => (some (t131 == t132)))) else (some false)))) else (some false)))) else (some false)) else (some false)) = some r := H
      have A8 := Aside0.mk A80
      clear A80
      by_cases c9 : t123 = t125
      · rw [if_pos c9] at H
        have c9b0 : (t123 == t125) = true := beq_iff_eq.mpr c9
        have c9b1 : (t123 != t125) = false := bne_eq_false_iff_eq.mpr c9
        clear c9
        by_cases c10 : t124 = t126
        · rw [if_pos c10] at H
          have c10b0 : (t124 == t126) = true := beq_iff_eq.mpr c10
          have c10b1 : (t124 != t126) = false := bne_eq_false_iff_eq.mpr c10
          clear c10
          replace H := Option.bind_eq_some_iff.mp H
          obtain ⟨t127, A110, H⟩ := H
          replace H : ((cameoref18_Next.f k a0).bind fun t128 => (if t127 = t128 then ((beam_Status.f k a0 a1).bind fun t129 => ((cameoref18_Status.f k a0 a1).bind fun t130 => (if t129 = t130 then ((beam_Asks.f k a0 a1).bind fun t131 => ((cameoref18_Asks.f k a0 a1).bind fun t132 => (some (t131 == t132)))) else (some false)))) else (some false))) = some r := H
          have A11 := Aside0.mk A110
          clear A110
          replace H := Option.bind_eq_some_iff.mp H
          obtain ⟨t128, A120, H⟩ := H
          replace H : (if t127 = t128 then ((beam_Status.f k a0 a1).bind fun t129 => ((cameoref18_Status.f k a0 a1).bind fun t130 => (if t129 = t130 then ((beam_Asks.f k a0 a1).bind fun t131 => ((cameoref18_Asks.f k a0 a1).bind fun t132 => (some (t131 == t132)))) else (some false)))) else (some false)) = some r := H
          have A12 := Aside0.mk A120
          clear A120
          by_cases c13 : t127 = t128
          · rw [if_pos c13] at H
            have c13b0 : (t127 == t128) = true := beq_iff_eq.mpr c13
            have c13b1 : (t127 != t128) = false := bne_eq_false_iff_eq.mpr c13
            clear c13
            replace H := Option.bind_eq_some_iff.mp H
            obtain ⟨t129, A140, H⟩ := H
            replace H : ((cameoref18_Status.f k a0 a1).bind fun t130 => (if t129 = t130 then ((beam_Asks.f k a0 a1).bind fun t131 => ((cameoref18_Asks.f k a0 a1).bind fun t132 => (some (t131 == t132)))) else (some false))) = some r := H
            have A14 := Aside0.mk A140
            clear A140
            replace H := Option.bind_eq_some_iff.mp H
            obtain ⟨t130, A150, H⟩ := H
            replace H : (if t129 = t130 then ((beam_Asks.f k a0 a1).bind fun t131 => ((cameoref18_Asks.f k a0 a1).bind fun t132 => (some (t131 == t132)))) else (some false)) = some r := H
            have A15 := Aside0.mk A150
            clear A150
            by_cases c16 : t129 = t130
            · rw [if_pos c16] at H
              have c16b0 : (t129 == t130) = true := beq_iff_eq.mpr c16
              have c16b1 : (t129 != t130) = false := bne_eq_false_iff_eq.mpr c16
              clear c16
              replace H := Option.bind_eq_some_iff.mp H
              obtain ⟨t131, A170, H⟩ := H
              replace H : ((cameoref18_Asks.f k a0 a1).bind fun t132 => (some (t131 == t132))) = some r := H
              have A17 := Aside0.mk A170
              clear A170
              replace H := Option.bind_eq_some_iff.mp H
              obtain ⟨t132, A180, H⟩ := H
              replace H : (some (t131 == t132)) = some r := H
              have A18 := Aside0.mk A180
              clear A180
              obtain rfl := Option.some.inj H
              go_enter Try.func4, Try.ntmps4
              go_wp2_with (first | ((with_reducible refine gate_callee (f := 7) rfl ?_); refine goesL_ (some 9) rfl rfl Try.func7 (by kernel_rfl) rfl #[] rfl (by (try simp only [List.map_toArray, List.map_cons, List.map_nil]); first | done | rfl | (simp only [List.length_drop, List.length_take]; rfl)) ?_; (with_reducible refine (cameolaw18_awake.calls k  true _ A3.out).mono ?_); rintro e w19 ⟨rfl, hb⟩; refine ⟨_, rfl, ?_⟩; have n0_ := Aside0.mk (below_step (by repeat (first | (with_reducible first | exact HB.out | apply below_alloc | apply pw_below_drewN | apply below_drew1) | exact HB.out)) hb); clear HB; have HB := n0_; clear n0_; (try clear hb); (try clear hb2); (try clear hk); (try clear hi)) | ((with_reducible refine gate_callee (f := 10) rfl ?_); refine goesL_ (some 15) rfl rfl Try.func10 (by kernel_rfl) rfl #[.int .i64 a0] rfl (by (try simp only [List.map_toArray, List.map_cons, List.map_nil]); first | done | rfl | (simp only [List.length_drop, List.length_take]; rfl)) ?_; (with_reducible refine (beam_At.calls a0 t123 t124 _ A7.out).mono ?_); rintro e w20 ⟨rfl, hb⟩; refine ⟨_, rfl, ?_⟩; have n0_ := Aside0.mk (below_step (by repeat (first | (with_reducible first | exact HB.out | apply below_alloc | apply pw_below_drewN | apply below_drew1) | exact HB.out)) hb); clear HB; have HB := n0_; clear n0_; (try clear hb); (try clear hb2); (try clear hk); (try clear hi)) | ((with_reducible refine gate_callee (f := 11) rfl ?_); refine goesL_ (some 20) rfl rfl Try.func11 (by kernel_rfl) rfl #[.int .i64 a0] rfl (by (try simp only [List.map_toArray, List.map_cons, List.map_nil]); first | done | rfl | (simp only [List.length_drop, List.length_take]; rfl)) ?_; (with_reducible refine (cameoref18_At.calls a0 t125 t126 _ A8.out).mono ?_); rintro e w' ⟨rfl, ⟨nd, rfl⟩⟩; refine ⟨_, rfl, ?_⟩) | (go_at_call 8; (with_reducible refine (beam_Next.calls a0 t127 _ A11.out).mono ?_); rintro e w21 ⟨rfl, hb⟩; have n0_ := Aside0.mk (below_step (by repeat (first | (with_reducible first | exact HB.out | apply below_alloc | apply pw_below_drewN | apply below_drew1) | exact HB.out)) hb); clear HB; have HB := n0_; clear n0_; (try clear hb); (try clear hb2); (try clear hk); (try clear hi)) | (go_at_call 12; (with_reducible refine (cameoref18_Next.calls k a0 t128 _ A12.out).mono ?_); rintro e w' ⟨rfl, ⟨nd, rfl⟩⟩) | (go_at_call 13; (with_reducible refine (beam_Status.calls k a0 a1 t129 _ A14.out).mono ?_); rintro e w22 ⟨rfl, hb⟩; have n0_ := Aside0.mk (below_step (by repeat (first | (with_reducible first | exact HB.out | apply below_alloc | apply pw_below_drewN | apply below_drew1) | exact HB.out)) hb); clear HB; have HB := n0_; clear n0_; (try clear hb); (try clear hb2); (try clear hk); (try clear hi)) | (go_at_call 14; (with_reducible refine (cameoref18_Status.calls k a0 a1 t130 _ A15.out).mono ?_); rintro e w' ⟨rfl, ⟨nd, rfl⟩⟩) | (go_at_call 9; (with_reducible refine (beam_Asks.calls k a0 a1 t131 _ A17.out).mono ?_); rintro e w23 ⟨rfl, hb⟩; have n0_ := Aside0.mk (below_step (by repeat (first | (with_reducible first | exact HB.out | apply below_alloc | apply pw_below_drewN | apply below_drew1) | exact HB.out)) hb); clear HB; have HB := n0_; clear n0_; (try clear hb); (try clear hb2); (try clear hk); (try clear hi)) | (go_at_call 15; (with_reducible refine (cameoref18_Asks.calls k a0 a1 t132 _ A18.out).mono ?_); rintro e w' ⟨rfl, ⟨nd, rfl⟩⟩))
              go_ret
              exact ⟨by first | rfl | (simp [errW_none, errW_some] <;> rfl) | (simp [*, errW_none, errW_some] <;> rfl), by repeat (first | (with_reducible first | exact HB.out | apply below_alloc | apply pw_below_drewN | apply below_drew1) | exact HB.out)⟩
            · rw [if_neg c16] at H
              have c16b0 : (t129 == t130) = false := beq_eq_false_iff_ne.mpr c16
              have c16b1 : (t129 != t130) = true := bne_iff_ne.mpr c16
              obtain rfl := Option.some.inj H
              go_enter Try.func4, Try.ntmps4
              go_wp2_with (first | ((with_reducible refine gate_callee (f := 7) rfl ?_); refine goesL_ (some 9) rfl rfl Try.func7 (by kernel_rfl) rfl #[] rfl (by (try simp only [List.map_toArray, List.map_cons, List.map_nil]); first | done | rfl | (simp only [List.length_drop, List.length_take]; rfl)) ?_; (with_reducible refine (cameolaw18_awake.calls k  true _ A3.out).mono ?_); rintro e w24 ⟨rfl, hb⟩; refine ⟨_, rfl, ?_⟩; have n0_ := Aside0.mk (below_step (by repeat (first | (with_reducible first | exact HB.out | apply below_alloc | apply pw_below_drewN | apply below_drew1) | exact HB.out)) hb); clear HB; have HB := n0_; clear n0_; (try clear hb); (try clear hb2); (try clear hk); (try clear hi)) | ((with_reducible refine gate_callee (f := 10) rfl ?_); refine goesL_ (some 15) rfl rfl Try.func10 (by kernel_rfl) rfl #[.int .i64 a0] rfl (by (try simp only [List.map_toArray, List.map_cons, List.map_nil]); first | done | rfl | (simp only [List.length_drop, List.length_take]; rfl)) ?_; (with_reducible refine (beam_At.calls a0 t123 t124 _ A7.out).mono ?_); rintro e w25 ⟨rfl, hb⟩; refine ⟨_, rfl, ?_⟩; have n0_ := Aside0.mk (below_step (by repeat (first | (with_reducible first | exact HB.out | apply below_alloc | apply pw_below_drewN | apply below_drew1) | exact HB.out)) hb); clear HB; have HB := n0_; clear n0_; (try clear hb); (try clear hb2); (try clear hk); (try clear hi)) | ((with_reducible refine gate_callee (f := 11) rfl ?_); refine goesL_ (some 20) rfl rfl Try.func11 (by kernel_rfl) rfl #[.int .i64 a0] rfl (by (try simp only [List.map_toArray, List.map_cons, List.map_nil]); first | done | rfl | (simp only [List.length_drop, List.length_take]; rfl)) ?_; (with_reducible refine (cameoref18_At.calls a0 t125 t126 _ A8.out).mono ?_); rintro e w' ⟨rfl, ⟨nd, rfl⟩⟩; refine ⟨_, rfl, ?_⟩) | (go_at_call 8; (with_reducible refine (beam_Next.calls a0 t127 _ A11.out).mono ?_); rintro e w26 ⟨rfl, hb⟩; have n0_ := Aside0.mk (below_step (by repeat (first | (with_reducible first | exact HB.out | apply below_alloc | apply pw_below_drewN | apply below_drew1) | exact HB.out)) hb); clear HB; have HB := n0_; clear n0_; (try clear hb); (try clear hb2); (try clear hk); (try clear hi)) | (go_at_call 12; (with_reducible refine (cameoref18_Next.calls k a0 t128 _ A12.out).mono ?_); rintro e w' ⟨rfl, ⟨nd, rfl⟩⟩) | (go_at_call 13; (with_reducible refine (beam_Status.calls k a0 a1 t129 _ A14.out).mono ?_); rintro e w27 ⟨rfl, hb⟩; have n0_ := Aside0.mk (below_step (by repeat (first | (with_reducible first | exact HB.out | apply below_alloc | apply pw_below_drewN | apply below_drew1) | exact HB.out)) hb); clear HB; have HB := n0_; clear n0_; (try clear hb); (try clear hb2); (try clear hk); (try clear hi)) | (go_at_call 14; (with_reducible refine (cameoref18_Status.calls k a0 a1 t130 _ A15.out).mono ?_); rintro e w' ⟨rfl, ⟨nd, rfl⟩⟩))
              go_ret
              exact ⟨by first | rfl | (simp [errW_none, errW_some] <;> rfl) | (simp [*, errW_none, errW_some] <;> rfl), by repeat (first | (with_reducible first | exact HB.out | apply below_alloc | apply pw_below_drewN | apply below_drew1) | exact HB.out)⟩
          · rw [if_neg c13] at H
            have c13b0 : (t127 == t128) = false := beq_eq_false_iff_ne.mpr c13
            have c13b1 : (t127 != t128) = true := bne_iff_ne.mpr c13
            obtain rfl := Option.some.inj H
            go_enter Try.func4, Try.ntmps4
            go_wp2_with (first | ((with_reducible refine gate_callee (f := 7) rfl ?_); refine goesL_ (some 9) rfl rfl Try.func7 (by kernel_rfl) rfl #[] rfl (by (try simp only [List.map_toArray, List.map_cons, List.map_nil]); first | done | rfl | (simp only [List.length_drop, List.length_take]; rfl)) ?_; (with_reducible refine (cameolaw18_awake.calls k  true _ A3.out).mono ?_); rintro e w28 ⟨rfl, hb⟩; refine ⟨_, rfl, ?_⟩; have n0_ := Aside0.mk (below_step (by repeat (first | (with_reducible first | exact HB.out | apply below_alloc | apply pw_below_drewN | apply below_drew1) | exact HB.out)) hb); clear HB; have HB := n0_; clear n0_; (try clear hb); (try clear hb2); (try clear hk); (try clear hi)) | ((with_reducible refine gate_callee (f := 10) rfl ?_); refine goesL_ (some 15) rfl rfl Try.func10 (by kernel_rfl) rfl #[.int .i64 a0] rfl (by (try simp only [List.map_toArray, List.map_cons, List.map_nil]); first | done | rfl | (simp only [List.length_drop, List.length_take]; rfl)) ?_; (with_reducible refine (beam_At.calls a0 t123 t124 _ A7.out).mono ?_); rintro e w29 ⟨rfl, hb⟩; refine ⟨_, rfl, ?_⟩; have n0_ := Aside0.mk (below_step (by repeat (first | (with_reducible first | exact HB.out | apply below_alloc | apply pw_below_drewN | apply below_drew1) | exact HB.out)) hb); clear HB; have HB := n0_; clear n0_; (try clear hb); (try clear hb2); (try clear hk); (try clear hi)) | ((with_reducible refine gate_callee (f := 11) rfl ?_); refine goesL_ (some 20) rfl rfl Try.func11 (by kernel_rfl) rfl #[.int .i64 a0] rfl (by (try simp only [List.map_toArray, List.map_cons, List.map_nil]); first | done | rfl | (simp only [List.length_drop, List.length_take]; rfl)) ?_; (with_reducible refine (cameoref18_At.calls a0 t125 t126 _ A8.out).mono ?_); rintro e w' ⟨rfl, ⟨nd, rfl⟩⟩; refine ⟨_, rfl, ?_⟩) | (go_at_call 8; (with_reducible refine (beam_Next.calls a0 t127 _ A11.out).mono ?_); rintro e w30 ⟨rfl, hb⟩; have n0_ := Aside0.mk (below_step (by repeat (first | (with_reducible first | exact HB.out | apply below_alloc | apply pw_below_drewN | apply below_drew1) | exact HB.out)) hb); clear HB; have HB := n0_; clear n0_; (try clear hb); (try clear hb2); (try clear hk); (try clear hi)) | (go_at_call 12; (with_reducible refine (cameoref18_Next.calls k a0 t128 _ A12.out).mono ?_); rintro e w' ⟨rfl, ⟨nd, rfl⟩⟩))
            go_ret
            exact ⟨by first | rfl | (simp [errW_none, errW_some] <;> rfl) | (simp [*, errW_none, errW_some] <;> rfl), by repeat (first | (with_reducible first | exact HB.out | apply below_alloc | apply pw_below_drewN | apply below_drew1) | exact HB.out)⟩
        · rw [if_neg c10] at H
          have c10b0 : (t124 == t126) = false := beq_eq_false_iff_ne.mpr c10
          have c10b1 : (t124 != t126) = true := bne_iff_ne.mpr c10
          obtain rfl := Option.some.inj H
          go_enter Try.func4, Try.ntmps4
          go_wp2_with (first | ((with_reducible refine gate_callee (f := 7) rfl ?_); refine goesL_ (some 9) rfl rfl Try.func7 (by kernel_rfl) rfl #[] rfl (by (try simp only [List.map_toArray, List.map_cons, List.map_nil]); first | done | rfl | (simp only [List.length_drop, List.length_take]; rfl)) ?_; (with_reducible refine (cameolaw18_awake.calls k  true _ A3.out).mono ?_); rintro e w31 ⟨rfl, hb⟩; refine ⟨_, rfl, ?_⟩; have n0_ := Aside0.mk (below_step (by repeat (first | (with_reducible first | exact HB.out | apply below_alloc | apply pw_below_drewN | apply below_drew1) | exact HB.out)) hb); clear HB; have HB := n0_; clear n0_; (try clear hb); (try clear hb2); (try clear hk); (try clear hi)) | ((with_reducible refine gate_callee (f := 10) rfl ?_); refine goesL_ (some 15) rfl rfl Try.func10 (by kernel_rfl) rfl #[.int .i64 a0] rfl (by (try simp only [List.map_toArray, List.map_cons, List.map_nil]); first | done | rfl | (simp only [List.length_drop, List.length_take]; rfl)) ?_; (with_reducible refine (beam_At.calls a0 t123 t124 _ A7.out).mono ?_); rintro e w32 ⟨rfl, hb⟩; refine ⟨_, rfl, ?_⟩; have n0_ := Aside0.mk (below_step (by repeat (first | (with_reducible first | exact HB.out | apply below_alloc | apply pw_below_drewN | apply below_drew1) | exact HB.out)) hb); clear HB; have HB := n0_; clear n0_; (try clear hb); (try clear hb2); (try clear hk); (try clear hi)) | ((with_reducible refine gate_callee (f := 11) rfl ?_); refine goesL_ (some 20) rfl rfl Try.func11 (by kernel_rfl) rfl #[.int .i64 a0] rfl (by (try simp only [List.map_toArray, List.map_cons, List.map_nil]); first | done | rfl | (simp only [List.length_drop, List.length_take]; rfl)) ?_; (with_reducible refine (cameoref18_At.calls a0 t125 t126 _ A8.out).mono ?_); rintro e w' ⟨rfl, ⟨nd, rfl⟩⟩; refine ⟨_, rfl, ?_⟩))
          go_ret
          exact ⟨by first | rfl | (simp [errW_none, errW_some] <;> rfl) | (simp [*, errW_none, errW_some] <;> rfl), by repeat (first | (with_reducible first | exact HB.out | apply below_alloc | apply pw_below_drewN | apply below_drew1) | exact HB.out)⟩
      · rw [if_neg c9] at H
        have c9b0 : (t123 == t125) = false := beq_eq_false_iff_ne.mpr c9
        have c9b1 : (t123 != t125) = true := bne_iff_ne.mpr c9
        obtain rfl := Option.some.inj H
        go_enter Try.func4, Try.ntmps4
        go_wp2_with (first | ((with_reducible refine gate_callee (f := 7) rfl ?_); refine goesL_ (some 9) rfl rfl Try.func7 (by kernel_rfl) rfl #[] rfl (by (try simp only [List.map_toArray, List.map_cons, List.map_nil]); first | done | rfl | (simp only [List.length_drop, List.length_take]; rfl)) ?_; (with_reducible refine (cameolaw18_awake.calls k  true _ A3.out).mono ?_); rintro e w33 ⟨rfl, hb⟩; refine ⟨_, rfl, ?_⟩; have n0_ := Aside0.mk (below_step (by repeat (first | (with_reducible first | exact HB.out | apply below_alloc | apply pw_below_drewN | apply below_drew1) | exact HB.out)) hb); clear HB; have HB := n0_; clear n0_; (try clear hb); (try clear hb2); (try clear hk); (try clear hi)) | ((with_reducible refine gate_callee (f := 10) rfl ?_); refine goesL_ (some 15) rfl rfl Try.func10 (by kernel_rfl) rfl #[.int .i64 a0] rfl (by (try simp only [List.map_toArray, List.map_cons, List.map_nil]); first | done | rfl | (simp only [List.length_drop, List.length_take]; rfl)) ?_; (with_reducible refine (beam_At.calls a0 t123 t124 _ A7.out).mono ?_); rintro e w34 ⟨rfl, hb⟩; refine ⟨_, rfl, ?_⟩; have n0_ := Aside0.mk (below_step (by repeat (first | (with_reducible first | exact HB.out | apply below_alloc | apply pw_below_drewN | apply below_drew1) | exact HB.out)) hb); clear HB; have HB := n0_; clear n0_; (try clear hb); (try clear hb2); (try clear hk); (try clear hi)) | ((with_reducible refine gate_callee (f := 11) rfl ?_); refine goesL_ (some 20) rfl rfl Try.func11 (by kernel_rfl) rfl #[.int .i64 a0] rfl (by (try simp only [List.map_toArray, List.map_cons, List.map_nil]); first | done | rfl | (simp only [List.length_drop, List.length_take]; rfl)) ?_; (with_reducible refine (cameoref18_At.calls a0 t125 t126 _ A8.out).mono ?_); rintro e w' ⟨rfl, ⟨nd, rfl⟩⟩; refine ⟨_, rfl, ?_⟩))
        go_ret
        exact ⟨by first | rfl | (simp [errW_none, errW_some] <;> rfl) | (simp [*, errW_none, errW_some] <;> rfl), by repeat (first | (with_reducible first | exact HB.out | apply below_alloc | apply pw_below_drewN | apply below_drew1) | exact HB.out)⟩
  · replace c4 := Bool.eq_false_iff.mpr c4
    subst c4
    have H1 : (some false) = some r := by rw [if_neg (show ¬ (false = true) by decide)] at H; exact H
    clear H
    have H := H1
    clear H1
    obtain rfl := Option.some.inj H
    go_enter Try.func4, Try.ntmps4
    go_wp2_with (first | ((with_reducible refine gate_callee (f := 7) rfl ?_); refine goesL_ (some 9) rfl rfl Try.func7 (by kernel_rfl) rfl #[] rfl (by (try simp only [List.map_toArray, List.map_cons, List.map_nil]); first | done | rfl | (simp only [List.length_drop, List.length_take]; rfl)) ?_; (with_reducible refine (cameolaw18_awake.calls k  false _ A3.out).mono ?_); rintro e w35 ⟨rfl, hb⟩; refine ⟨_, rfl, ?_⟩; have n0_ := Aside0.mk (below_step (by repeat (first | (with_reducible first | exact HB.out | apply below_alloc | apply pw_below_drewN | apply below_drew1) | exact HB.out)) hb); clear HB; have HB := n0_; clear n0_; (try clear hb); (try clear hb2); (try clear hk); (try clear hi)))
    go_ret
    exact ⟨by first | rfl | (simp [errW_none, errW_some] <;> rfl) | (simp [*, errW_none, errW_some] <;> rfl), by repeat (first | (with_reducible first | exact HB.out | apply below_alloc | apply pw_below_drewN | apply below_drew1) | exact HB.out)⟩

/-- THE ONE PURE STATEMENT of cameolaw18_BeamTells: yours. -/
def cameolaw18_BeamTells.Pure : Prop := ∀ (a0 : Int) (a1 : Int), (Lit.int .i64 a0).wf = true → (Lit.int .u16 a1).wf = true → ∃ k, cameolaw18_BeamTells.f k a0 a1 = some true
theorem cameolaw18_BeamTells.walk (P : cameolaw18_BeamTells.Pure) (a0 : Int) (a1 : Int) (w : World) (w0 : (Lit.int .i64 a0).wf = true) (w1 : (Lit.int .u16 a1).wf = true) :
    Calls Try.prog 4 #[.int .i64 a0, .int .u16 a1] w fun e w' => e = .returned (.bool true) ∧ Below w.heap.size w w' := by
  obtain ⟨k, h⟩ := P a0 a1 w0 w1
  refine (cameolaw18_BeamTells.calls k a0 a1 true w h).mono ?_
  rintro e w' ⟨rfl, hd⟩
  exact ⟨rfl, hd⟩

end Go.Proofs.Ytmdjhdpgbpfedaa.PBeamTells
