/- TimerChain, walked. -/
import Derived.Test.YtkbjjkolhhmafaaTb
namespace Go.Proofs.Ytkbjjkolhhmafaa.Td
set_option linter.unusedVariables false
set_option linter.unusedSimpArgs false
open Go.RowKit Go.Proofs.Ytkbjjkolhhmafaa.Bt Go.Proofs.Ytkbjjkolhhmafaa.Wk Go.Proofs.Ytkbjjkolhhmafaa.Sg Go.Proofs.Ytkbjjkolhhmafaa.Ta Go.Proofs.Ytkbjjkolhhmafaa.Tb

/-- Two timers, the second going by the first. -/
def S2 (s si co : Int) : Nat → One := upd (upd Z 0 ⟨65535, 128, 65535, si⟩) 1 ⟨s, 132, co, 0⟩
theorem S2_0 (s si co : Int) : S2 s si co 0 = ⟨65535, 128, 65535, si⟩ := rfl
theorem S2_1 (s si co : Int) : S2 s si co 1 = ⟨s, 132, co, 0⟩ := rfl
theorem S2_2 (s si co : Int) : S2 s si co 2 = zero := rfl
theorem S2_3 (s si co : Int) : S2 s si co 3 = zero := rfl
theorem free_S2 (s si co : Int) : freeB (S2 s si co) 0 = true ∧ freeB (S2 s si co) 1 = false ∧ freeB (S2 s si co) 2 = false ∧ freeB (S2 s si co) 3 = false := ⟨rfl, rfl, rfl, rfl⟩
theorem due_S2 (s si co : Int) : Ta.due (S2 s si co 0) = si + 1 := by
  show si + (65536 - 65535) * 1 = si + 1
  omega
theorem next_S2 (s si co : Int) : nextF (S2 s si co) 4 = (si + 1, true) := by
  obtain ⟨a, b, c, d⟩ := free_S2 s si co
  simp only [nextF, a, b, c, d, due_S2]
  simp
def nco (s co : Int) : Int := if co = 65535 then s else co + 1
def nmask (co : Int) : Nat := if co = 65535 then 3 else 1
theorem fire_S2 (s si co : Int) : fireF (S2 s si co) (si + 1) 4 = (S2 s (si + 1) (nco s co), nmask co) := by
  obtain ⟨a, b, c, d⟩ := free_S2 s si co
  have r1 : runsB (S2 s si co 1) = true := rfl
  have r2 : runsB (S2 s si co 2) = false := rfl
  have r3 : runsB (S2 s si co 3) = false := rfl
  have c1 : (S2 s si co 1).co = co := rfl
  have f0 : fireF (S2 s si co) (si + 1) 0 = (S2 s si co, 0) := rfl
  have f1 : fireF (S2 s si co) (si + 1) 1 = (upd (S2 s si co) 0 ⟨65535, 128, 65535, si + 1⟩, 1) := by
    unfold fireF
    rw [f0]
    dsimp only
    rw [a, if_pos rfl, due_S2, if_pos rfl]; rfl
  have f2 : fireF (S2 s si co) (si + 1) 2 = (S2 s (si + 1) (nco s co), nmask co) := by
    unfold fireF
    rw [f1]
    dsimp only
    rw [b, if_neg (by decide), r1, if_pos (by decide), c1]
    unfold nco nmask
    have e : ∀ o, upd (upd (S2 s si co) 0 ⟨65535, 128, 65535, si + 1⟩) 1 o = upd (upd Z 0 ⟨65535, 128, 65535, si + 1⟩) 1 o := fun o => by
      funext k
      unfold S2 upd
      by_cases h1 : k = 1
      · rw [if_pos h1, if_pos h1]
      · rw [if_neg h1, if_neg h1, if_neg h1]
        by_cases h0 : k = 0
        · rw [if_pos h0, if_pos h0]
        · rw [if_neg h0, if_neg h0, if_neg h0]
    by_cases h : co = 65535
    · rw [if_pos h, if_pos h, if_pos h, e]; rfl
    · rw [if_neg h, if_neg h, if_neg h, e]; rfl
  have f3 : fireF (S2 s si co) (si + 1) 3 = (S2 s (si + 1) (nco s co), nmask co) := by
    unfold fireF
    rw [f2]
    dsimp only
    rw [c, if_neg (by decide), r2, if_neg (by simp)]
  unfold fireF
  rw [f3]
  dsimp only
  rw [d, if_neg (by decide), r3, if_neg (by simp)]
theorem ok_S2 (s si co : Int) (s0 : 0 ≤ s) (s1 : s ≤ 65535) (t0 : 0 ≤ si) (t1 : si ≤ 1099511627776) (c0 : 0 ≤ co) (c1 : co ≤ 65535) : ∀ i, i < 4 → Ok (S2 s si co i) ∧ (S2 s si co i).co ≤ 65535 := by
  refine all_ok ?_
  have z : okB zero = true := by decide
  have a : okB ⟨65535, 128, 65535, si⟩ = true := by unfold okB; simp; omega
  have b : okB ⟨s, 132, co, 0⟩ = true := by unfold okB; simp; omega
  rw [S2_0, S2_1, S2_2, S2_3, a, b, z]; rfl
theorem last (s : Int) : upd (upd (upd (upd Z 0 { Z 0 with re := 65535 }) 1 { (upd Z 0 { Z 0 with re := 65535 }) 1 with re := s }) 1 ⟨s, 132, s, 0⟩) 0 ⟨65535, 128, 65535, 0⟩ = S2 s 0 s := by
  funext k
  unfold S2 upd
  by_cases h0 : k = 0
  · subst h0; rfl
  · by_cases h1 : k = 1
    · subst h1; rfl
    · simp [h0, h1]
set_option maxRecDepth 100000 in
set_option maxHeartbeats 4000000 in
theorem chain_law (x n : Int) (h1 : (Lit.int .u32 x).wf = true) (h3 : (Lit.int .i64 n).wf = true) (w : World) :
    Calls Try.prog 5 #[.int .u32 x, .int .i64 n] w fun e w' => e = .returned (.bool true) ∧ Below w.heap.size w w' := by
  obtain ⟨x0, x1⟩ := bounds_u32 h1
  obtain ⟨m, hm, m0, m1⟩ : ∃ m, (wrap64 (n.tmod 200 + 200)).tmod 200 = m ∧ 0 ≤ m ∧ m < 200 := by
    have a := Int.tmod_lt_of_pos n (show (0 : Int) < 200 by decide)
    have b : -200 < n.tmod 200 := by have := Int.lt_tmod_of_pos n (show (0 : Int) < 200 by decide); omega
    refine ⟨_, rfl, ?_, ?_⟩
    · rw [wrap64_id (by omega) (by omega)]; exact Int.tmod_nonneg _ (by omega)
    · exact Int.tmod_lt_of_pos _ (by decide)
  obtain ⟨N, rfl⟩ := Int.eq_ofNat_of_zero_le m0
  obtain ⟨s, hs⟩ : ∃ s, IntKind.u16.wrap x = s := ⟨_, rfl⟩
  have s0 : 0 ≤ s := by rw [← hs, IntKind.wrap_u16]; omega
  have s1 : s ≤ 65535 := by rw [← hs, IntKind.wrap_u16]; omega
  have P1 : ∀ b w, w.heap[b]? = some (tim Z) → Calls Try.prog 13 #[.pointer (some ⟨b, 0, none⟩), .int .i64 0, .int .u16 65535] w fun e w' => e = .returned (.tuple #[]) ∧ Only b (tim (upd Z 0 { Z 0 with re := 65535 })) w w' := fun b w h => setReload_any b 0 Z (by decide) 65535 (by decide) (by decide) w h
  have P2 : ∀ b w, w.heap[b]? = some (tim (upd Z 0 { Z 0 with re := 65535 })) → Calls Try.prog 13 #[.pointer (some ⟨b, 0, none⟩), .int .i64 1, .int .u16 s] w fun e w' => e = .returned (.tuple #[]) ∧ Only b (tim (upd (upd Z 0 { Z 0 with re := 65535 }) 1 { (upd Z 0 { Z 0 with re := 65535 }) 1 with re := s })) w w' := fun b w h => setReload_any b 1 _ (by decide) s s0 (by omega) w h
  have P3 : ∀ b w, w.heap[b]? = some (tim (upd (upd Z 0 { Z 0 with re := 65535 }) 1 { (upd Z 0 { Z 0 with re := 65535 }) 1 with re := s })) → Calls Try.prog 14 #[.pointer (some ⟨b, 0, none⟩), .int .i64 1, .int .i64 0, .int .u16 132] w fun e w' => e = .returned (.tuple #[]) ∧ Only b (tim (upd (upd (upd Z 0 { Z 0 with re := 65535 }) 1 { (upd Z 0 { Z 0 with re := 65535 }) 1 with re := s }) 1 ⟨s, 132, s, 0⟩)) w w' := fun b w h => by
    refine (setControl_any b 1 _ (by decide) ⟨s0, s1, Int.le_refl 0, (by decide : (0 : Int) < 65536), Int.le_refl 0, (by decide : (0 : Int) ≤ 65536), Int.le_refl 0, (by decide : (0 : Int) ≤ 1099511627776)⟩ 0 132 (by decide) (by decide) 132 (by decide) (by decide) (by decide) w h).mono fun e w' hh => ⟨hh.1, hh.2.to ?_⟩
    have z : setC (upd (upd Z 0 { Z 0 with re := 65535 }) 1 { (upd Z 0 { Z 0 with re := 65535 }) 1 with re := s }) 1 0 132 = ⟨s, 132, s, 0⟩ := by
      unfold setC
      rw [show Go.bits .and .u16 132 199 = 132 by decide]
      rfl
    rw [z]
  have P4 : ∀ b w, w.heap[b]? = some (tim (upd (upd (upd Z 0 { Z 0 with re := 65535 }) 1 { (upd Z 0 { Z 0 with re := 65535 }) 1 with re := s }) 1 ⟨s, 132, s, 0⟩)) → Calls Try.prog 14 #[.pointer (some ⟨b, 0, none⟩), .int .i64 0, .int .i64 0, .int .u16 128] w fun e w' => e = .returned (.tuple #[]) ∧ Only b (tim (S2 s 0 s)) w w' := fun b w h => by
    refine (setControl_any b 0 _ (by decide) ⟨(by decide : (0 : Int) ≤ 65535), (by decide : (65535 : Int) ≤ 65535), Int.le_refl 0, (by decide : (0 : Int) < 65536), Int.le_refl 0, (by decide : (0 : Int) ≤ 65536), Int.le_refl 0, (by decide : (0 : Int) ≤ 1099511627776)⟩ 0 128 (by decide) (by decide) 128 (by decide) (by decide) (by decide) w h).mono fun e w' hh => ⟨hh.1, hh.2.to ?_⟩
    have z : setC (upd (upd (upd Z 0 { Z 0 with re := 65535 }) 1 { (upd Z 0 { Z 0 with re := 65535 }) 1 with re := s }) 1 ⟨s, 132, s, 0⟩) 0 0 128 = ⟨65535, 128, 65535, 0⟩ := by
      unfold setC
      rw [show Go.bits .and .u16 128 199 = 128 by decide]
      rfl
    rw [← last, z]
  have P5 : ∀ si co b w, 0 ≤ si → si ≤ 1000 → 0 ≤ co → co ≤ 65535 → w.heap[b]? = some (tim (S2 s si co)) → Calls Try.prog 12 #[.pointer (some ⟨b, 0, none⟩), .int .i64 (si + 1)] w fun e w' => e = .returned (.tuple #[.int .i64 (si + 1), .int .i64 (nmask co)]) ∧ Only b (tim (S2 s (si + 1) (nco s co))) w w' := fun si co b w a c d f h => by
    have ok := ok_S2 s si co s0 s1 a (by omega) d f
    have := fire_any b _ (fun i hi => (ok i hi).1) (fun i hi => (ok i hi).2) (si + 1) (by rw [next_S2]) (by rw [next_S2]; exact Int.le_refl _) w h
    rw [next_S2] at this
    simp only [fire_S2] at this
    exact this
  have P6 : ∀ si co b w, 0 ≤ si → si ≤ 1001 → 0 ≤ co → co ≤ 65535 → w.heap[b]? = some (tim (S2 s si co)) → Calls Try.prog 16 #[.pointer (some ⟨b, 0, none⟩), .int .i64 1, .int .i64 si] w fun e w' => e = .returned (.int .u16 co) ∧ ∃ n, w' = w.drewN n := fun si co b w a c d f h => by
    have := read_any b 1 _ (by decide) ((ok_S2 s si co s0 s1 a (by omega) d f 1 (by decide)).1) si a (by omega) w h
    have v : valueV (S2 s si co) 1 si % 65536 = co := by
      have : valueV (S2 s si co) 1 si = co := by
        unfold valueV
        rw [(free_S2 s si co).2.1, if_neg (by decide)]; rfl
      rw [this]; omega
    rw [v] at this
    exact this
  have H1 := Lib.hid P1
  have H2 := Lib.hid P2
  have H3 := Lib.hid P3
  have H4 := Lib.hid P4
  have H5 := Lib.hid P5
  have H6 := Lib.hid P6
  clear P1 P2 P3 P4 P5 P6 h1 h3
  go_enter Try.func5, Try.ntmps5
  go_wp2_with fail
  refine (awake_any _).mono ?_
  rintro e w0 ⟨rfl, hb⟩
  have HB := Lib.hid hb
  clear hb
  go_wp2_with fail
  refine (new_any _).mono ?_
  rintro e w' ⟨rfl, rfl⟩
  go_wp2_with fail
  refine (H1.out _ _ (alloc_new _ _)).mono ?_
  rintro e w1 ⟨rfl, o1⟩
  have O1 := Lib.hid o1
  clear o1
  go_wp2_with fail
  refine (H2.out _ _ O1.out.at_).mono ?_
  rintro e w2 ⟨rfl, o2⟩
  have O2 := Lib.hid (O1.out.trans o2)
  clear o2 O1
  go_wp2_with fail
  refine (H3.out _ _ O2.out.at_).mono ?_
  rintro e w3 ⟨rfl, o3⟩
  have O3 := Lib.hid (O2.out.trans o3)
  clear o3 O2
  go_wp2_with fail
  refine (H4.out _ _ O3.out.at_).mono ?_
  rintro e w4 ⟨rfl, o4⟩
  have O4 := Lib.hid (O3.out.trans o4)
  clear o4 O3
  go_wp2_with fail
  have hB2 : Below w.heap.size w w4 := below_only (HB.out.alloc HB.out.size _) O4.out HB.out.size (by have := HB.out.size; simp; omega)
  have hz0 := HB.out.size
  have hs2 := Lib.hid O4.out.at_
  clear O4 HB H1 H2 H3 H4
  generalize hBB : w0.heap.size = BB at *
  clear hBB
  have HX := Lib.hid hs
  clear hm
  go_loopw [6, 7] (fun c i wr => ∃ (k : Nat) (co : Int), k ≤ N ∧ i = .int .i64 ((k : Int) + 1) ∧ c = .int .i64 co ∧ 0 ≤ co ∧ co ≤ 65535 ∧ Below w.heap.size w wr ∧ Hid (wr.heap[BB]? = some (tim (S2 s k co)))) (fun _ i _ => N + 1 - (intOf i).toNat)
  case atStart => exact ⟨0, s, by omega, rfl, rfl, s0, s1, hB2, hs2⟩
  case round =>
    clear hB2 hs2
    obtain ⟨k, co, hk, rfl, rfl, c0, c1, hb, hs'⟩ := hrel
    by_cases hkn : k < N
    · have l0 : decide ((k : Int) + 1 ≤ (N : Int)) = true := decide_eq_true (by omega)
      have kp : 0 ≤ (k : Int) := by omega
      have kq : (k : Int) ≤ 1000 := by omega
      have kc : ((k + 1 : Nat) : Int) = (k : Int) + 1 := by omega
      have KC := Lib.hid kc
      have G5 := H5.out (k : Int) co BB
      by_cases h : co = 65535
      · have n1 : nco s co = s := if_pos h
        have n2 : nmask co = 3 := if_pos h
        rw [n1, n2] at G5
        have G5H := Lib.hid G5
        clear G5 n1 n2 kc
        subst h
        go_wp2_with fail
        refine (G5H.out _ kp kq c0 c1 hs'.out).mono ?_
        rintro e w5 ⟨rfl, o5⟩
        have O5 := Lib.hid o5
        clear o5
        go_wp2_with (go_at_call 16; refine (H6.out ((k : Int) + 1) s BB _ (by omega) (by omega) s0 s1 O5.out.at_).mono ?_; rintro e w6 ⟨rfl, n6, rfl⟩)
        go_roundw
        case rel =>
          refine ⟨k + 1, s, by omega, by go_num, by first | rfl | (rw [HX.out]), s0, s1, below_dn (below_only hb O5.out hz0 hb.size) _, Lib.hid ?_⟩
          rw [KC.out]
          exact O5.out.at_
        case measure => simp [intOf]; omega
      · have n1 : nco s co = co + 1 := if_neg h
        have n2 : nmask co = 1 := if_neg h
        rw [n1, n2] at G5
        have G5H := Lib.hid G5
        have ce : (co + 1 == 65536) = false := by simp; omega
        have h' : co + 1 ≤ 65535 := by omega
        clear G5 n1 n2 kc hs h
        go_wp2_with fail
        refine (G5H.out _ kp kq c0 c1 hs'.out).mono ?_
        rintro e w5 ⟨rfl, o5⟩
        have O5 := Lib.hid o5
        clear o5
        go_wp2_with (go_at_call 16; refine (H6.out ((k : Int) + 1) (co + 1) BB _ (by omega) (by omega) (by omega) (by omega) O5.out.at_).mono ?_; rintro e w6 ⟨rfl, n6, rfl⟩)
        go_roundw
        case rel =>
          refine ⟨k + 1, co + 1, by omega, by go_num, rfl, by omega, by omega, below_dn (below_only hb O5.out hz0 hb.size) _, Lib.hid ?_⟩
          rw [KC.out]
          exact O5.out.at_
        case measure => simp [intOf]; omega
    · obtain rfl : k = N := by omega
      have l0 : decide ((k : Int) + 1 ≤ (k : Int)) = false := decide_eq_false (by omega)
      go_wp2
      go_ret
      exact ⟨rfl, hb⟩
end Go.Proofs.Ytkbjjkolhhmafaa.Td
