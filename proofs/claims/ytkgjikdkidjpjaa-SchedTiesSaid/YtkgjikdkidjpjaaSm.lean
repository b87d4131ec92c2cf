/- SchedTies, walked. -/
import Derived.Test.YtkgjikdkidjpjaaSk
import Derived.ChangeKeysEq
import Derived.Laws.StructEq
namespace Go.Proofs.Ytkgjikdkidjpjaa.Sm
set_option linter.unusedVariables false
set_option linter.unusedSimpArgs false
open Go.RowKit Go.Proofs.Ytkgjikdkidjpjaa.Wk Go.Proofs.Ytkgjikdkidjpjaa.Sp Go.Proofs.Ytkgjikdkidjpjaa.Sa Go.Proofs.Ytkgjikdkidjpjaa.Sb Go.Proofs.Ytkgjikdkidjpjaa.Sc Go.Proofs.Ytkgjikdkidjpjaa.Sd Go.Proofs.Ytkgjikdkidjpjaa.Se Go.Proofs.Ytkgjikdkidjpjaa.Sf Go.Proofs.Ytkgjikdkidjpjaa.Sk

theorem isMin_some {w : World} {B sb : Nat} {now turn : Int} {v : Value} {L : List Ent} (h : St w B sb now turn v L) (h0 : 0 < L.length) : ∃ m, isMin L m := by
  obtain ⟨l, R, p, H⟩ := h.rep
  exact ⟨_, heap_isMin p H (by rw [p.length_eq]; exact h0)⟩
def Lof (t : Int) (ks : Nat → Int) (n : Nat) : List Ent := (List.range n).map fun i => (t, ks i, (i : Int))
theorem Lof_succ (t : Int) (ks : Nat → Int) (n : Nat) : Lof t ks (n + 1) = Lof t ks n ++ [(t, ks n, (n : Int))] := by simp [Lof, List.range_succ]
theorem Lof_length (t : Int) (ks : Nat → Int) (n : Nat) : (Lof t ks n).length = n := by simp [Lof]
theorem Lof_mem {t : Int} {ks : Nat → Int} {n : Nat} {e : Ent} : e ∈ Lof t ks n ↔ ∃ i, i < n ∧ e = (t, ks i, (i : Int)) := by
  unfold Lof
  rw [List.mem_map]
  constructor
  · rintro ⟨i, hi, rfl⟩; exact ⟨i, List.mem_range.1 hi, rfl⟩
  · rintro ⟨i, hi, rfl⟩; exact ⟨i, List.mem_range.2 hi, rfl⟩
theorem Lof_nodup (t : Int) (ks : Nat → Int) (n : Nat) : (Lof t ks n).Nodup := by
  unfold Lof
  rw [List.nodup_iff_pairwise_ne, List.pairwise_map]
  refine List.Pairwise.imp (fun {a b} h => ?_) (List.nodup_iff_pairwise_ne.1 (List.nodup_range (n := n)))
  intro e
  have : (a : Int) = (b : Int) := congrArg (fun x : Ent => x.2.2) e
  exact h (by omega)
/-- What is left when the kinds below are gone, and of this one the first p. -/
def rem (t : Int) (ks : Nat → Int) (n : Nat) (kind p : Int) : List Ent := (Lof t ks n).filter fun e => decide (kind < e.2.1 ∨ (e.2.1 = kind ∧ p ≤ e.2.2))
theorem rem_mem {t : Int} {ks : Nat → Int} {n : Nat} {kind p : Int} {e : Ent} : e ∈ rem t ks n kind p ↔ (∃ i, i < n ∧ e = (t, ks i, (i : Int))) ∧ (kind < e.2.1 ∨ (e.2.1 = kind ∧ p ≤ e.2.2)) := by
  unfold rem
  rw [List.mem_filter, Lof_mem, decide_eq_true_eq]
theorem rem_congr {t : Int} {ks : Nat → Int} {n : Nat} {k p k' p' : Int} (h : ∀ i, i < n → ((k < ks i ∨ (ks i = k ∧ p ≤ (i : Int))) ↔ (k' < ks i ∨ (ks i = k' ∧ p' ≤ (i : Int))))) : rem t ks n k p = rem t ks n k' p' := by
  unfold rem
  refine List.filter_congr fun e he => ?_
  obtain ⟨i, hi, rfl⟩ := Lof_mem.1 he
  exact decide_eq_decide.2 (h i hi)
theorem rem_zero {t : Int} {ks : Nat → Int} {n : Nat} (h : ∀ i, i < n → 0 ≤ ks i) : rem t ks n 0 0 = Lof t ks n := by
  unfold rem
  refine List.filter_eq_self.2 fun e he => ?_
  obtain ⟨i, hi, rfl⟩ := Lof_mem.1 he
  have := h i hi
  rw [decide_eq_true_eq]
  dsimp only
  omega
theorem rem_end {t : Int} {ks : Nat → Int} {n : Nat} (h : ∀ i, i < n → ks i < 3) : rem t ks n 3 0 = [] := by
  unfold rem
  refine List.filter_eq_nil_iff.2 fun e he => ?_
  obtain ⟨i, hi, rfl⟩ := Lof_mem.1 he
  have := h i hi
  rw [decide_eq_true_eq]
  dsimp only
  omega
theorem rem_min {t : Int} {ks : Nat → Int} {n : Nat} {kind : Int} {p : Nat} (hp : p < n) (hk : ks p = kind) : isMin (rem t ks n kind p) (t, kind, (p : Int)) := by
  refine ⟨rem_mem.2 ⟨⟨p, hp, by rw [hk]⟩, .inr ⟨rfl, Int.le_refl _⟩⟩, fun e he => ?_⟩
  obtain ⟨⟨i, hi, rfl⟩, h⟩ := rem_mem.1 he
  unfold lt
  dsimp only at *
  omega
theorem rem_erase {t : Int} {ks : Nat → Int} {n : Nat} {kind : Int} {p : Nat} (hp : p < n) (hk : ks p = kind) : (rem t ks n kind p).erase (t, kind, (p : Int)) = rem t ks n kind (p + 1) := by
  have nd : (rem t ks n kind p).Nodup := (Lof_nodup t ks n).sublist List.filter_sublist
  rw [nd.erase_eq_filter]
  unfold rem
  rw [List.filter_filter]
  refine List.filter_congr fun e he => ?_
  obtain ⟨i, hi, rfl⟩ := Lof_mem.1 he
  rw [Bool.eq_iff_iff]
  simp only [Bool.and_eq_true, decide_eq_true_eq, bne_iff_ne, ne_eq, Prod.mk.injEq, not_and]
  constructor
  · rintro ⟨h1, h2⟩
    rcases h2 with h2 | ⟨h2, h3⟩
    · exact .inl h2
    · refine .inr ⟨h2, ?_⟩
      have := h1 trivial h2
      omega
  · intro h
    refine ⟨fun _ h2 h3 => ?_, ?_⟩ <;> omega
theorem rem_skip {t : Int} {ks : Nat → Int} {n : Nat} {kind : Int} {p : Nat} (hk : ks p ≠ kind) : rem t ks n kind p = rem t ks n kind (p + 1) :=
  rem_congr fun i hi => by
    by_cases e : i = p
    · subst e; omega
    · omega
theorem rem_next {t : Int} {ks : Nat → Int} {n : Nat} {kind : Int} : rem t ks n kind n = rem t ks n (kind + 1) 0 := rem_congr fun i hi => by omega
def kd (x : Int) : Int := Int.tmod x 3 % 3
theorem kd01 (x : Int) : 0 ≤ kd x ∧ kd x < 3 := by unfold kd; omega
theorem tm3 (x : Int) : -3 < Int.tmod x 3 ∧ Int.tmod x 3 < 3 := by
  have a := Int.tmod_lt_of_pos x (show (0 : Int) < 3 by decide)
  have b := Int.lt_tmod_of_pos x (show (0 : Int) < 3 by decide)
  omega
theorem same2 (a b : Int) (w : World) : (Op.equalIn 10000 28 (.agg #[.int .i64 a, .int .i64 b]) (.agg #[.int .i64 a, .int .i64 b])).run Try.prog w = .ok true w := by
  rw [run_equalIn_agg (P := Try.prog) w 9999 28 _ _ (by kernel_rfl) (by kernel_rfl)]
  go_simp
set_option maxHeartbeats 1000000 in
theorem ties_law (A : Option Addr) (n cap : Nat) (f0 : Nat → Int) (t : Int) (w : World) (hc : n ≤ cap) (hm : cap ≤ maxLen)
    (he : Elts w A n 1 (fun i => [.int .i64 (f0 i)])) (hf : ∀ i, i < n → (Lit.int .i64 (f0 i)).wf = true ∧ True) (ht : (Lit.int .i64 t).wf = true) :
    Calls Try.prog 4 #[.slice A n cap, .int .i64 t] w fun e w' => e = .returned (.bool true) ∧ Below w.heap.size w w' := by
  unfold maxLen at hm
  have HE := Lib.hid he
  clear he hf ht
  go_enter Try.func4, Try.ntmps4
  go_wp2_with fail
  refine (awake_any _).mono ?_
  rintro e w0 ⟨rfl, hb0⟩
  have HB0 := Lib.hid hb0
  by_cases g : 16 < n ∨ t < 0 ∨ 1099511627776 < t
  · have g' : (decide ((16 : Int) < (n : Int)) = true) ∨ (decide ((16 : Int) < (n : Int)) = false ∧ decide (t < 0) = true) ∨ (decide ((16 : Int) < (n : Int)) = false ∧ decide (t < 0) = false ∧ decide (1099511627776 < t) = true) := by
      simp only [decide_eq_true_eq, decide_eq_false_iff_not]; omega
    clear g hb0
    rcases g' with u | ⟨u, u1⟩ | ⟨u, u1, u2⟩
    all_goals
      go_wp2
      go_ret
      exact ⟨rfl, HB0.out⟩
  · have n16 : n ≤ 16 := by omega
    have t0 : 0 ≤ t := by omega
    have t1 : t ≤ 1099511627776 := by omega
    have u0 : decide ((16 : Int) < (n : Int)) = false := by simp; omega
    have u1 : decide (t < 0) = false := by simp; omega
    have u2 : decide (1099511627776 < t) = false := by simp; omega
    clear g
    go_wp2_with fail
    refine (new_any _).mono ?_
    rintro e w1 ⟨rfl, rfl⟩
    have S := st_new w0 w.heap.size hb0.size
    have hb := below_then hb0 (bl w0 (.cells #[.int .i64 0, .int .i64 0, .slice none 0 0] 54)) hb0.size
    generalize w0.alloc (.cells #[.int .i64 0, .int .i64 0, .slice none 0 0] 54) = w1 at *
    generalize w0.heap.size = sb at *
    have SH := Lib.hid S
    have HB := Lib.hid hb
    clear S hb hb0 HB0
    go_wp2_with fail
    go_loopw [31] (fun iv wr => ∃ (j : Nat) (v : Value), iv = .int .i64 j ∧ j ≤ n ∧ St wr w.heap.size sb 0 j v (Lof t (fun i => kd (f0 i)) j) ∧ Below w.heap.size w wr) (fun iv _ => n - (intOf iv).toNat)
    case atStart => exact ⟨0, _, rfl, by omega, SH.out, HB.out⟩
    case round =>
      obtain ⟨j, v, rfl, hj, S, hb⟩ := hrel
      by_cases hlt : j < n
      · obtain ⟨a, rfl, hal, hcl⟩ := HE.out.cells hb hlt
        have c0 : wr.cell? (a.add j) = some (.int .i64 (f0 j)) := by have := hcl 0 (by decide); simpa [cellAt] using this
        obtain ⟨m0, m1⟩ := tm3 (f0 j)
        have P := Lib.hid (add_ok S t (Int.tmod (f0 j) 3 % 3) (by unfold bad; omega) (by rw [Lof_length]; omega) (by omega))
        have tt : decide ((j : Int) < (n : Int)) = true := by simpa using hlt
        have SH := Lib.hid S
        have HB := Lib.hid hb
        have LE : Hid (Lof t (fun i => kd (f0 i)) j ++ [(t, Int.tmod (f0 j) 3 % 3, (j : Int))] = Lof t (fun i => kd (f0 i)) (j + 1)) := Lib.hid (Lof_succ _ _ _).symm
        generalize f0 j = x at *
        clear S hb hcl
        go_wp2_with fail
        refine P.out.mono ?_
        rintro e w2 ⟨rfl, v2, S2, T2⟩
        rw [LE.out] at S2
        have S2H := Lib.hid S2
        have HB2 := Lib.hid (SH.out.bel T2 HB.out)
        clear S2 T2
        go_wp2_with fail
        go_roundw
        case rel => exact ⟨j + 1, v2, by go_num, by omega, by have := S2H.out; exact_mod_cast this, HB2.out⟩
        case measure => simp [intOf]; omega
      · have hj' : j = n := by omega
        subst hj'
        have tt : decide ((j : Int) < (j : Int)) = false := by simp
        have SH := Lib.hid S
        have HB := Lib.hid hb
        clear S hb
        by_cases tz : t = 0
        · subst tz
          by_cases j0 : j = 0
          · subst j0
            have D := Lib.hid (due_none (SH.out : St wr w.heap.size sb 0 ((0 : Nat) : Int) v []))
            go_wp2_with fail
            refine D.out.mono ?_
            rintro e w2 ⟨rfl, hb2⟩
            have HB2 := Lib.hid (below_then (below_then HB.out hb2 HB.out.size) (bl w2 (.cells #[.int .i64 0, .int .i64 0] 28)) (below_then HB.out hb2 HB.out.size).size)
            clear hb2
            go_wp2_with fail
            go_ret
            exact ⟨rfl, HB2.out⟩
          · obtain ⟨m, hm⟩ := isMin_some SH.out (by rw [Lof_length]; omega)
            have m0 : m.1 = 0 := by
              obtain ⟨i, hi, rfl⟩ := Lof_mem.1 hm.1
              rfl
            have D := Lib.hid (due_some SH.out m hm (by omega))
            have l0 : decide ((0 : Int) < (j : Int)) = true := by simp; omega
            have l1 : 0 < j := by omega
            have M0 := Lib.hid m0
            clear hm m0
            generalize m.1 = m1 at *
            generalize m.2.1 = m2 at *
            go_wp2_with fail
            refine D.out.mono ?_
            rintro e w2 ⟨rfl, v2, S2, T2⟩
            have hb2 := SH.out.bel T2 HB.out
            have HB2 := Lib.hid (below_then hb2 (bl w2 (.cells #[.int .i64 m1, .int .i64 m2] 28)) hb2.size)
            clear S2 T2 hb2
            go_wp2_with fail
            go_ret
            exact ⟨rfl, HB2.out⟩
        · have D : Hid (Calls Try.prog 14 #[.pointer (some ⟨sb, 0, none⟩)] wr fun e w' => e = .returned (.tuple #[.agg #[.int .i64 0, .int .i64 0], .bool false]) ∧ Below wr.heap.size wr w') := Lib.hid (by
            by_cases j0 : j = 0
            · subst j0
              exact due_none (SH.out : St wr w.heap.size sb 0 ((0 : Nat) : Int) v [])
            · obtain ⟨m, hm⟩ := isMin_some SH.out (by rw [Lof_length]; omega)
              have m0 : m.1 = t := by
                obtain ⟨i, hi, rfl⟩ := Lof_mem.1 hm.1
                rfl
              exact due_later SH.out m hm (by omega))
          have tz' : (t == 0) = false := by simpa using tz
          have TZ := Lib.hid tz
          clear tz
          go_wp2_with fail
          refine D.out.mono ?_
          rintro e w2 ⟨rfl, hb2⟩
          have S3 := (SH.out.below hb2).below (bl w2 (.cells #[.int .i64 0, .int .i64 0] 28))
          have hb3 := below_then (below_then HB.out hb2 HB.out.size) (bl w2 (.cells #[.int .i64 0, .int .i64 0] 28)) (below_then HB.out hb2 HB.out.size).size
          have S3H := Lib.hid S3
          have HB3 := Lib.hid hb3
          clear S3 hb3 hb2 D
          go_wp2_with fail
          generalize w2.alloc (.cells #[.int .i64 0, .int .i64 0] 28) = w3 at *
          refine (pass_ok S3H.out t (by omega) (by omega)).mono ?_
          rintro e w4 ⟨rfl, S4, T4⟩
          rw [Int.zero_add, ← rem_zero (fun i _ => (kd01 (f0 i)).1)] at S4
          have S4H := Lib.hid S4
          have HB4 := Lib.hid (S3H.out.bel T4 HB3.out)
          clear S4 T4
          go_wp2_with fail
          go_loopw [65] (fun kv wx => ∃ (kk : Nat) (v : Value), kv = .int .i64 kk ∧ kk ≤ 3 ∧ St wx w.heap.size sb t j v (rem t (fun i => kd (f0 i)) j kk 0) ∧ Below w.heap.size w wx) (fun kv _ => 3 - (intOf kv).toNat)
          case atStart => exact ⟨0, _, rfl, by omega, S4H.out, HB4.out⟩
          case round =>
            obtain ⟨kk, v5, rfl, hkk, S5, hb5⟩ := hrel
            have S5H := Lib.hid S5
            have HB5 := Lib.hid hb5
            clear S5 hb5
            by_cases k3 : kk < 3
            · have tk : decide ((kk : Int) < 3) = true := by simp; omega
              obtain ⟨wo, rfl⟩ : ∃ wo : World, wo = wr := ⟨_, rfl⟩
              go_wp2_with fail
              go_loopw [70] (fun pv wy => ∃ (p : Nat) (v : Value), pv = .int .i64 p ∧ p ≤ j ∧ St wy w.heap.size sb t j v (rem t (fun i => kd (f0 i)) j kk p) ∧ Below w.heap.size w wy) (fun pv _ => j - (intOf pv).toNat)
              case atStart => exact ⟨0, v5, rfl, by omega, S5H.out, HB5.out⟩
              case round =>
                obtain ⟨p, v6, rfl, hp, S6, hb6⟩ := hrel
                by_cases pj : p < j
                · obtain ⟨a, rfl, hal, hcl⟩ := HE.out.cells hb6 pj
                  have c0 : wr.cell? (a.add p) = some (.int .i64 (f0 p)) := by have := hcl 0 (by decide); simpa [cellAt] using this
                  obtain ⟨q0, q1⟩ := tm3 (f0 p)
                  have tp : decide ((p : Int) < (j : Int)) = true := by simpa using pj
                  by_cases hk : kd (f0 p) = (kk : Int)
                  · have kb : (Int.tmod (f0 p) 3 % 3 != (kk : Int)) = false := by
                      have : Int.tmod (f0 p) 3 % 3 = (kk : Int) := hk
                      rw [this]; simp
                    have D := due_some S6 (t, (kk : Int), (p : Int)) (rem_min pj hk) (Int.le_refl _)
                    rw [rem_erase pj hk] at D
                    have DH := Lib.hid D
                    have S6H := Lib.hid S6
                    have HB6 := Lib.hid hb6
                    clear S6 hb6 D hcl hk
                    generalize f0 p = x at *
                    go_wp2_with fail
                    refine DH.out.mono ?_
                    rintro e w7 ⟨rfl, v7, S7, T7⟩
                    have hb7 := S6H.out.bel T7 HB6.out
                    have S8 := Lib.hid (S7.below (bl w7 (.cells #[.int .i64 t, .int .i64 (kk : Int)] 28)))
                    have HB8 := Lib.hid (below_then hb7 (bl w7 (.cells #[.int .i64 t, .int .i64 (kk : Int)] 28)) hb7.size)
                    have EQ := same2 t (kk : Int)
                    clear S7 T7 hb7
                    go_wp2_with fail
                    go_roundw
                    case rel => exact ⟨p + 1, v7, by go_num, by omega, by have := S8.out; exact_mod_cast this, HB8.out⟩
                    case measure => simp [intOf]; omega
                  · have kb : (Int.tmod (f0 p) 3 % 3 != (kk : Int)) = true := by
                      have : Int.tmod (f0 p) 3 % 3 ≠ (kk : Int) := hk
                      simpa using this
                    have S7 := S6
                    rw [rem_skip hk] at S7
                    have S7H := Lib.hid S7
                    have HB6 := Lib.hid hb6
                    clear S6 S7 hb6 hcl hk
                    generalize f0 p = x at *
                    go_wp2_with fail
                    go_roundw
                    case rel => exact ⟨p + 1, v6, by go_num, by omega, by have := S7H.out; exact_mod_cast this, HB6.out⟩
                    case measure => simp [intOf]; omega
                · have pj' : p = j := by omega
                  subst pj'
                  have tp : decide ((p : Int) < (p : Int)) = false := by simp
                  rw [rem_next] at S6
                  have S6H := Lib.hid S6
                  have HB6 := Lib.hid hb6
                  clear S6 hb6
                  go_wp2_with fail
                  go_roundw
                  case rel => exact ⟨kk + 1, v6, by go_num, by omega, by have := S6H.out; exact_mod_cast this, HB6.out⟩
                  case measure => simp [intOf]; omega
            · have tk : decide ((kk : Int) < 3) = false := by simp; omega
              have kk3 : kk = 3 := by omega
              have S6 := S5H.out
              rw [kk3, show ((3 : Nat) : Int) = 3 from rfl, rem_end (fun i _ => (kd01 (f0 i)).2)] at S6
              have L := Lib.hid (slen_any S6)
              clear S6 kk3
              go_wp2_with fail
              refine L.out.mono ?_
              rintro e w' ⟨rfl, rfl⟩
              go_wp2_with fail
              go_ret
              exact ⟨rfl, HB5.out⟩
end Go.Proofs.Ytkgjikdkidjpjaa.Sm
