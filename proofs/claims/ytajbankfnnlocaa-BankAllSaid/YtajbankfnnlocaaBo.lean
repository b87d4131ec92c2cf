/- BankAll, walked. -/
import Derived.Test.YtajbankfnnlocaaBh
namespace Go.Proofs.Ytajbankfnnlocaa.Bo
set_option linter.unusedVariables false
set_option linter.unusedSimpArgs false
open Go.RowKit Go.Proofs.Ytajbankfnnlocaa.Bt Go.Proofs.Ytajbankfnnlocaa.Wk Go.Proofs.Ytajbankfnnlocaa.Sg Go.Proofs.Ytajbankfnnlocaa.Ba Go.Proofs.Ytajbankfnnlocaa.Bb Go.Proofs.Ytajbankfnnlocaa.Bc Go.Proofs.Ytajbankfnnlocaa.Bd Go.Proofs.Ytajbankfnnlocaa.Be Go.Proofs.Ytajbankfnnlocaa.Bf Go.Proofs.Ytajbankfnnlocaa.Bg Go.Proofs.Ytajbankfnnlocaa.Bh

/-! ### plain -/
theorem nb_nat (k : Nat) (h : k < 16) : nb (k : Int) = k := by unfold nb; omega
def mo (k : Nat) : Int := if k = 0 then 17 else if k = 1 then 18 else if k = 2 then 19 else if k = 3 then 23 else if k = 4 then 27 else 31
def md (k : Nat) : Nat := if k < 5 then k + 1 else 0
theorem sl_mo (k : Nat) (h : k < 6) : sl (mo k) = md k := by
  have : k = 0 ∨ k = 1 ∨ k = 2 ∨ k = 3 ∨ k = 4 ∨ k = 5 := by omega
  rcases this with rfl | rfl | rfl | rfl | rfl | rfl <;> rfl
theorem md_inj {a b : Nat} (ha : a < 6) (hb : b < 6) (h : md a = md b) : a = b := by
  unfold md at h
  split at h <;> split at h <;> omega
theorem mo_in (k : Nat) : 0 ≤ mo k ∧ mo k < 4294967296 := by
  unfold mo
  repeat' split
  all_goals omega
def V (s : Int) (k j : Nat) : Int := (s + (100 * (k : Int) + (j : Int))) % 4294967296
def G (s : Int) (j : Nat) : Int := s * ((j : Int) + 1) % 4294967296
def fillA (A : Ab) (m lo hi : Nat) (f : Nat → Int) : Ab := { A with R := fun r c => if r = m ∧ lo ≤ c ∧ c < hi then f c else A.R r c }
theorem fill_nil (A : Ab) (m lo : Nat) (f : Nat → Int) : fillA A m lo lo f = A := by
  unfold fillA
  have : (fun r c => if r = m ∧ lo ≤ c ∧ c < lo then f c else A.R r c) = A.R := by funext r c; rw [if_neg (by omega)]
  rw [this]
theorem fill_succ (A : Ab) (m lo hi : Nat) (f : Nat → Int) (x : Int) (h16 : hi < 16) (hl : lo ≤ hi) (hp : pm (sl A.st) hi = m) (hx : x = f hi) : setAb (fillA A m lo hi f) (nb (hi : Int)) x = fillA A m lo (hi + 1) f := by
  rw [nb_nat hi h16]
  unfold setAb fillA
  dsimp only
  rw [hp]
  congr 1
  funext r c
  unfold upd2
  dsimp only
  by_cases e : r = m ∧ c = hi
  · rw [if_pos e, if_pos (by omega), hx, e.2]
  · rw [if_neg e]
    by_cases g : r = m ∧ lo ≤ c ∧ c < hi
    · rw [if_pos g, if_pos (by omega)]
    · rw [if_neg g, if_neg (by omega)]
structure Inv (s : Int) (k : Nat) (A : Ab) : Prop where
  r3 : ∀ q, q < k → A.R (md q) 13 = V s q 13
  r4 : ∀ q, q < k → A.R (md q) 14 = V s q 14
  sv : ∀ q, q < k → q < 5 → A.S (md q) = Go.bits .xor .u32 s (mo q)
  f : 0 < k → ∀ i, 8 ≤ i → i < 13 → A.R 1 i = V s 0 i
  u : 5 < k → ∀ i, 8 ≤ i → i < 13 → A.R 0 i = V s 5 i
theorem inv_zero (s : Int) (A : Ab) : Inv s 0 A := ⟨fun q h => by omega, fun q h => by omega, fun q h => by omega, fun h => by omega, fun h => by omega⟩
/-- One mode's part but for the high ones. -/
def part (A : Ab) (s : Int) (k : Nat) : Ab := setSavedA (fillA (setStA A (mo k)) (md k) 13 15 (V s k)) (Go.bits .xor .u32 s (mo k))
theorem part_R (A : Ab) (s : Int) (k : Nat) : (part A s k).R = fun r c => if r = md k ∧ 13 ≤ c ∧ c < 15 then V s k c else A.R r c := by
  unfold part setSavedA; split <;> rfl
theorem part_S (A : Ab) (s : Int) (k : Nat) (h : k < 6) : (part A s k).S = if md k = 0 then A.S else upd A.S (md k) (Go.bits .xor .u32 s (mo k)) := by
  unfold part setSavedA
  have : (fillA (setStA A (mo k)) (md k) 13 15 (V s k)).st = mo k := rfl
  rw [this, sl_mo k h]
  split <;> rfl
theorem part_st (A : Ab) (s : Int) (k : Nat) : (part A s k).st = mo k := by
  unfold part setSavedA; split <;> rfl
theorem inv_part {s : Int} {k : Nat} {A : Ab} (h : Inv s k A) (hk : k < 6) (k0 : 0 < k) (k5 : k < 5) : Inv s (k + 1) (part A s k) where
  r3 := fun q hq => by
    rw [part_R]
    by_cases e : q = k
    · subst e; exact if_pos ⟨rfl, by decide, by decide⟩
    · exact (if_neg fun x => e (md_inj (by omega) (by omega) x.1)).trans (h.r3 q (by omega))
  r4 := fun q hq => by
    rw [part_R]
    by_cases e : q = k
    · subst e; exact if_pos ⟨rfl, by decide, by decide⟩
    · exact (if_neg fun x => e (md_inj (by omega) (by omega) x.1)).trans (h.r4 q (by omega))
  sv := fun q hq h5 => by
    rw [part_S A s k hk]
    have mk : md k ≠ 0 := by unfold md; split <;> omega
    rw [if_neg mk]
    by_cases e : q = k
    · subst e; exact upd_same _ _ _
    · rw [upd_ne _ _ (fun x => e (md_inj (by omega) (by omega) x))]
      exact h.sv q (by omega) h5
  f := fun _ i a b => by
    rw [part_R]
    exact (if_neg (by omega)).trans (h.f k0 i a b)
  u := fun x => by omega
theorem inv_high {s : Int} {k : Nat} {A : Ab} (h : Inv s k A) (hk : k = 0 ∨ k = 5) : Inv s (k + 1) (fillA (part A s k) (md k) 8 13 (V s k)) where
  r3 := fun q hq => by
    show (if md q = md k ∧ 8 ≤ 13 ∧ 13 < 13 then V s k 13 else (part A s k).R (md q) 13) = _
    rw [if_neg (by omega), part_R]
    by_cases e : q = k
    · subst e; exact if_pos ⟨rfl, by decide, by decide⟩
    · exact (if_neg fun x => e (md_inj (by omega) (by omega) x.1)).trans (h.r3 q (by omega))
  r4 := fun q hq => by
    show (if md q = md k ∧ 8 ≤ 14 ∧ 14 < 13 then V s k 14 else (part A s k).R (md q) 14) = _
    rw [if_neg (by omega), part_R]
    by_cases e : q = k
    · subst e; exact if_pos ⟨rfl, by decide, by decide⟩
    · exact (if_neg fun x => e (md_inj (by omega) (by omega) x.1)).trans (h.r4 q (by omega))
  sv := fun q hq h5 => by
    show (part A s k).S (md q) = _
    rw [part_S A s k (by omega)]
    rcases hk with rfl | rfl
    · obtain rfl : q = 0 := by omega
      rw [if_neg (by decide)]
      exact upd_same _ _ _
    · rw [if_pos (by decide)]
      exact h.sv q (by omega) h5
  f := fun _ i a b => by
    show (if 1 = md k ∧ 8 ≤ i ∧ i < 13 then V s k i else (part A s k).R 1 i) = _
    rcases hk with rfl | rfl
    · exact if_pos ⟨rfl, a, b⟩
    · rw [if_neg (by intro x; exact absurd x.1 (by decide)), part_R]
      exact (if_neg (by omega)).trans (h.f (by omega) i a b)
  u := fun x i a b => by
    obtain rfl : k = 5 := by omega
    exact if_pos ⟨rfl, a, b⟩
/-- What is found at last. -/
structure Fine (s : Int) (A : Ab) : Prop where
  i : Inv s 6 A
  g : ∀ j, j < 8 → A.R 0 j = G s j
theorem fine_of {s : Int} {A : Ab} (h : Inv s 6 A) : Fine s (fillA A 0 0 8 (G s)) where
  i := by
    have z : ∀ r c, 8 ≤ c → (fillA A 0 0 8 (G s)).R r c = A.R r c := fun r c hc => if_neg (by omega)
    exact ⟨fun q hq => by rw [z _ _ (by decide)]; exact h.r3 q hq, fun q hq => by rw [z _ _ (by decide)]; exact h.r4 q hq, h.sv, fun a i b c => by rw [z _ _ b]; exact h.f a i b c, fun a i b c => by rw [z _ _ b]; exact h.u a i b c⟩
  g := fun j hj => if_pos ⟨rfl, Nat.zero_le _, hj⟩
theorem fine_st {s : Int} {A : Ab} (h : Fine s A) (x : Int) : Fine s (setStA A x) := ⟨⟨h.i.r3, h.i.r4, h.i.sv, h.i.f, h.i.u⟩, h.g⟩
theorem fine13 {s : Int} {A : Ab} (h : Fine s A) (k : Nat) (hk : k < 6) : getA (setStA A (mo k)) (nb 13) = V s k 13 := by
  show A.R (pm (sl (mo k)) 13) 13 = _
  rw [sl_mo k hk]; exact h.i.r3 k hk
theorem fine14 {s : Int} {A : Ab} (h : Fine s A) (k : Nat) (hk : k < 6) : getA (setStA A (mo k)) (nb 14) = V s k 14 := by
  show A.R (pm (sl (mo k)) 14) 14 = _
  rw [sl_mo k hk]; exact h.i.r4 k hk
theorem fineS {s : Int} {A : Ab} (h : Fine s A) (k : Nat) (hk : k < 5) : savedA (setStA A (mo k)) = Go.bits .xor .u32 s (mo k) := by
  unfold savedA
  rw [show sl (setStA A (mo k)).st = md k from sl_mo k (by omega), if_neg (by unfold md; split <;> omega)]
  exact h.i.sv k (by omega) hk
theorem fineU {s : Int} {A : Ab} (h : Fine s A) (x : Int) : (setStA A x).R 0 (nb 13) = V s 5 13 := h.i.r3 5 (by decide)
theorem fineH {s : Int} {A : Ab} (h : Fine s A) (k : Nat) (hk : k < 6) (i : Nat) (h8 : 8 ≤ i) (h13 : i < 13) : getA (setStA A (mo k)) (nb (i : Int)) = if k = 0 then V s 0 i else V s 5 i := by
  rw [nb_nat i (by omega)]
  show A.R (pm (sl (mo k)) i) i = _
  rw [sl_mo k hk]
  by_cases e : k = 0
  · subst e
    rw [if_pos rfl, show pm (md 0) i = 1 from by unfold pm; rw [if_pos (.inr (.inr ⟨h8, by omega, rfl⟩))]; rfl]
    exact h.i.f (by decide) i h8 h13
  · rw [if_neg e, show pm (md k) i = 0 from by unfold pm; rw [if_neg]; intro x; unfold md at x; split at x <;> omega]
    exact h.i.u (by decide) i h8 h13
theorem fineUH {s : Int} {A : Ab} (h : Fine s A) (x : Int) (i : Nat) (h8 : 8 ≤ i) (h13 : i < 13) : (setStA A x).R 0 (nb (i : Int)) = V s 5 i := by
  rw [nb_nat i (by omega)]; exact h.i.u (by decide) i h8 h13
theorem fineL {s : Int} {A : Ab} (h : Fine s A) (x : Int) (i : Nat) (h8 : i < 8) : getA (setStA A x) (nb (i : Int)) = G s i := by
  rw [nb_nat i (by omega)]
  show A.R (pm (sl x) i) i = _
  rw [show pm (sl x) i = 0 from if_neg (by omega)]
  exact h.g i h8
/-! ### the walk -/
def M : Obj := .cells #[.int .u32 17, .int .u32 18, .int .u32 19, .int .u32 23, .int .u32 27, .int .u32 31] 22
theorem m_at (k : Nat) (h : k < 6) : (#[.int .u32 17, .int .u32 18, .int .u32 19, .int .u32 23, .int .u32 27, .int .u32 31] : Array Value)[k]? = some (.int .u32 (mo k)) := by
  have : k = 0 ∨ k = 1 ∨ k = 2 ∨ k = 3 ∨ k = 4 ∨ k = 5 := by omega
  rcases this with rfl | rfl | rfl | rfl | rfl | rfl <;> rfl
structure St (w : World) (BB : Nat) (A : Ab) (w' : World) : Prop where
  b : Below w.heap.size w w'
  p : ∃ P, At BB A P w'
  m : w'.heap[BB + 1]? = some M
theorem St.got {w : World} {BB : Nat} {A A' : Ab} {w1 w2 : World} (t : St w BB A w1) (g : Got BB A' w1 w2) (h0 : w.heap.size ≤ BB) : St w BB A' w2 :=
  ⟨Got.below t.b g h0 t.b.size, g.at_, g.keep t.m (by omega)⟩
theorem St.to {w : World} {BB : Nat} {A A' : Ab} {w1 : World} (t : St w BB A w1) (e : A = A') : St w BB A' w1 := e ▸ t
set_option maxRecDepth 100000 in
set_option maxHeartbeats 8000000 in
theorem all_law (s : Int) (hs : (Lit.int .u32 s).wf = true) (w : World) :
    Calls Try.prog 3 #[.int .u32 s] w fun e w' => e = .returned (.bool true) ∧ Below w.heap.size w w' := by
  obtain ⟨s0, s1⟩ := bounds_u32 hs
  clear hs
  go_enter Try.func3, Try.ntmps3
  go_wp2_with fail
  refine (awake_any _).mono ?_
  rintro e w0 ⟨rfl, hb0⟩
  go_wp2_with fail
  refine (new_abs _).mono ?_
  rintro e w1 ⟨rfl, rfl⟩
  go_wp2_with fail
  have hz0 := hb0.size
  have t0 : St w w0.heap.size newA ((w0.alloc (bk newP)).alloc M) := ⟨Below.alloc (Below.alloc hb0 hz0 _) (by simp; omega) _, ⟨newP, at_alloc (new_at w0) M⟩, by have := alloc_new (w0.alloc (bk newP)) M; rw [show (w0.alloc (bk newP)).heap.size = w0.heap.size + 1 by simp] at this; exact this⟩
  have T0 := Lib.hid t0
  unfold M at t0 T0
  clear t0
  generalize (w0.alloc (bk newP)).alloc (.cells #[.int .u32 17, .int .u32 18, .int .u32 19, .int .u32 23, .int .u32 27, .int .u32 31] 22) = w1 at *
  generalize w0.heap.size = BB at *
  clear hb0
  have nn : ∀ x : Int, (x != x) = false := by simp
  go_loopw [21] (fun i wr => ∃ (k : Nat) (A : Ab), k ≤ 6 ∧ i = .int .i64 k ∧ Hid (Inv s k A) ∧ Hid (St w BB A wr)) (fun i _ => 6 - (intOf i).toNat)
  case atStart => exact ⟨0, newA, by omega, rfl, Lib.hid (inv_zero _ _), T0⟩
  case round =>
    clear T0
    obtain ⟨k, A, hk, rfl, hI, hT⟩ := hrel
    obtain ⟨wo, rfl⟩ : ∃ v : World, v = wr := ⟨_, rfl⟩
    by_cases hk6 : k < 6
    · have ki : (k : Int) < 6 := by omega
      have cm : wo.cell? ⟨BB + 1, k, none⟩ = some (.int .u32 (mo k)) := (cellsAt hT.out.m _).trans (m_at k hk6)
      obtain ⟨m0, m1⟩ := mo_in k
      have sm := Lib.hid (sl_mo k hk6)
      obtain ⟨P, hP⟩ := hT.out.p
      have S1 := Lib.hid (setStatus_abs BB (mo k) m0 m1 A P wo hP)
      have dm : (k = 0 ∨ k = 5) ∨ (0 < k ∧ k < 5) := by omega
      have d17 : k = 0 → mo k = 17 := fun h => by subst h; rfl
      have d31 : k = 5 → mo k = 31 := fun h => by subst h; rfl
      have dno : 0 < k ∧ k < 5 → (mo k == 17) = false ∧ (mo k == 31) = false := fun h => by
        have : k = 1 ∨ k = 2 ∨ k = 3 ∨ k = 4 := by omega
        rcases this with rfl | rfl | rfl | rfl <;> exact ⟨rfl, rfl⟩
      have d3 : (mo k == 17) = false ∨ mo k = 17 := by by_cases h : mo k = 17; exact .inr h; exact .inl (by simpa using h)
      have dmH := Lib.hid dm
      have tests : ((mo k == 17) = true ∧ (k = 0 ∨ k = 5)) ∨ ((mo k == 17) = false ∧ (mo k == 31) = true ∧ (k = 0 ∨ k = 5)) ∨ ((mo k == 17) = false ∧ (mo k == 31) = false ∧ 0 < k ∧ k < 5) := by
        rcases dm with (h | h) | h
        · left; exact ⟨by rw [d17 h]; rfl, .inl h⟩
        · right; left; exact ⟨by rw [d31 h]; rfl, by rw [d31 h]; rfl, .inr h⟩
        · right; right; exact ⟨(dno h).1, (dno h).2, h.1, h.2⟩
      have testsH := Lib.hid tests
      have hPH := Lib.hid hP
      clear hP dm d17 d31 dno d3 tests
      rcases testsH.out with ⟨e17, h05⟩ | ⟨e17, e31, h05⟩ | ⟨e17, e31, h0, h5⟩
      · go_wp2_with fail
        refine S1.out.mono ?_
        rintro e w2 ⟨rfl, g2⟩
        have T1 := Lib.hid (hT.out.got g2 hz0)
        clear g2 cm S1 hPH
        go_wp2_with fail
        go_loopw [7] (fun i wr => ∃ j : Nat, 13 ≤ j ∧ j ≤ 15 ∧ i = .int .i64 j ∧ Hid (St w BB (fillA (setStA A (mo k)) (md k) 13 j (V s k)) wr)) (fun i _ => 15 - (intOf i).toNat)
        case atStart => exact ⟨13, by omega, by omega, rfl, by rw [fill_nil]; exact T1⟩
        case round =>
          clear T1
          obtain ⟨j, j0, j1, rfl, hJ⟩ := hrel
          by_cases hj : j < 15
          · obtain ⟨Q, hQ⟩ := hJ.out.p
            have C := Lib.hid (fun x => set_abs BB (j : Int) x _ Q wr hQ)
            clear hQ
            have ji : (j : Int) < 15 := by omega
            go_wp2_with (go_at_call 11; ((with_reducible refine (C.out _).mono ?_); rintro e w2 ⟨rfl, g2⟩))
            have nx := fill_succ (setStA A (mo k)) (md k) 13 j (V s k) _ (by omega) j0 (by
              show pm (sl (mo k)) j = md k
              rw [sm.out]; unfold pm; rw [if_pos (by omega)]) (rfl : V s k j = V s k j)
            unfold V at nx
            go_roundw
            case rel => exact ⟨j + 1, by omega, by omega, by go_num, Lib.hid ((hJ.out.got g2 hz0).to nx)⟩
            case measure => simp [intOf]; omega
          · obtain rfl : j = 15 := by omega
            obtain ⟨Q, hQ⟩ := hJ.out.p
            have C := Lib.hid (fun x => setSaved_abs BB x _ Q wr hQ)
            clear hQ hj j0 j1
            go_wp2_with (go_at_call 12; ((with_reducible refine (C.out _).mono ?_); rintro e w2 ⟨rfl, g2⟩))
            have T2 : Hid (St w BB (part A s k) w2) := Lib.hid (hJ.out.got g2 hz0)
            clear g2 C hJ
            go_loopw [8] (fun i wr => ∃ j : Nat, 8 ≤ j ∧ j ≤ 13 ∧ i = .int .i64 j ∧ Hid (St w BB (fillA (part A s k) (md k) 8 j (V s k)) wr)) (fun i _ => 13 - (intOf i).toNat)
            case atStart => exact ⟨8, by omega, by omega, rfl, by rw [fill_nil]; exact T2⟩
            case round =>
              clear T2
              obtain ⟨j, j0, j1, rfl, hJ⟩ := hrel
              by_cases hj : j < 13
              · obtain ⟨Q, hQ⟩ := hJ.out.p
                have C := Lib.hid (fun x => set_abs BB (j : Int) x _ Q wr hQ)
                clear hQ
                have ji : (j : Int) < 13 := by omega
                go_wp2_with (go_at_call 11; ((with_reducible refine (C.out _).mono ?_); rintro e w2 ⟨rfl, g2⟩))
                have nx := fill_succ (part A s k) (md k) 8 j (V s k) _ (by omega) j0 (by
                  rw [part_st, sm.out]; unfold pm
                  rcases h05 with rfl | rfl
                  · rw [if_pos (by right; right; exact ⟨j0, by omega, rfl⟩)]
                  · rw [if_neg (by intro x; rcases x with x | x | x; omega; omega; exact absurd x.2.2 (by decide))]; rfl) (rfl : V s k j = V s k j)
                unfold V at nx
                go_roundw
                case rel => exact ⟨j + 1, by omega, by omega, by go_num, Lib.hid ((hJ.out.got g2 hz0).to nx)⟩
                case measure => simp [intOf]; omega
              · obtain rfl : j = 13 := by omega
                go_wp2
                go_roundw
                case rel => exact ⟨k + 1, _, by omega, by go_num, Lib.hid (inv_high hI.out h05), hJ⟩
                case measure => simp [intOf]; omega
      · go_wp2_with fail
        refine S1.out.mono ?_
        rintro e w2 ⟨rfl, g2⟩
        have T1 := Lib.hid (hT.out.got g2 hz0)
        clear g2 cm S1 hPH
        go_wp2_with fail
        go_loopw [7] (fun i wr => ∃ j : Nat, 13 ≤ j ∧ j ≤ 15 ∧ i = .int .i64 j ∧ Hid (St w BB (fillA (setStA A (mo k)) (md k) 13 j (V s k)) wr)) (fun i _ => 15 - (intOf i).toNat)
        case atStart => exact ⟨13, by omega, by omega, rfl, by rw [fill_nil]; exact T1⟩
        case round =>
          clear T1
          obtain ⟨j, j0, j1, rfl, hJ⟩ := hrel
          by_cases hj : j < 15
          · obtain ⟨Q, hQ⟩ := hJ.out.p
            have C := Lib.hid (fun x => set_abs BB (j : Int) x _ Q wr hQ)
            clear hQ
            have ji : (j : Int) < 15 := by omega
            go_wp2_with (go_at_call 11; ((with_reducible refine (C.out _).mono ?_); rintro e w2 ⟨rfl, g2⟩))
            have nx := fill_succ (setStA A (mo k)) (md k) 13 j (V s k) _ (by omega) j0 (by
              show pm (sl (mo k)) j = md k
              rw [sm.out]; unfold pm; rw [if_pos (by omega)]) (rfl : V s k j = V s k j)
            unfold V at nx
            go_roundw
            case rel => exact ⟨j + 1, by omega, by omega, by go_num, Lib.hid ((hJ.out.got g2 hz0).to nx)⟩
            case measure => simp [intOf]; omega
          · obtain rfl : j = 15 := by omega
            obtain ⟨Q, hQ⟩ := hJ.out.p
            have C := Lib.hid (fun x => setSaved_abs BB x _ Q wr hQ)
            clear hQ hj j0 j1
            go_wp2_with (go_at_call 12; ((with_reducible refine (C.out _).mono ?_); rintro e w2 ⟨rfl, g2⟩))
            have T2 : Hid (St w BB (part A s k) w2) := Lib.hid (hJ.out.got g2 hz0)
            clear g2 C hJ
            go_loopw [8] (fun i wr => ∃ j : Nat, 8 ≤ j ∧ j ≤ 13 ∧ i = .int .i64 j ∧ Hid (St w BB (fillA (part A s k) (md k) 8 j (V s k)) wr)) (fun i _ => 13 - (intOf i).toNat)
            case atStart => exact ⟨8, by omega, by omega, rfl, by rw [fill_nil]; exact T2⟩
            case round =>
              clear T2
              obtain ⟨j, j0, j1, rfl, hJ⟩ := hrel
              by_cases hj : j < 13
              · obtain ⟨Q, hQ⟩ := hJ.out.p
                have C := Lib.hid (fun x => set_abs BB (j : Int) x _ Q wr hQ)
                clear hQ
                have ji : (j : Int) < 13 := by omega
                go_wp2_with (go_at_call 11; ((with_reducible refine (C.out _).mono ?_); rintro e w2 ⟨rfl, g2⟩))
                have nx := fill_succ (part A s k) (md k) 8 j (V s k) _ (by omega) j0 (by
                  rw [part_st, sm.out]; unfold pm
                  rcases h05 with rfl | rfl
                  · rw [if_pos (by right; right; exact ⟨j0, by omega, rfl⟩)]
                  · rw [if_neg (by intro x; rcases x with x | x | x; omega; omega; exact absurd x.2.2 (by decide))]; rfl) (rfl : V s k j = V s k j)
                unfold V at nx
                go_roundw
                case rel => exact ⟨j + 1, by omega, by omega, by go_num, Lib.hid ((hJ.out.got g2 hz0).to nx)⟩
                case measure => simp [intOf]; omega
              · obtain rfl : j = 13 := by omega
                go_wp2
                go_roundw
                case rel => exact ⟨k + 1, _, by omega, by go_num, Lib.hid (inv_high hI.out h05), hJ⟩
                case measure => simp [intOf]; omega
      · go_wp2_with fail
        refine S1.out.mono ?_
        rintro e w2 ⟨rfl, g2⟩
        have T1 := Lib.hid (hT.out.got g2 hz0)
        clear g2 cm S1 hPH
        go_wp2_with fail
        go_loopw [7] (fun i wr => ∃ j : Nat, 13 ≤ j ∧ j ≤ 15 ∧ i = .int .i64 j ∧ Hid (St w BB (fillA (setStA A (mo k)) (md k) 13 j (V s k)) wr)) (fun i _ => 15 - (intOf i).toNat)
        case atStart => exact ⟨13, by omega, by omega, rfl, by rw [fill_nil]; exact T1⟩
        case round =>
          clear T1
          obtain ⟨j, j0, j1, rfl, hJ⟩ := hrel
          by_cases hj : j < 15
          · obtain ⟨Q, hQ⟩ := hJ.out.p
            have C := Lib.hid (fun x => set_abs BB (j : Int) x _ Q wr hQ)
            clear hQ
            have ji : (j : Int) < 15 := by omega
            go_wp2_with (go_at_call 11; ((with_reducible refine (C.out _).mono ?_); rintro e w2 ⟨rfl, g2⟩))
            have nx := fill_succ (setStA A (mo k)) (md k) 13 j (V s k) _ (by omega) j0 (by
              show pm (sl (mo k)) j = md k
              rw [sm.out]; unfold pm; rw [if_pos (by omega)]) (rfl : V s k j = V s k j)
            unfold V at nx
            go_roundw
            case rel => exact ⟨j + 1, by omega, by omega, by go_num, Lib.hid ((hJ.out.got g2 hz0).to nx)⟩
            case measure => simp [intOf]; omega
          · obtain rfl : j = 15 := by omega
            obtain ⟨Q, hQ⟩ := hJ.out.p
            have C := Lib.hid (fun x => setSaved_abs BB x _ Q wr hQ)
            clear hQ hj j0 j1
            go_wp2_with (go_at_call 12; ((with_reducible refine (C.out _).mono ?_); rintro e w2 ⟨rfl, g2⟩))
            go_roundw
            case rel => exact ⟨k + 1, _, by omega, by go_num, Lib.hid (inv_part hI.out hk6 h0 h5), Lib.hid (hJ.out.got g2 hz0)⟩
            case measure => simp [intOf]; omega
    · have k6 : k = 6 := by omega
      have hF := Lib.hid (fine_of (k6 ▸ hI.out))
      obtain ⟨w3, rfl⟩ : ∃ v : World, v = wo := ⟨_, rfl⟩
      have kd6 : decide ((k : Int) < 6) = false := decide_eq_false (by omega)
      clear hI k6
      go_wp2_with fail
      go_loopw [69] (fun i wr => ∃ j : Nat, j ≤ 8 ∧ i = .int .i64 j ∧ Hid (St w BB (fillA A 0 0 j (G s)) wr)) (fun i _ => 8 - (intOf i).toNat)
      case atStart => exact ⟨0, by omega, rfl, by rw [fill_nil]; exact hT⟩
      case round =>
        clear hT
        obtain ⟨j, j1, rfl, hJ⟩ := hrel
        by_cases hj : j < 8
        · obtain ⟨Q, hQ⟩ := hJ.out.p
          have C := Lib.hid (fun x => set_abs BB (j : Int) x _ Q wr hQ)
          clear hQ
          have ji : (j : Int) < 8 := by omega
          go_wp2_with (go_at_call 11; ((with_reducible refine (C.out _).mono ?_); rintro e w2 ⟨rfl, g2⟩))
          have nx := fill_succ A 0 0 j (G s) _ (by omega) (Nat.zero_le _) (by unfold pm; rw [if_neg (by omega)]) (rfl : G s j = G s j)
          unfold G at nx
          go_roundw
          case rel => exact ⟨j + 1, by omega, by go_num, Lib.hid ((hJ.out.got g2 hz0).to nx)⟩
          case measure => simp [intOf]; omega
        · have jd8 : decide ((j : Int) < 8) = false := decide_eq_false (by omega)
          have j8 : j = 8 := by omega
          rw [j8] at hJ
          clear j8
          generalize fillA A 0 0 8 (G s) = F at *
          have T3 : Hid (St w BB (setStA F F.st) wr) := hJ
          clear hJ
          obtain ⟨w4, rfl⟩ : ∃ v : World, v = wr := ⟨_, rfl⟩
          go_wp2_with fail
          go_loopw [83] (fun i wr => ∃ (k : Nat) (x : Int), k ≤ 6 ∧ i = .int .i64 k ∧ Hid (St w BB (setStA F x) wr)) (fun i _ => 6 - (intOf i).toNat)
          case atStart => exact ⟨0, F.st, by omega, rfl, T3⟩
          case round =>
            clear T3
            obtain ⟨k, x, hk, rfl, hT⟩ := hrel
            by_cases hk6 : k < 6
            · have ki : (k : Int) < 6 := by omega
              have cm : wr.cell? ⟨BB + 1, k, none⟩ = some (.int .u32 (mo k)) := (cellsAt hT.out.m _).trans (m_at k hk6)
              obtain ⟨m0, m1⟩ := mo_in k
              obtain ⟨P, hP⟩ := hT.out.p
              have S1 := Lib.hid (setStatus_abs BB (mo k) m0 m1 _ P wr hP)
              have tests : ((mo k == 17) = true ∧ (mo k != 31) = true ∧ k = 0) ∨ ((mo k == 17) = false ∧ (mo k != 31) = true ∧ 0 < k ∧ k < 5) ∨ ((mo k == 17) = false ∧ (mo k != 31) = false ∧ k = 5) := by
                have : k = 0 ∨ k = 1 ∨ k = 2 ∨ k = 3 ∨ k = 4 ∨ k = 5 := by omega
                rcases this with rfl | rfl | rfl | rfl | rfl | rfl
                · left; exact ⟨rfl, rfl, rfl⟩
                · right; left; exact ⟨rfl, rfl, by decide, by decide⟩
                · right; left; exact ⟨rfl, rfl, by decide, by decide⟩
                · right; left; exact ⟨rfl, rfl, by decide, by decide⟩
                · right; left; exact ⟨rfl, rfl, by decide, by decide⟩
                · right; right; exact ⟨rfl, rfl, rfl⟩
              have testsH := Lib.hid tests
              clear hP tests
              go_wp2_with fail
              refine S1.out.mono ?_
              rintro e w5 ⟨rfl, g2⟩
              have T4 : Hid (St w BB (setStA F (mo k)) w5) := Lib.hid (hT.out.got g2 hz0)
              obtain ⟨Q, hQ⟩ := T4.out.p
              have f13 : getA (setStA F (mo k)) (nb 13) = (s + (100 * (k : Int) + 13)) % 4294967296 := fine13 hF.out k hk6
              have f14 : getA (setStA F (mo k)) (nb 14) = (s + (100 * (k : Int) + 14)) % 4294967296 := fine14 hF.out k hk6
              have u13 : (setStA F (mo k)).R 0 (nb 13) = (s + 513) % 4294967296 := fineU hF.out (mo k)
              have G13 := get_abs BB 13 _ Q w5 hQ
              have G14 := get_abs BB 14 _ Q w5 hQ
              have U13 := user_abs BB 13 _ Q w5 hQ
              rw [f13] at G13
              rw [f14] at G14
              rw [u13] at U13
              have SV := saved_abs BB _ Q w5 hQ
              have LO : ∀ i : Nat, i < 8 → Calls Try.prog 13 #[.pointer (some ⟨BB, 0, none⟩), .int .i64 i] w5 fun e w' => e = .returned (.int .u32 (s * ((i : Int) + 1) % 4294967296)) ∧ w5 = w' := fun i hi => by
                have := get_abs BB (i : Int) _ Q w5 hQ
                rw [fineL hF.out (mo k) i hi] at this
                exact this
              have UH : ∀ i : Nat, 8 ≤ i → i < 13 → Calls Try.prog 15 #[.pointer (some ⟨BB, 0, none⟩), .int .i64 i] w5 fun e w' => e = .returned (.int .u32 ((s + (500 + (i : Int))) % 4294967296)) ∧ w5 = w' := fun i h8 hi => by
                have := user_abs BB (i : Int) _ Q w5 hQ
                rw [fineUH hF.out (mo k) i h8 hi] at this
                exact this
              have G13H := Lib.hid G13
              have G14H := Lib.hid G14
              have U13H := Lib.hid U13
              have LOH := Lib.hid LO
              have UHH := Lib.hid UH
              have hQH := Lib.hid hQ
              clear g2 cm S1 hQ f13 f14 u13 G13 G14 U13 LO UH
              rcases testsH.out with ⟨e17, e31, hk0⟩ | ⟨e17, e31, h0, h5⟩ | ⟨e17, e31, hk5⟩
              · have fs := fineS hF.out k (by omega)
                rw [fs] at SV
                have SVH := Lib.hid SV
                clear SV fs
                have GH : ∀ i : Nat, 8 ≤ i → i < 13 → Calls Try.prog 13 #[.pointer (some ⟨BB, 0, none⟩), .int .i64 i] w5 fun e w' => e = .returned (.int .u32 ((s + (i : Int)) % 4294967296)) ∧ w5 = w' := fun i h8 hi => by
                  have := get_abs BB (i : Int) _ Q w5 hQH.out
                  rw [fineH hF.out k (by omega) i h8 hi, if_pos hk0] at this
                  simpa [V] using this
                have GHH := Lib.hid GH
                clear GH hQH
                try (have hk0H := Lib.hid hk0; clear hk0)
                try (have hk5H := Lib.hid hk5; clear hk5)
                go_wp2_with (first | (go_at_call 13; ((with_reducible refine G13H.out.mono ?_); rintro e w' ⟨rfl, rfl⟩)) | (go_at_call 13; ((with_reducible refine G14H.out.mono ?_); rintro e w' ⟨rfl, rfl⟩)) | (go_at_call 15; ((with_reducible refine U13H.out.mono ?_); rintro e w' ⟨rfl, rfl⟩)) | (go_at_call 14; ((with_reducible refine SVH.out.mono ?_); rintro e w' ⟨rfl, rfl⟩)))
                clear G13H G14H U13H SVH
                go_loop [12] (fun i => ∃ j : Nat, 8 ≤ j ∧ j ≤ 13 ∧ i = .int .i64 j) (fun i => 13 - (intOf i).toNat)
                case atStart => exact ⟨8, by omega, by omega, rfl⟩
                case round =>
                  obtain ⟨j, j0, j1, rfl⟩ := hrel
                  by_cases hj : j < 13
                  · have c1 := Lib.hid (GHH.out j j0 hj)
                    have c2 := Lib.hid (UHH.out j j0 hj)
                    have ji : (j : Int) < 13 := by omega
                    go_wp2_with (first | (go_at_call 13; ((with_reducible refine c1.out.mono ?_); rintro e w' ⟨rfl, rfl⟩)) | (go_at_call 15; ((with_reducible refine c2.out.mono ?_); rintro e w' ⟨rfl, rfl⟩)))
                    go_round
                    case rel => exact ⟨j + 1, by omega, by omega, by go_num⟩
                    case measure => simp [intOf]; omega
                  · have jd13 : decide ((j : Int) < 13) = false := decide_eq_false (by omega)
                    go_wp2_with fail
                    go_loop [161] (fun i => ∃ j : Nat, j ≤ 8 ∧ i = .int .i64 j) (fun i => 8 - (intOf i).toNat)
                    case atStart => exact ⟨0, by omega, rfl⟩
                    case round =>
                      obtain ⟨j, j1, rfl⟩ := hrel
                      by_cases hj : j < 8
                      · have c1 := Lib.hid (LOH.out j hj)
                        have ji : (j : Int) < 8 := by omega
                        go_wp2_with (go_at_call 13; ((with_reducible refine c1.out.mono ?_); rintro e w' ⟨rfl, rfl⟩))
                        go_round
                        case rel => exact ⟨j + 1, by omega, by go_num⟩
                        case measure => simp [intOf]; omega
                      · obtain rfl : j = 8 := by omega
                        go_wp2
                        go_roundw
                        case rel => exact ⟨k + 1, mo k, by omega, by go_num, T4⟩
                        case measure => simp [intOf]; omega
              · have fs := fineS hF.out k (by omega)
                rw [fs] at SV
                have SVH := Lib.hid SV
                clear SV fs
                have GH : ∀ i : Nat, 8 ≤ i → i < 13 → Calls Try.prog 13 #[.pointer (some ⟨BB, 0, none⟩), .int .i64 i] w5 fun e w' => e = .returned (.int .u32 ((s + (500 + (i : Int))) % 4294967296)) ∧ w5 = w' := fun i h8 hi => by
                  have := get_abs BB (i : Int) _ Q w5 hQH.out
                  rw [fineH hF.out k (by omega) i h8 hi, if_neg (by omega)] at this
                  exact this
                have GHH := Lib.hid GH
                clear GH hQH
                try (have hk0H := Lib.hid hk0; clear hk0)
                try (have hk5H := Lib.hid hk5; clear hk5)
                go_wp2_with (first | (go_at_call 13; ((with_reducible refine G13H.out.mono ?_); rintro e w' ⟨rfl, rfl⟩)) | (go_at_call 13; ((with_reducible refine G14H.out.mono ?_); rintro e w' ⟨rfl, rfl⟩)) | (go_at_call 15; ((with_reducible refine U13H.out.mono ?_); rintro e w' ⟨rfl, rfl⟩)) | (go_at_call 14; ((with_reducible refine SVH.out.mono ?_); rintro e w' ⟨rfl, rfl⟩)))
                clear G13H G14H U13H SVH
                go_loop [12] (fun i => ∃ j : Nat, 8 ≤ j ∧ j ≤ 13 ∧ i = .int .i64 j) (fun i => 13 - (intOf i).toNat)
                case atStart => exact ⟨8, by omega, by omega, rfl⟩
                case round =>
                  obtain ⟨j, j0, j1, rfl⟩ := hrel
                  by_cases hj : j < 13
                  · have c1 := Lib.hid (GHH.out j j0 hj)
                    have c2 := Lib.hid (UHH.out j j0 hj)
                    have ji : (j : Int) < 13 := by omega
                    go_wp2_with (first | (go_at_call 13; ((with_reducible refine c1.out.mono ?_); rintro e w' ⟨rfl, rfl⟩)) | (go_at_call 15; ((with_reducible refine c2.out.mono ?_); rintro e w' ⟨rfl, rfl⟩)))
                    go_round
                    case rel => exact ⟨j + 1, by omega, by omega, by go_num⟩
                    case measure => simp [intOf]; omega
                  · have jd13 : decide ((j : Int) < 13) = false := decide_eq_false (by omega)
                    go_wp2_with fail
                    go_loop [161] (fun i => ∃ j : Nat, j ≤ 8 ∧ i = .int .i64 j) (fun i => 8 - (intOf i).toNat)
                    case atStart => exact ⟨0, by omega, rfl⟩
                    case round =>
                      obtain ⟨j, j1, rfl⟩ := hrel
                      by_cases hj : j < 8
                      · have c1 := Lib.hid (LOH.out j hj)
                        have ji : (j : Int) < 8 := by omega
                        go_wp2_with (go_at_call 13; ((with_reducible refine c1.out.mono ?_); rintro e w' ⟨rfl, rfl⟩))
                        go_round
                        case rel => exact ⟨j + 1, by omega, by go_num⟩
                        case measure => simp [intOf]; omega
                      · obtain rfl : j = 8 := by omega
                        go_wp2
                        go_roundw
                        case rel => exact ⟨k + 1, mo k, by omega, by go_num, T4⟩
                        case measure => simp [intOf]; omega
              · have SVH := Lib.hid SV
                clear SV
                have GH : ∀ i : Nat, 8 ≤ i → i < 13 → Calls Try.prog 13 #[.pointer (some ⟨BB, 0, none⟩), .int .i64 i] w5 fun e w' => e = .returned (.int .u32 ((s + (500 + (i : Int))) % 4294967296)) ∧ w5 = w' := fun i h8 hi => by
                  have := get_abs BB (i : Int) _ Q w5 hQH.out
                  rw [fineH hF.out k (by omega) i h8 hi, if_neg (by omega)] at this
                  exact this
                have GHH := Lib.hid GH
                clear GH hQH
                try (have hk0H := Lib.hid hk0; clear hk0)
                try (have hk5H := Lib.hid hk5; clear hk5)
                go_wp2_with (first | (go_at_call 13; ((with_reducible refine G13H.out.mono ?_); rintro e w' ⟨rfl, rfl⟩)) | (go_at_call 13; ((with_reducible refine G14H.out.mono ?_); rintro e w' ⟨rfl, rfl⟩)) | (go_at_call 15; ((with_reducible refine U13H.out.mono ?_); rintro e w' ⟨rfl, rfl⟩)) | (go_at_call 14; ((with_reducible refine SVH.out.mono ?_); rintro e w' ⟨rfl, rfl⟩)))
                clear G13H G14H U13H SVH
                go_loop [12] (fun i => ∃ j : Nat, 8 ≤ j ∧ j ≤ 13 ∧ i = .int .i64 j) (fun i => 13 - (intOf i).toNat)
                case atStart => exact ⟨8, by omega, by omega, rfl⟩
                case round =>
                  obtain ⟨j, j0, j1, rfl⟩ := hrel
                  by_cases hj : j < 13
                  · have c1 := Lib.hid (GHH.out j j0 hj)
                    have c2 := Lib.hid (UHH.out j j0 hj)
                    have ji : (j : Int) < 13 := by omega
                    go_wp2_with (first | (go_at_call 13; ((with_reducible refine c1.out.mono ?_); rintro e w' ⟨rfl, rfl⟩)) | (go_at_call 15; ((with_reducible refine c2.out.mono ?_); rintro e w' ⟨rfl, rfl⟩)))
                    go_round
                    case rel => exact ⟨j + 1, by omega, by omega, by go_num⟩
                    case measure => simp [intOf]; omega
                  · have jd13 : decide ((j : Int) < 13) = false := decide_eq_false (by omega)
                    go_wp2_with fail
                    go_loop [161] (fun i => ∃ j : Nat, j ≤ 8 ∧ i = .int .i64 j) (fun i => 8 - (intOf i).toNat)
                    case atStart => exact ⟨0, by omega, rfl⟩
                    case round =>
                      obtain ⟨j, j1, rfl⟩ := hrel
                      by_cases hj : j < 8
                      · have c1 := Lib.hid (LOH.out j hj)
                        have ji : (j : Int) < 8 := by omega
                        go_wp2_with (go_at_call 13; ((with_reducible refine c1.out.mono ?_); rintro e w' ⟨rfl, rfl⟩))
                        go_round
                        case rel => exact ⟨j + 1, by omega, by go_num⟩
                        case measure => simp [intOf]; omega
                      · obtain rfl : j = 8 := by omega
                        go_wp2
                        go_roundw
                        case rel => exact ⟨k + 1, mo k, by omega, by go_num, T4⟩
                        case measure => simp [intOf]; omega
            · obtain rfl : k = 6 := by omega
              go_wp2
              go_ret
              exact ⟨rfl, hT.out.b⟩
end Go.Proofs.Ytajbankfnnlocaa.Bo
