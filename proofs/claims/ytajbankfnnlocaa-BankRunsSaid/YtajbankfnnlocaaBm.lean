/- The document's bank, walked. -/
import Derived.Test.YtajbankfnnlocaaBh
namespace Go.Proofs.Ytajbankfnnlocaa.Bm
set_option linter.unusedVariables false
set_option linter.unusedSimpArgs false
open Go.RowKit Go.Proofs.Ytajbankfnnlocaa.Bt Go.Proofs.Ytajbankfnnlocaa.Wk Go.Proofs.Ytajbankfnnlocaa.Sg Go.Proofs.Ytajbankfnnlocaa.Ba Go.Proofs.Ytajbankfnnlocaa.Bb Go.Proofs.Ytajbankfnnlocaa.Bc Go.Proofs.Ytajbankfnnlocaa.Bd Go.Proofs.Ytajbankfnnlocaa.Be Go.Proofs.Ytajbankfnnlocaa.Bf Go.Proofs.Ytajbankfnnlocaa.Bg Go.Proofs.Ytajbankfnnlocaa.Bh

/-- The document's object. -/
def rl (A : Ab) : List Value := seg 96 (fun k => .int .u32 (A.R (k / 16) (k % 16))) ++ (seg 6 (u A.S) ++ [.int .u32 A.st])
def rb (A : Ab) : Obj := .cells (rl A).toArray 42 (0, 0)
theorem ratR (A : Ab) {m k : Nat} (hm : m < 6) (hk : k < 16) : (rl A).toArray[m * 16 + k]? = some (.int .u32 (A.R m k)) := by
  rw [toArray_at]; unfold rl; rw [seg_in _ _ (by omega), show (m * 16 + k) / 16 = m by omega, show (m * 16 + k) % 16 = k by omega]
theorem ratS (A : Ab) {i : Nat} (h : i < 6) : (rl A).toArray[96 + i]? = some (.int .u32 (A.S i)) := by rw [toArray_at]; unfold rl; rw [seg_out]; exact seg_in _ _ h
theorem ratC (A : Ab) : (rl A).toArray[102]? = some (.int .u32 A.st) := by
  rw [toArray_at, show 102 = 96 + (6 + 0) by omega]; unfold rl; rw [seg_out, seg_out]; rfl
theorem rsetR (A : Ab) {m k : Nat} (hm : m < 6) (hk : k < 16) (v : Int) : (rl A).toArray.setIfInBounds (m * 16 + k) (.int .u32 v) = (rl { A with R := upd2 A.R m k v }).toArray := by
  rw [toArray_set]; unfold rl; rw [seg_set_in _ _ _ (by omega)]
  congr 2
  refine seg_congr fun i hi => ?_
  unfold upd upd2
  dsimp only
  by_cases e : i = m * 16 + k
  · subst e; rw [if_pos rfl, if_pos ⟨by omega, by omega⟩]
  · rw [if_neg e, if_neg (by omega)]
theorem rsetS (A : Ab) {i : Nat} (h : i < 6) (v : Int) : (rl A).toArray.setIfInBounds (96 + i) (.int .u32 v) = (rl { A with S := upd A.S i v }).toArray := by
  rw [toArray_set]; unfold rl; rw [seg_set_out, seg_set_in _ _ _ h, updu]
theorem rsetC (A : Ab) (v : Int) : (rl A).toArray.setIfInBounds 102 (.int .u32 v) = (rl { A with st := v }).toArray := by
  rw [toArray_set, show 102 = 96 + (6 + 0) by omega]; unfold rl; rw [seg_set_out, seg_set_out]; rfl
/-- Block c is the document's bank that holds A. -/
structure RAt (c : Nat) (A : Ab) (w : World) : Prop where
  hs : w.heap[c]? = some (rb A)
  c0 : 0 ≤ A.st
  c1 : A.st < 4294967296
def RGot (c : Nat) (A : Ab) (w w' : World) : Prop := Only c (rb A) w w' ∧ 0 ≤ A.st ∧ A.st < 4294967296
theorem RGot.at_ {c : Nat} {A : Ab} {w w' : World} (h : RGot c A w w') : RAt c A w' := ⟨h.1.at_, h.2.1, h.2.2⟩
theorem RAt.drewN {c : Nat} {A : Ab} {w : World} (h : RAt c A w) (n : Nat) : RAt c A (w.drewN n) := ⟨h.hs, h.c0, h.c1⟩
theorem pm_lt (s k : Nat) (h : s < 6) : pm s k < 6 := by unfold pm; split <;> omega
set_option maxHeartbeats 1000000 in
theorem mode_any (x : Int) (h0 : 0 ≤ x) (h1 : x < 4294967296) (w : World) :
    Calls Try.prog 35 #[.int .u32 x] w fun e w' => e = .returned (.int .i64 (sl x)) ∧ w = w' := by
  have g : x.tmod 32 = x % 32 := Int.tmod_eq_emod_of_nonneg h0
  go_enter Try.func35, Try.ntmps35
  go_wp2
  all_goals
    go_ret
    refine ⟨ret_i ?_, rfl⟩
    clear g
    try simp only [beq_iff_eq, beq_eq_false_iff_ne, ne_eq] at *
    unfold sl
    repeat' split
    all_goals first | rfl | omega
set_option maxHeartbeats 4000000 in
theorem place_any (s : Nat) (i : Int) (w : World) :
    Calls Try.prog 34 #[.int .i64 s, .int .i64 i] w fun e w' => e = .returned (.tuple #[.int .i64 (pm s (nb i) : Nat), .int .i64 (nb i)]) ∧ w = w' := by
  have g : Go.bits .and .i64 i 15 = nb i := by rw [and_m 4 (by decide) 15 (by decide) 16 (by decide), nb_eq]
  have l := nb_lt i
  unfold pm
  generalize nb i = k at *
  by_cases k13 : k = 13
  · subst k13
    rw [if_pos (.inl rfl)]
    go_enter Try.func34, Try.ntmps34
    go_wp2
    go_ret2
    exact ⟨rfl, rfl⟩
  by_cases k14 : k = 14
  · subst k14
    rw [if_pos (.inr (.inl rfl))]
    clear k13
    go_enter Try.func34, Try.ntmps34
    go_wp2
    go_ret2
    exact ⟨rfl, rfl⟩
  have d13 : ((k : Int) == 13) = false := by simp; omega
  have d14 : ((k : Int) == 14) = false := by simp; omega
  by_cases h8 : 8 ≤ k
  · have d8 : decide (8 ≤ (k : Int)) = true := decide_eq_true (by omega)
    by_cases h12 : k ≤ 12
    · have d12 : decide ((k : Int) ≤ 12) = true := decide_eq_true (by omega)
      by_cases s1 : s = 1
      · subst s1
        rw [if_pos (.inr (.inr ⟨h8, h12, rfl⟩))]
        clear k13 k14 h8 h12
        go_enter Try.func34, Try.ntmps34
        go_wp2
        go_ret2
        exact ⟨rfl, rfl⟩
      · have ds : ((s : Int) == 1) = false := by simp; omega
        rw [if_neg (by omega)]
        clear k13 k14 h8 h12 s1
        go_enter Try.func34, Try.ntmps34
        go_wp2
        go_ret2
        exact ⟨rfl, rfl⟩
    · have d12 : decide ((k : Int) ≤ 12) = false := decide_eq_false (by omega)
      rw [if_neg (by omega)]
      clear k13 k14 h8 h12
      go_enter Try.func34, Try.ntmps34
      go_wp2
      go_ret2
      exact ⟨rfl, rfl⟩
  · have d8 : decide (8 ≤ (k : Int)) = false := decide_eq_false (by omega)
    rw [if_neg (by omega)]
    clear k13 k14 h8
    go_enter Try.func34, Try.ntmps34
    go_wp2
    go_ret2
    exact ⟨rfl, rfl⟩
set_option maxHeartbeats 1000000 in
theorem rget_any (c : Nat) (i : Int) (A : Ab) (w : World) (h : RAt c A w) :
    Calls Try.prog 24 #[.pointer (some ⟨c, 0, none⟩), .int .i64 i] w fun e w' => e = .returned (.int .u32 (getA A (nb i))) ∧ w = w' := by
  have C : w.cell? ⟨c, 102, none⟩ = some (.int .u32 A.st) := (cellsAt h.hs _).trans (ratC A)
  have M := Lib.hid (mode_any A.st h.c0 h.c1 w)
  have p := pm_lt (sl A.st) (nb i) (sl_lt _)
  have l := nb_lt i
  have D : w.cell? ⟨c, pm (sl A.st) (nb i) * 16 + nb i, none⟩ = some (.int .u32 (getA A (nb i))) := (cellsAt h.hs _).trans (ratR A p l)
  have L := Lib.hid (place_any (sl A.st) i w)
  clear h
  generalize getA A (nb i) = v at *
  generalize pm (sl A.st) (nb i) = m at *
  generalize nb i = k at *
  generalize sl A.st = s at *
  go_enter Try.func24, Try.ntmps24
  go_wp2_with (first | (go_at_call 35; refine M.out.mono ?_; rintro e w' ⟨rfl, rfl⟩) | (go_at_call 34; refine L.out.mono ?_; rintro e w' ⟨rfl, rfl⟩))
  go_ret
  exact ⟨rfl, rfl⟩
set_option maxHeartbeats 1000000 in
theorem rset_any (c : Nat) (i x : Int) (A : Ab) (w : World) (h : RAt c A w) :
    Calls Try.prog 18 #[.pointer (some ⟨c, 0, none⟩), .int .i64 i, .int .u32 x] w fun e w' => e = .returned (.tuple #[]) ∧ RGot c (setAb A (nb i) x) w w' := by
  have C : w.cell? ⟨c, 102, none⟩ = some (.int .u32 A.st) := (cellsAt h.hs _).trans (ratC A)
  have M := Lib.hid (mode_any A.st h.c0 h.c1 w)
  have p := pm_lt (sl A.st) (nb i) (sl_lt _)
  have l := nb_lt i
  have D : w.cell? ⟨c, pm (sl A.st) (nb i) * 16 + nb i, none⟩ = some (.int .u32 (getA A (nb i))) := (cellsAt h.hs _).trans (ratR A p l)
  have L := Lib.hid (place_any (sl A.st) i w)
  have F := freeAt h.hs
  have G : RGot c (setAb A (nb i) x) w (w.setCell ⟨c, pm (sl A.st) (nb i) * 16 + nb i, none⟩ (.int .u32 x)) := ⟨((Only.refl h.hs).set _).to (by rw [rsetR A p l]; rfl), h.c0, h.c1⟩
  have GH := Lib.hid G
  clear h G
  generalize getA A (nb i) = v at *
  generalize setAb A (nb i) x = A' at *
  generalize pm (sl A.st) (nb i) = m at *
  generalize nb i = k at *
  generalize sl A.st = s at *
  go_enter Try.func18, Try.ntmps18
  go_wp2_with (first | (go_at_call 35; refine M.out.mono ?_; rintro e w' ⟨rfl, rfl⟩) | (go_at_call 34; refine L.out.mono ?_; rintro e w' ⟨rfl, rfl⟩))
  go_end0
  exact ⟨rfl, GH.out⟩
set_option maxHeartbeats 1000000 in
theorem ruser_any (c : Nat) (i : Int) (A : Ab) (w : World) (h : RAt c A w) :
    Calls Try.prog 25 #[.pointer (some ⟨c, 0, none⟩), .int .i64 i] w fun e w' => e = .returned (.int .u32 (A.R 0 (nb i))) ∧ w = w' := by
  have g : Go.bits .and .i64 i 15 = nb i := by rw [and_m 4 (by decide) 15 (by decide) 16 (by decide), nb_eq]
  have l := nb_lt i
  have D : w.cell? ⟨c, nb i, none⟩ = some (.int .u32 (A.R 0 (nb i))) := by
    have := (cellsAt h.hs _).trans (ratR A (m := 0) (by decide) l)
    rwa [Nat.zero_mul, Nat.zero_add] at this
  clear h
  generalize A.R 0 (nb i) = v at *
  generalize nb i = k at *
  go_enter Try.func25, Try.ntmps25
  go_wp2
  go_ret
  exact ⟨rfl, rfl⟩
set_option maxHeartbeats 1000000 in
theorem rsetUser_any (c : Nat) (i x : Int) (A : Ab) (w : World) (h : RAt c A w) :
    Calls Try.prog 20 #[.pointer (some ⟨c, 0, none⟩), .int .i64 i, .int .u32 x] w fun e w' => e = .returned (.tuple #[]) ∧ RGot c (setUserA A (nb i) x) w w' := by
  have g : Go.bits .and .i64 i 15 = nb i := by rw [and_m 4 (by decide) 15 (by decide) 16 (by decide), nb_eq]
  have l := nb_lt i
  have D : w.cell? ⟨c, nb i, none⟩ = some (.int .u32 (A.R 0 (nb i))) := by
    have := (cellsAt h.hs _).trans (ratR A (m := 0) (by decide) l)
    rwa [Nat.zero_mul, Nat.zero_add] at this
  have F := freeAt h.hs
  have G : RGot c (setUserA A (nb i) x) w (w.setCell ⟨c, nb i, none⟩ (.int .u32 x)) := ⟨((Only.refl h.hs).set _).to (by
    have := rsetR A (m := 0) (by decide) l x
    rw [Nat.zero_mul, Nat.zero_add] at this
    rw [this]; rfl), h.c0, h.c1⟩
  have GH := Lib.hid G
  clear h G
  generalize A.R 0 (nb i) = v at *
  generalize setUserA A (nb i) x = A' at *
  generalize nb i = k at *
  go_enter Try.func20, Try.ntmps20
  go_wp2
  go_end0
  exact ⟨rfl, GH.out⟩
set_option maxHeartbeats 1000000 in
theorem rsaved_any (c : Nat) (A : Ab) (w : World) (h : RAt c A w) :
    Calls Try.prog 23 #[.pointer (some ⟨c, 0, none⟩)] w fun e w' => e = .returned (.int .u32 (savedA A)) ∧ w = w' := by
  have C : w.cell? ⟨c, 102, none⟩ = some (.int .u32 A.st) := (cellsAt h.hs _).trans (ratC A)
  have M := Lib.hid (mode_any A.st h.c0 h.c1 w)
  have l := sl_lt A.st
  have D : w.cell? ⟨c, 96 + sl A.st, none⟩ = some (.int .u32 (A.S (sl A.st))) := (cellsAt h.hs _).trans (ratS A l)
  clear h
  unfold savedA
  generalize sl A.st = s at *
  by_cases e : s = 0
  · rw [if_pos e]
    subst e
    go_enter Try.func23, Try.ntmps23
    go_wp2_with (go_at_call 35; refine M.out.mono ?_; rintro e w' ⟨rfl, rfl⟩)
    go_ret
    exact ⟨rfl, rfl⟩
  · rw [if_neg e]
    have d : ((s : Int) == 0) = false := by simp; omega
    clear e
    go_enter Try.func23, Try.ntmps23
    go_wp2_with (go_at_call 35; refine M.out.mono ?_; rintro e w' ⟨rfl, rfl⟩)
    go_ret
    exact ⟨rfl, rfl⟩
set_option maxHeartbeats 1000000 in
theorem rsetSaved_any (c : Nat) (x : Int) (A : Ab) (w : World) (h : RAt c A w) :
    Calls Try.prog 19 #[.pointer (some ⟨c, 0, none⟩), .int .u32 x] w fun e w' => e = .returned (.tuple #[]) ∧ RGot c (setSavedA A x) w w' := by
  have C : w.cell? ⟨c, 102, none⟩ = some (.int .u32 A.st) := (cellsAt h.hs _).trans (ratC A)
  have M := Lib.hid (mode_any A.st h.c0 h.c1 w)
  have l := sl_lt A.st
  have D : w.cell? ⟨c, 96 + sl A.st, none⟩ = some (.int .u32 (A.S (sl A.st))) := (cellsAt h.hs _).trans (ratS A l)
  have F := freeAt h.hs
  have G0 : RGot c A w w := ⟨Only.refl h.hs, h.c0, h.c1⟩
  have G : RGot c { A with S := upd A.S (sl A.st) x } w (w.setCell ⟨c, 96 + sl A.st, none⟩ (.int .u32 x)) := ⟨((Only.refl h.hs).set _).to (by rw [rsetS A l]; rfl), h.c0, h.c1⟩
  have G0H := Lib.hid G0
  have GH := Lib.hid G
  clear h G G0
  unfold setSavedA
  generalize sl A.st = s at *
  by_cases e : s = 0
  · rw [if_pos e]
    subst e
    go_enter Try.func19, Try.ntmps19
    go_wp2_with (go_at_call 35; refine M.out.mono ?_; rintro e w' ⟨rfl, rfl⟩)
    go_end0
    exact ⟨rfl, G0H.out⟩
  · rw [if_neg e]
    have d : decide (0 < (s : Int)) = true := decide_eq_true (by omega)
    have d2 : decide (0 < s) = true := decide_eq_true (by omega)
    clear e
    go_enter Try.func19, Try.ntmps19
    go_wp2_with (go_at_call 35; refine M.out.mono ?_; rintro e w' ⟨rfl, rfl⟩)
    go_end0
    exact ⟨rfl, GH.out⟩
theorem ent_bit (a b k : Nat) : (((a ^^^ (a &&& 191)) ||| (b &&& 31)) ||| 128).testBit k = ((a.testBit k && !Nat.testBit 191 k) || (b.testBit k && Nat.testBit 31 k) || Nat.testBit 128 k) := by
  simp only [Nat.testBit_or, Nat.testBit_and, Nat.testBit_xor]
  cases a.testBit k <;> cases Nat.testBit 191 k <;> simp
theorem ent_low (a b : Nat) : (((a ^^^ (a &&& 191)) ||| (b &&& 31)) ||| 128) % 256 = b % 32 + 64 * (a / 64 % 2) + 128 := by
  have key : ∀ i, i < 8 → ((((a ^^^ (a &&& 191)) ||| (b &&& 31)) ||| 128) % 256).testBit i = (b % 32 + 64 * (a / 64 % 2) + 128).testBit i := by
    intro i hi
    rw [show 256 = 2 ^ 8 from rfl, Nat.testBit_mod_two_pow, ent_bit, Nat.testBit_eq_decide_div_mod_eq, Nat.testBit_eq_decide_div_mod_eq, Nat.testBit_eq_decide_div_mod_eq, Nat.testBit_eq_decide_div_mod_eq, Nat.testBit_eq_decide_div_mod_eq, Nat.testBit_eq_decide_div_mod_eq]
    have : i = 0 ∨ i = 1 ∨ i = 2 ∨ i = 3 ∨ i = 4 ∨ i = 5 ∨ i = 6 ∨ i = 7 := by omega
    rw [Bool.eq_iff_iff]
    rcases this with rfl | rfl | rfl | rfl | rfl | rfl | rfl | rfl
    all_goals simp
    all_goals omega
  apply Nat.eq_of_testBit_eq
  intro i
  by_cases h : i < 8
  · exact key i h
  · have l1 : (((a ^^^ (a &&& 191)) ||| (b &&& 31)) ||| 128) % 256 < 2 ^ i := Nat.lt_of_lt_of_le (Nat.mod_lt _ (by decide)) (Nat.pow_le_pow_right (by decide) (show 8 ≤ i by omega) : 2 ^ 8 ≤ 2 ^ i)
    have l2 : b % 32 + 64 * (a / 64 % 2) + 128 < 2 ^ i := Nat.lt_of_lt_of_le (show _ < 2 ^ 8 by omega) (Nat.pow_le_pow_right (by decide) (show 8 ≤ i by omega) : 2 ^ 8 ≤ 2 ^ i)
    rw [Nat.testBit_lt_two_pow l1, Nat.testBit_lt_two_pow l2]
theorem ent_high (a b : Nat) : (((a ^^^ (a &&& 191)) ||| (b &&& 31)) ||| 128) / 256 = a / 256 := by
  apply Nat.eq_of_testBit_eq
  intro i
  rw [show 256 = 2 ^ 8 from rfl, Nat.testBit_div_two_pow, Nat.testBit_div_two_pow, ent_bit]
  have z : ∀ m, m < 2 ^ 8 → Nat.testBit m (8 + i) = false := fun m h => Nat.testBit_lt_two_pow (Nat.lt_of_lt_of_le h (Nat.pow_le_pow_right (by decide) (by omega)))
  have z' : ∀ m, m < 2 ^ 8 → Nat.testBit m (i + 8) = false := fun m h => by rw [Nat.add_comm]; exact z m h
  first
    | rw [z 191 (by decide), z 31 (by decide), z 128 (by decide)]; simp
    | rw [z' 191 (by decide), z' 31 (by decide), z' 128 (by decide)]; simp
/-- The status word of an exception, as whole numbers. -/
theorem ent_num (old m : Int) (h0 : 0 ≤ old) (h1 : old < 4294967296) (m0 : 0 ≤ m) (m1 : m < 4294967296) :
    entW old m = old / 256 * 256 + 128 + 64 * (old / 64 % 2) + m % 32 := by
  obtain ⟨_, _, a, b, rfl, rfl, e⟩ := entW_in old m h0 h1 m0 m1
  rw [e]
  have l := ent_low a b
  have h := ent_high a b
  generalize (((a ^^^ (a &&& 191)) ||| (b &&& 31)) ||| 128) = n at *
  omega
set_option maxHeartbeats 4000000 in
theorem renter_any (c : Nat) (m back : Int) (m0 : 0 ≤ m) (m1 : m < 4294967296) (A : Ab) (w : World) (h : RAt c A w) :
    Calls Try.prog 21 #[.pointer (some ⟨c, 0, none⟩), .int .u32 m, .int .u32 back] w fun e w' => e = .returned (.tuple #[]) ∧ RGot c (enterA A m back) w w' := by
  have C : w.cell? ⟨c, 102, none⟩ = some (.int .u32 A.st) := (cellsAt h.hs _).trans (ratC A)
  have F := freeAt h.hs
  have c0 := h.c0
  have c1 := h.c1
  have EN := ent_num A.st m c0 c1 m0 m1
  obtain ⟨E0, E1, _⟩ := entW_in A.st m c0 c1 m0 m1
  have o1 : RGot c (setStA A (entW A.st m)) w (w.setCell ⟨c, 102, none⟩ (.int .u32 (entW A.st m))) := ⟨((Only.refl h.hs).set _).to (by rw [rsetC A]; rfl), E0, E1⟩
  have O1 := Lib.hid o1
  have S2 := Lib.hid (fun w h => rsetSaved_any c A.st (setStA A (entW A.st m)) w h)
  have S3 := Lib.hid (fun w h => rset_any c 14 back (setSavedA (setStA A (entW A.st m)) A.st) w h)
  have EQ : enterA A m back = setAb (setSavedA (setStA A (entW A.st m)) A.st) (nb 14) back := rfl
  have EQH := Lib.hid EQ
  clear h o1 EQ
  have t1 : A.st.tmod 32 = A.st % 32 := Int.tmod_eq_emod_of_nonneg c0
  have t2 : m.tmod 32 = m % 32 := Int.tmod_eq_emod_of_nonneg m0
  have w1 : (A.st - A.st % 32) % 4294967296 = A.st - A.st % 32 := by omega
  have b0 : 0 ≤ A.st - A.st % 32 := by omega
  have b1 : A.st - A.st % 32 < 4294967296 := by omega
  have b2 : A.st - A.st % 32 + m % 32 < 4294967296 := by omega
  have ne1 : ∀ q : Int, q / 32 % 2 ≠ 1 → (q / 32 % 2 == 1) = false := fun q h => by simpa using h
  have ne2 : ∀ q : Int, q / 128 % 2 ≠ 1 → (q / 128 % 2 == 1) = false := fun q h => by simpa using h
  have R5 : ∀ q : Int, 0 ≤ q → q < 4294967296 → ∀ w, Calls Try.prog 36 #[.int .u32 q, .int .i64 5] w fun e w' => e = .returned (.bool (q / 32 % 2 == 1)) ∧ w = w' := fun q h0 h1 w => rbit_any q 5 h0 h1 (by decide) w
  have R7 : ∀ q : Int, 0 ≤ q → q < 4294967296 → ∀ w, Calls Try.prog 36 #[.int .u32 q, .int .i64 7] w fun e w' => e = .returned (.bool (q / 128 % 2 == 1)) ∧ w = w' := fun q h0 h1 w => rbit_any q 7 h0 h1 (by decide) w
  generalize entW A.st m = E at *
  generalize hX : A.st - A.st % 32 + m % 32 = X at *
  have x0 : 0 ≤ X := by omega
  by_cases b5 : X / 32 % 2 = 1
  · have R5' := R5 X x0 b2
    rw [show (X / 32 % 2 == 1) = true by simpa using b5] at R5'
    obtain ⟨Y, hY⟩ : ∃ Y, X - 32 = Y := ⟨_, rfl⟩
    have y0 : 0 ≤ Y := by omega
    have y1 : Y < 4294967296 := by omega
    have R7' := R7 Y y0 y1
    by_cases b7 : Y / 128 % 2 = 1
    · rw [show (Y / 128 % 2 == 1) = true by simpa using b7] at R7'
      obtain rfl : Y = E := by omega
      have R5H := Lib.hid R5'
      have R7H := Lib.hid R7'
      clear EN E0 E1 b5 b7 R5 R7 R5' R7' ne1 ne2
      go_enter Try.func21, Try.ntmps21
      go_wp2_with (first | (go_at_call 36; ((with_reducible refine (R5H.out _).mono ?_); rintro e w' ⟨rfl, rfl⟩)) | (go_at_call 36; ((with_reducible refine (R7H.out _).mono ?_); rintro e w' ⟨rfl, rfl⟩)))
      refine (S2.out _ O1.out.at_).mono ?_
      rintro e w2 ⟨rfl, o2⟩
      have O2 := Lib.hid o2
      clear o2
      go_wp2_with fail
      refine (S3.out _ O2.out.at_).mono ?_
      rintro e w3 ⟨rfl, o3⟩
      go_wp2
      go_end0
      exact ⟨rfl, by rw [EQH.out]; exact ⟨(O1.out.1.trans O2.out.1).trans o3.1, o3.2⟩⟩
    · rw [ne2 Y b7] at R7'
      have hE : Y + 128 = E := by omega
      have wE : E % 4294967296 = E := by omega
      have R5H := Lib.hid R5'
      have R7H := Lib.hid R7'
      clear EN E0 E1 b5 b7 R5 R7 R5' R7' ne1 ne2
      go_enter Try.func21, Try.ntmps21
      go_wp2_with (first | (go_at_call 36; ((with_reducible refine (R5H.out _).mono ?_); rintro e w' ⟨rfl, rfl⟩)) | (go_at_call 36; ((with_reducible refine (R7H.out _).mono ?_); rintro e w' ⟨rfl, rfl⟩)))
      refine (S2.out _ O1.out.at_).mono ?_
      rintro e w2 ⟨rfl, o2⟩
      have O2 := Lib.hid o2
      clear o2
      go_wp2_with fail
      refine (S3.out _ O2.out.at_).mono ?_
      rintro e w3 ⟨rfl, o3⟩
      go_wp2
      go_end0
      exact ⟨rfl, by rw [EQH.out]; exact ⟨(O1.out.1.trans O2.out.1).trans o3.1, o3.2⟩⟩
  · have R5' := R5 X x0 b2
    rw [ne1 X b5] at R5'
    have R7' := R7 X x0 b2
    by_cases b7 : X / 128 % 2 = 1
    · rw [show (X / 128 % 2 == 1) = true by simpa using b7] at R7'
      obtain rfl : X = E := by omega
      have R5H := Lib.hid R5'
      have R7H := Lib.hid R7'
      clear EN E0 E1 b5 b7 R5 R7 R5' R7' ne1 ne2
      go_enter Try.func21, Try.ntmps21
      go_wp2_with (first | (go_at_call 36; ((with_reducible refine (R5H.out _).mono ?_); rintro e w' ⟨rfl, rfl⟩)) | (go_at_call 36; ((with_reducible refine (R7H.out _).mono ?_); rintro e w' ⟨rfl, rfl⟩)))
      refine (S2.out _ O1.out.at_).mono ?_
      rintro e w2 ⟨rfl, o2⟩
      have O2 := Lib.hid o2
      clear o2
      go_wp2_with fail
      refine (S3.out _ O2.out.at_).mono ?_
      rintro e w3 ⟨rfl, o3⟩
      go_wp2
      go_end0
      exact ⟨rfl, by rw [EQH.out]; exact ⟨(O1.out.1.trans O2.out.1).trans o3.1, o3.2⟩⟩
    · rw [ne2 X b7] at R7'
      have hE : X + 128 = E := by omega
      have wE : E % 4294967296 = E := by omega
      have R5H := Lib.hid R5'
      have R7H := Lib.hid R7'
      clear EN E0 E1 b5 b7 R5 R7 R5' R7' ne1 ne2
      go_enter Try.func21, Try.ntmps21
      go_wp2_with (first | (go_at_call 36; ((with_reducible refine (R5H.out _).mono ?_); rintro e w' ⟨rfl, rfl⟩)) | (go_at_call 36; ((with_reducible refine (R7H.out _).mono ?_); rintro e w' ⟨rfl, rfl⟩)))
      refine (S2.out _ O1.out.at_).mono ?_
      rintro e w2 ⟨rfl, o2⟩
      have O2 := Lib.hid o2
      clear o2
      go_wp2_with fail
      refine (S3.out _ O2.out.at_).mono ?_
      rintro e w3 ⟨rfl, o3⟩
      go_wp2
      go_end0
      exact ⟨rfl, by rw [EQH.out]; exact ⟨(O1.out.1.trans O2.out.1).trans o3.1, o3.2⟩⟩
end Go.Proofs.Ytajbankfnnlocaa.Bm
