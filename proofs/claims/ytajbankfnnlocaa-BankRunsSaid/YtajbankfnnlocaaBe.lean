/- Package bank by what it is good for: each call in terms of registers by mode and number. -/
import Derived.Test.YtajbankfnnlocaaBd
namespace Go.Proofs.Ytajbankfnnlocaa.Be
set_option linter.unusedVariables false
set_option linter.unusedSimpArgs false
open Go.RowKit Go.Proofs.Ytajbankfnnlocaa.Bt Go.Proofs.Ytajbankfnnlocaa.Wk Go.Proofs.Ytajbankfnnlocaa.Sg Go.Proofs.Ytajbankfnnlocaa.Ba Go.Proofs.Ytajbankfnnlocaa.Bb Go.Proofs.Ytajbankfnnlocaa.Bc Go.Proofs.Ytajbankfnnlocaa.Bd

/-- Block b is a bank that holds A. -/
structure At (b : Nat) (A : Ab) (P : Bk) (w : World) : Prop where
  hs : w.heap[b]? = some (bk P)
  rep : Rep P A
  c0 : 0 ≤ A.st
  c1 : A.st < 4294967296
/-- Block b has become a bank that holds A; all else is as it was. -/
def Got (b : Nat) (A : Ab) (w w' : World) : Prop := ∃ P, Only b (bk P) w w' ∧ Rep P A ∧ 0 ≤ A.st ∧ A.st < 4294967296
theorem Got.at_ {b : Nat} {A : Ab} {w w' : World} (h : Got b A w w') : ∃ P, At b A P w' := by
  obtain ⟨P, o, r, a, c⟩ := h
  exact ⟨P, o.at_, r, a, c⟩
theorem At.got {b : Nat} {A : Ab} {P : Bk} {w : World} (h : At b A P w) : Got b A w w := ⟨P, Only.refl h.hs, h.rep, h.c0, h.c1⟩
theorem At.drewN {b : Nat} {A : Ab} {P : Bk} {w : World} (h : At b A P w) (n : Nat) : At b A P (w.drewN n) := ⟨h.hs, h.rep, h.c0, h.c1⟩
theorem Got.trans {b : Nat} {A A' : Ab} {w w' w'' : World} (h : Got b A w w') (h' : Got b A' w' w'') : Got b A' w w'' := by
  obtain ⟨P, o, r, a, c⟩ := h
  obtain ⟨Q, o', r', a', c'⟩ := h'
  exact ⟨Q, o.trans o', r', a', c'⟩
theorem Got.below {B b : Nat} {A : Ab} {w W W' : World} (h : Below B w W) (h' : Got b A W W') (hb : B ≤ b) (hB : B ≤ W.heap.size) : Below B w W' := by
  obtain ⟨P, o, _⟩ := h'
  exact below_only h o hb hB
theorem Got.keep {b c : Nat} {A : Ab} {x : Obj} {w w' : World} (h : Got b A w w') (hc : w.heap[c]? = some x) (hn : c ≠ b) : w'.heap[c]? = some x := by
  obtain ⟨P, o, _⟩ := h
  exact o.keep hc hn
/-- A number's place among sixteen. -/
def nb (i : Int) : Nat := (i % 16).toNat
theorem nb_eq (i : Int) : i % 16 = nb i := by unfold nb; omega
theorem nb_lt (i : Int) : nb i < 16 := by unfold nb; omega
def getA (A : Ab) (k : Nat) : Int := A.R (pm (sl A.st) k) k
def setAb (A : Ab) (k : Nat) (x : Int) : Ab := { A with R := upd2 A.R (pm (sl A.st) k) k x }
def setUserA (A : Ab) (k : Nat) (x : Int) : Ab := { A with R := upd2 A.R 0 k x }
def setSavedA (A : Ab) (x : Int) : Ab := if sl A.st = 0 then A else { A with S := upd A.S (sl A.st) x }
def setStA (A : Ab) (x : Int) : Ab := { A with st := x }
theorem get_abs (b : Nat) (i : Int) (A : Ab) (P : Bk) (w : World) (h : At b A P w) :
    Calls Try.prog 13 #[.pointer (some ⟨b, 0, none⟩), .int .i64 i] w fun e w' => e = .returned (.int .u32 (getA A (nb i))) ∧ w = w' := by
  have := get_any b (nb i) i P (nb_eq i) w h.hs
  rw [h.rep.r _ (nb_lt i)] at this
  exact this
theorem set_abs (b : Nat) (i x : Int) (A : Ab) (P : Bk) (w : World) (h : At b A P w) :
    Calls Try.prog 11 #[.pointer (some ⟨b, 0, none⟩), .int .i64 i, .int .u32 x] w fun e w' => e = .returned (.tuple #[]) ∧ Got b (setAb A (nb i) x) w w' :=
  (set_any b (nb i) i x P (nb_eq i) w h.hs).mono fun _ _ k => ⟨k.1, _, k.2, rep_set h.rep _ (nb_lt i) x, h.c0, h.c1⟩
theorem status_abs (b : Nat) (A : Ab) (P : Bk) (w : World) (h : At b A P w) :
    Calls Try.prog 22 #[.pointer (some ⟨b, 0, none⟩)] w fun e w' => e = .returned (.int .u32 A.st) ∧ w = w' := by
  have := status_any b P w h.hs
  rw [h.rep.c] at this
  exact this
theorem saved_abs (b : Nat) (A : Ab) (P : Bk) (w : World) (h : At b A P w) :
    Calls Try.prog 14 #[.pointer (some ⟨b, 0, none⟩)] w fun e w' => e = .returned (.int .u32 (savedA A)) ∧ w = w' := by
  have := saved_any b P (by rw [h.rep.c]; exact h.c0) (by rw [h.rep.c]; exact h.c1) w h.hs
  rw [rep_saved h.rep] at this
  exact this
theorem setSaved_abs (b : Nat) (x : Int) (A : Ab) (P : Bk) (w : World) (h : At b A P w) :
    Calls Try.prog 12 #[.pointer (some ⟨b, 0, none⟩), .int .u32 x] w fun e w' => e = .returned (.tuple #[]) ∧ Got b (setSavedA A x) w w' :=
  (setSaved_any b P x (by rw [h.rep.c]; exact h.c0) (by rw [h.rep.c]; exact h.c1) w h.hs).mono fun _ _ k => ⟨k.1, _, k.2, rep_setSaved h.rep x, by unfold setSavedA; split <;> exact h.c0, by unfold setSavedA; split <;> exact h.c1⟩
theorem user_abs (b : Nat) (i : Int) (A : Ab) (P : Bk) (w : World) (h : At b A P w) :
    Calls Try.prog 15 #[.pointer (some ⟨b, 0, none⟩), .int .i64 i] w fun e w' => e = .returned (.int .u32 (A.R 0 (nb i))) ∧ w = w' := by
  have := user_any b (nb i) i P (nb_eq i) (by rw [h.rep.c]; exact h.c0) (by rw [h.rep.c]; exact h.c1) w h.hs
  rw [rep_user h.rep _ (nb_lt i)] at this
  exact this
theorem setUser_abs (b : Nat) (i x : Int) (A : Ab) (P : Bk) (w : World) (h : At b A P w) :
    Calls Try.prog 30 #[.pointer (some ⟨b, 0, none⟩), .int .i64 i, .int .u32 x] w fun e w' => e = .returned (.tuple #[]) ∧ Got b (setUserA A (nb i) x) w w' :=
  (setUser_any b (nb i) i x P (nb_eq i) (by rw [h.rep.c]; exact h.c0) (by rw [h.rep.c]; exact h.c1) w h.hs).mono fun _ _ k => ⟨k.1, _, k.2, rep_setUser h.rep _ (nb_lt i) x, h.c0, h.c1⟩
theorem setStatus_abs (b : Nat) (x : Int) (x0 : 0 ≤ x) (x1 : x < 4294967296) (A : Ab) (P : Bk) (w : World) (h : At b A P w) :
    Calls Try.prog 10 #[.pointer (some ⟨b, 0, none⟩), .int .u32 x] w fun e w' => e = .returned (.tuple #[]) ∧ Got b (setStA A x) w w' := by
  have c0 : 0 ≤ P.c := by rw [h.rep.c]; exact h.c0
  have c1 : P.c < 4294967296 := by rw [h.rep.c]; exact h.c1
  have r := rep_setSt h.rep x
  by_cases e : sl P.c = sl x
  · refine (setStatus_same b x P c0 c1 x0 x1 e w h.hs).mono fun _ _ k => ⟨k.1, _, k.2, ?_, x0, x1⟩
    unfold setStF at r
    rw [if_pos e] at r
    exact r
  · exact (setStatus_else b _ _ x P c0 c1 x0 x1 rfl rfl e w h.hs).mono fun _ _ k => ⟨k.1, _, k.2, r, x0, x1⟩
/-- An exception's status word. -/
def entW (old m : Int) : Int := Go.bits .or .u32 (Go.bits .or .u32 (Go.bits .andNot .u32 old 191) (Go.bits .and .u32 m 31)) 128
theorem entW_in (old m : Int) (h0 : 0 ≤ old) (h1 : old < 4294967296) (m0 : 0 ≤ m) (m1 : m < 4294967296) : 0 ≤ entW old m ∧ entW old m < 4294967296 ∧ ∃ a b : Nat, old = a ∧ m = b ∧ entW old m = ((((a ^^^ (a &&& 191)) ||| (b &&& 31)) ||| 128 : Nat) : Int) := by
  obtain ⟨a, rfl⟩ := Int.eq_ofNat_of_zero_le h0
  obtain ⟨b, rfl⟩ := Int.eq_ofNat_of_zero_le m0
  have la : a ^^^ (a &&& 191) < 4294967296 := Nat.xor_lt_two_pow (n := 32) (by omega) (Nat.and_lt_two_pow (n := 32) _ (by decide))
  have lb : b &&& 31 < 4294967296 := Nat.and_lt_two_pow (n := 32) _ (by decide)
  have lc := Nat.or_lt_two_pow (n := 32) la lb
  have ld := Nat.or_lt_two_pow (n := 32) lc (show 128 < 2 ^ 32 by decide)
  have e1 : Go.bits .andNot .u32 (a : Int) 191 = ((a ^^^ (a &&& 191) : Nat) : Int) := andNot_nat .u32 ws_u32 a 191 (by simp [IntKind.bits]; omega) (by decide)
  have e2 : Go.bits .and .u32 (b : Int) 31 = ((b &&& 31 : Nat) : Int) := and_nat .u32 ws_u32 b 31 (by simp [IntKind.bits]; omega) (by decide)
  have e3 := or_nat .u32 ws_u32 _ _ la lb
  have e4 : Go.bits .or .u32 (((a ^^^ (a &&& 191)) ||| (b &&& 31) : Nat) : Int) 128 = ((((a ^^^ (a &&& 191)) ||| (b &&& 31)) ||| 128 : Nat) : Int) := or_nat .u32 ws_u32 _ 128 lc (by decide)
  have e : entW a b = ((((a ^^^ (a &&& 191)) ||| (b &&& 31)) ||| 128 : Nat) : Int) := by
    unfold entW; rw [e1, e2, e3, e4]
  exact ⟨by rw [e]; omega, by rw [e]; omega, a, b, rfl, rfl, e⟩
def enterA (A : Ab) (m back : Int) : Ab := setAb (setSavedA (setStA A (entW A.st m)) A.st) 14 back
set_option maxHeartbeats 1000000 in
theorem enter_abs (b : Nat) (m back : Int) (m0 : 0 ≤ m) (m1 : m < 4294967296) (A : Ab) (P : Bk) (w : World) (h : At b A P w) :
    Calls Try.prog 27 #[.pointer (some ⟨b, 0, none⟩), .int .u32 m, .int .u32 back] w fun e w' => e = .returned (.tuple #[]) ∧ Got b (enterA A m back) w w' := by
  obtain ⟨E0, E1, _⟩ := entW_in A.st m h.c0 h.c1 m0 m1
  have C : w.cell? ⟨b, 44, none⟩ = some (.int .u32 A.st) := by rw [← h.rep.c]; exact (cellsAt h.hs _).trans (atC P)
  have S1 := Lib.hid (setStatus_abs b (entW A.st m) E0 E1 A P w h)
  have S2 := Lib.hid (fun P w h => setSaved_abs b A.st (setStA A (entW A.st m)) P w h)
  have fin : ∀ Q w', At b (setSavedA (setStA A (entW A.st m)) A.st) Q w' → Got b (enterA A m back) w' (w'.setCell ⟨b, 14, none⟩ (.int .u32 back)) := fun Q w' k => by
    refine ⟨_, ((Only.refl k.hs).set (j := 14) (.int .u32 back)).to (show _ = bk { Q with r := upd Q.r 14 back } by rw [setR Q (by decide)]; rfl), rep_set k.rep 14 (by decide) back, k.c0, k.c1⟩
  have FH := Lib.hid fin
  unfold entW at S1
  clear h fin E0 E1
  go_enter Try.func27, Try.ntmps27
  go_wp2_with fail
  refine S1.out.mono ?_
  rintro e w1 ⟨rfl, g1⟩
  obtain ⟨P1, a1⟩ := g1.at_
  have G1 := Lib.hid g1
  have A1 := Lib.hid a1
  clear g1 a1
  go_wp2_with fail
  refine (S2.out P1 w1 A1.out).mono ?_
  rintro e w2 ⟨rfl, g2⟩
  obtain ⟨P2, a2⟩ := g2.at_
  have C2 : w2.cell? ⟨b, 14, none⟩ = some (.int .u32 (P2.r 14)) := (cellsAt a2.hs _).trans (atR P2 (by decide))
  have F2 := freeAt a2.hs
  have G2 := Lib.hid g2
  have A2 := Lib.hid a2
  clear g2 a2
  go_wp2_with fail
  go_end0
  exact ⟨rfl, (G1.out.trans G2.out).trans (FH.out P2 w2 A2.out)⟩
/-- A new bank. -/
def newA : Ab := ⟨fun _ _ => 0, fun _ => 0, 31⟩
def newP : Bk := ⟨fun _ => 0, fun _ => 0, fun _ => 0, fun _ => 0, 31⟩
theorem rep_new : Rep newP newA := ⟨rfl, fun _ _ => rfl, fun _ _ _ => rfl, fun _ _ _ => rfl, fun _ _ _ => rfl, fun _ _ _ => rfl, fun _ _ _ => rfl⟩
set_option maxHeartbeats 1000000 in
theorem new_abs (w : World) :
    Calls Try.prog 9 #[] w fun e w' => e = .returned (.pointer (some ⟨w.heap.size, 0, none⟩)) ∧ w' = w.alloc (bk newP) := by
  go_enter Try.func9, Try.ntmps9
  go_wp2
  go_ret
  exact ⟨rfl, rfl⟩
theorem new_at (w : World) : At w.heap.size newA newP (w.alloc (bk newP)) := ⟨alloc_new w _, rep_new, by decide, by decide⟩
end Go.Proofs.Ytajbankfnnlocaa.Be
