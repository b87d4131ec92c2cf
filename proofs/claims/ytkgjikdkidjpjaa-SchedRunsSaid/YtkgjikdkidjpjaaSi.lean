/- container/heap's Push, Pop, Remove over the queue of events, walked. -/
import Derived.Test.YtkgjikdkidjpjaaSh
namespace Go.Proofs.Ytkgjikdkidjpjaa.Si
set_option linter.unusedVariables false
set_option linter.unusedSimpArgs false
open Go.RowKit Go.Proofs.Ytkgjikdkidjpjaa.Wk Go.Proofs.Ytkgjikdkidjpjaa.Sp Go.Proofs.Ytkgjikdkidjpjaa.Sa Go.Proofs.Ytkgjikdkidjpjaa.Sb Go.Proofs.Ytkgjikdkidjpjaa.Sh

def PushEnd (w : World) (B sb : Nat) (now turn : Int) (v : Value) (l : List Ent) (x : Ent) (w' : World) : Prop :=
  ∃ v' l', Rep w' B sb now turn v' l' ∧ l'.Perm (l ++ [x]) ∧ Heap l' l'.length ∧ (v'.ownBlock = v.ownBlock ∨ ∃ g, v'.ownBlock = some g ∧ w.heap.size ≤ g) ∧ Fr (Foot sb v) w w'
set_option maxHeartbeats 4000000 in
theorem hpush_any {w : World} {B sb : Nat} {now turn : Int} {v : Value} {l : List Ent} (R : Rep w B sb now turn v l) (hl : l.length < 16) (H : Heap l l.length) (x1 x2 x3 : Int) :
    Calls Try.prog 22 #[.iface 56 (.pointer (some ⟨sb, 2, none⟩)), .iface 58 (.agg #[.int .i64 x1, .int .i64 x2, .int .i64 x3])] w fun e w' => e = .returned (.tuple #[]) ∧ PushEnd w B sb now turn v l (x1, x2, x3) w' := by
  have P := Lib.hid (qpush_any R hl x1 x2 x3)
  have HH := Lib.hid H
  have N1 := n_Push
  have N2 := n_Len
  have M1 := m_Push
  clear H
  have RH := Lib.hid R
  clear R
  go_enter Try.func22, Try.ntmps22
  go_wp2_with fail
  refine P.out.mono ?_
  rintro e w1 ⟨rfl, ⟨v1, R1, hv⟩, F1⟩
  have C := cellsAt R1.blk 2
  have M2 := fun f => m_Len f sb 2 v1 w1 C
  have L := Lib.hid (len_any R1.own R1.len)
  have U := up_any R1 (l.length + 1) l.length (by simp) (by omega) (push_up HH.out _)
  have e1 : ((l ++ [(x1, x2, x3)]).length : Int) - 1 = (l.length : Int) := by simp
  have e0 : (l ++ [(x1, x2, x3)]).length = l.length + 1 := by simp
  have E0 := Lib.hid e0
  have b0 : (l ++ [(x1, x2, x3)]).length ≤ 16 := by omega
  have UH := Lib.hid U
  have R1H := Lib.hid R1
  have F1H := Lib.hid F1
  have HV := Lib.hid hv
  generalize hk : ((l ++ [(x1, x2, x3)]).length) = k at *
  clear R1 F1 hv C U e0
  go_wp2_with fail
  refine L.out.mono ?_
  rintro e w2 ⟨rfl, rfl⟩
  go_wp2_with fail
  refine UH.out.mono ?_
  rintro e w2 ⟨rfl, l2, S, h2⟩
  have S' := Lib.hid S
  have h2' := Lib.hid h2
  clear S h2 M2
  go_wp2_with fail
  go_end0
  have len := S'.out.len
  rw [hk] at len
  refine ⟨rfl, v1, l2, S'.out.rep, S'.out.perm, by rw [len, E0.out]; exact h2'.out, HV.out, F1H.out.trans S'.out.fr fun k hk hlt => ?_⟩
  rcases HV.out with e | ⟨g, e, hg⟩
  · exact .inr (by rw [← e]; exact hk)
  · rw [e] at hk; cases hk; omega
def PopEnd (w : World) (B sb : Nat) (now turn : Int) (v : Value) (l : List Ent) (x : Ent) (w' : World) : Prop :=
  ∃ v' l', Rep w' B sb now turn v' l' ∧ (x :: l').Perm l ∧ Heap l' l'.length ∧ v'.ownBlock = v.ownBlock ∧ Fr (Foot sb v) w w'
theorem perm_last {l : List Ent} {n : Nat} (h : l.length = n + 1) : (at' l n :: l.take n).Perm l := by
  have e : l = l.take n ++ [at' l n] := by
    rw [at_get (by omega)]
    apply List.ext_getElem
    · simp; omega
    · intro i h1 h2
      by_cases hi : i < n
      · rw [List.getElem_append_left (by simp; omega)]; simp
      · have : i = n := by omega
        subst this
        rw [List.getElem_append_right (by simp; omega)]; simp
  have p : (at' l n :: l.take n).Perm (l.take n ++ [at' l n]) := (List.perm_append_comm (l₁ := [at' l n]) (l₂ := l.take n))
  rw [← e] at p
  exact p
/-- The last one is taken. -/
theorem pop_close {w w1 w2 : World} {B sb : Nat} {now turn : Int} {v v' : Value} {l l1 : List Ent} {n : Nat} {x : Ent} (S : Same w B sb now turn v l n w1 l1) (hl : l.length = n + 1) (H : Heap l1 n) (hx : at' l n = x)
    (R : Rep w2 B sb now turn v' (l1.take n)) (hv : v'.ownBlock = v.ownBlock) (F : Fr (fun k => k = sb) w1 w2) (l0 : List Ent) (hp : l.Perm l0) {w0 : World} (F0 : Fr (fun k => v.ownBlock = some k) w0 w) : PopEnd w0 B sb now turn v l0 x w2 := by
  have len := S.len
  refine ⟨v', l1.take n, R, ?_, ?_, hv, ?_⟩
  · have p := perm_last (l := l1) (n := n) (by omega)
    rw [S.far n (Nat.le_refl _), hx] at p
    exact (p.trans S.perm).trans hp
  · rw [List.length_take, len, hl, Nat.min_eq_left (by omega)]
    exact heap_take H n (Nat.le_refl _)
  · exact ((F0.trans S.fr fun k h _ => h).mono (T := Foot sb v) fun k h _ => .inr h).trans F fun k h _ => .inl h
set_option maxHeartbeats 4000000 in
theorem hpop_any {w : World} {B sb : Nat} {now turn : Int} {v : Value} {l : List Ent} (R : Rep w B sb now turn v l) (n : Nat) (hl : l.length = n + 1) (H : Heap l l.length) :
    Calls Try.prog 23 #[.iface 56 (.pointer (some ⟨sb, 2, none⟩))] w fun e w' => e = .returned (.iface 58 (.agg (cs (at' l 0)).toArray)) ∧ PopEnd w B sb now turn v l (at' l 0) w' := by
  obtain ⟨x, hx⟩ : ∃ x, at' l 0 = x := ⟨_, rfl⟩
  rw [hx]
  have X0 := Lib.hid hx
  clear hx
  have L := Lib.hid (len_any R.own R.len)
  have Z := Lib.hid (swap_any R.own R.len 0 n (by omega) (by omega))
  have N1 := n_Pop
  have N2 := n_Len
  have N3 := n_Swap
  have M1 := m_Pop
  have C := cellsAt R.blk 2
  have M2 := fun f => m_Len f sb 2 v w C
  have M3 := fun f => m_Swap f sb 2 v w C
  have e1 : (l.length : Int) - 1 = (n : Int) := by omega
  have l16 := R.len
  have HL := Lib.hid hl
  have RH := Lib.hid R
  have HH := Lib.hid H
  clear R H C hl
  go_enter Try.func23, Try.ntmps23
  go_wp2_with fail
  refine L.out.mono ?_
  rintro e w1 ⟨rfl, rfl⟩
  go_wp2_with fail
  refine Z.out.mono ?_
  rintro e w1 ⟨rfl, ho, hg⟩
  have hl := HL.out
  have S1 := (Same.refl (m := n + 1) RH.out).swap (i := 0) (k := n) (by omega) (by omega) (by omega) (by omega) ho hg
  have D := down_any S1.rep n 0 (by rw [swp_length]; omega) (by omega) (swp_dn (by omega) (by rw [← hl]; exact HH.out) (by omega))
  have DH := Lib.hid D
  have S1H := Lib.hid S1
  have A0 : Hid (at' (swp l 0 n) n = x) := Lib.hid (by rw [at_swp (by omega) (by omega), if_pos rfl, X0.out])
  clear ho hg S1 D M2 M3 hl
  go_wp2_with fail
  refine DH.out.mono ?_
  rintro e w2 ⟨l2, S2, he⟩
  have H2 : Hid (Heap l2 n) := Lib.hid (by
    rcases he with ⟨_, h⟩ | ⟨_, h⟩
    · exact h
    · exact up_done h (.inl rfl))
  have hl := HL.out
  have P := qpop_any S2.rep n (by rw [S2.len, swp_length]; exact hl)
  rw [S2.far n (Nat.le_refl _), A0.out] at P
  have PH := Lib.hid P
  have S2H := Lib.hid S2
  have hE : e = .returned (.bool true) ∨ e = .returned (.bool false) := by
    rcases he with ⟨h, _⟩ | ⟨h, _⟩
    · exact .inl h
    · exact .inr h
  clear he S2 P hl
  rcases hE with rfl | rfl
  all_goals
    go_wp2_with fail
    refine PH.out.mono ?_
    rintro e w3 ⟨rfl, ⟨v3, R3, hv⟩, F3⟩
    have R3H := Lib.hid R3
    have HV := Lib.hid hv
    have F3H := Lib.hid F3
    clear R3 hv F3
    go_wp2_with fail
    go_ret
    have hl := HL.out
    exact ⟨rfl, pop_close S2H.out (by rw [swp_length]; exact hl) H2.out A0.out R3H.out HV.out F3H.out l S1H.out.perm S1H.out.fr⟩
set_option maxHeartbeats 8000000 in
/-- What was removed is handed back. -/
theorem hremove_any {w : World} {B sb : Nat} {now turn : Int} {v : Value} {l : List Ent} (R : Rep w B sb now turn v l) (n i : Nat) (hl : l.length = n + 1) (hi : i ≤ n) (H : Heap l l.length) :
    Calls Try.prog 24 #[.iface 56 (.pointer (some ⟨sb, 2, none⟩)), .int .i64 i] w fun e w' => e = .returned (.iface 58 (.agg (cs (at' l i)).toArray)) ∧ PopEnd w B sb now turn v l (at' l i) w' := by
  obtain ⟨x, hx⟩ : ∃ x, at' l i = x := ⟨_, rfl⟩
  rw [hx]
  have X0 := Lib.hid hx
  clear hx
  have L := Lib.hid (len_any R.own R.len)
  have N1 := n_Pop
  have N2 := n_Len
  have N3 := n_Swap
  have M1 := m_Pop
  have C := cellsAt R.blk 2
  have M2 := fun f => m_Len f sb 2 v w C
  have e1 : (l.length : Int) - 1 = (n : Int) := by omega
  have l16 := R.len
  have HL := Lib.hid hl
  have RH := Lib.hid R
  have HH := Lib.hid H
  by_cases hin : i = n
  · subst hin
    have q : ((i : Int) != (i : Int)) = false := by simp
    have P := qpop_any R i hl
    rw [X0.out] at P
    have PH := Lib.hid P
    clear R H C hl P
    go_enter Try.func24, Try.ntmps24
    go_wp2_with fail
    refine L.out.mono ?_
    rintro e w1 ⟨rfl, rfl⟩
    go_wp2_with fail
    refine PH.out.mono ?_
    rintro e w3 ⟨rfl, ⟨v3, R3, hv⟩, F3⟩
    have R3H := Lib.hid R3
    have HV := Lib.hid hv
    have F3H := Lib.hid F3
    clear R3 hv F3 M2
    go_wp2_with fail
    go_ret
    have hl := HL.out
    refine ⟨rfl, pop_close (Same.refl RH.out) hl ?_ X0.out R3H.out HV.out F3H.out l (List.Perm.refl _) (Fr.refl _ _)⟩
    exact fun k k1 k2 => HH.out k k1 (by omega)
  · have q : ((n : Int) != (i : Int)) = true := by
      have : (n : Int) ≠ (i : Int) := by omega
      simpa using this
    have Z := Lib.hid (swap_any R.own R.len i n (by omega) (by omega))
    have M3 := fun f => m_Swap f sb 2 v w C
    clear R H C hl
    go_enter Try.func24, Try.ntmps24
    go_wp2_with fail
    refine L.out.mono ?_
    rintro e w1 ⟨rfl, rfl⟩
    go_wp2_with fail
    refine Z.out.mono ?_
    rintro e w1 ⟨rfl, ho, hg⟩
    have hl := HL.out
    have S1 := (Same.refl (m := n + 1) RH.out).swap (i := i) (k := n) (by omega) (by omega) (by omega) (by omega) ho hg
    have D := down_any S1.rep n i (by rw [swp_length]; omega) (by omega) (swp_dn (by omega) (by rw [← hl]; exact HH.out) (by omega))
    have DH := Lib.hid D
    have S1H := Lib.hid S1
    have A0 : Hid (at' (swp l i n) n = x) := Lib.hid (by rw [at_swp (by omega) (by omega), if_pos rfl, X0.out])
    clear ho hg S1 D M2 M3 hl
    go_wp2_with fail
    refine DH.out.mono ?_
    rintro e w2 ⟨l2, S2, he⟩
    have hl := HL.out
    rcases he with ⟨rfl, h2⟩ | ⟨rfl, h2⟩
    · have H2 := Lib.hid h2
      have P := qpop_any S2.rep n (by rw [S2.len, swp_length]; exact hl)
      rw [S2.far n (Nat.le_refl _), A0.out] at P
      have PH := Lib.hid P
      have S2H := Lib.hid S2
      clear S2 P hl h2
      go_wp2_with fail
      refine PH.out.mono ?_
      rintro e w3 ⟨rfl, ⟨v3, R3, hv⟩, F3⟩
      have R3H := Lib.hid R3
      have HV := Lib.hid hv
      have F3H := Lib.hid F3
      clear R3 hv F3
      go_wp2_with fail
      go_ret
      have hl := HL.out
      exact ⟨rfl, pop_close S2H.out (by rw [swp_length]; exact hl) H2.out A0.out R3H.out HV.out F3H.out l S1H.out.perm S1H.out.fr⟩
    · have U := up_any S2.rep n i (by rw [S2.len, swp_length]; omega) (by omega) h2
      have UH := Lib.hid U
      have S2H := Lib.hid S2
      clear S2 U hl h2
      go_wp2_with fail
      refine UH.out.mono ?_
      rintro e w3 ⟨rfl, l3, S3, h3⟩
      have hl := HL.out
      have S23 : Same w1 B sb now turn v (swp l i n) n w3 l3 := ⟨S3.rep, S3.perm.trans S2H.out.perm, fun j hj => (S3.far j hj).trans (S2H.out.far j hj), S2H.out.fr.trans S3.fr fun k h _ => h⟩
      have P := qpop_any S3.rep n (by rw [S3.len, S2H.out.len, swp_length]; exact hl)
      rw [S23.far n (Nat.le_refl _), A0.out] at P
      have PH := Lib.hid P
      have S23H := Lib.hid S23
      have H3 := Lib.hid h3
      clear S3 S23 P hl h3
      go_wp2_with fail
      refine PH.out.mono ?_
      rintro e w4 ⟨rfl, ⟨v3, R3, hv⟩, F3⟩
      have R3H := Lib.hid R3
      have HV := Lib.hid hv
      have F3H := Lib.hid F3
      clear R3 hv F3
      go_wp2_with fail
      go_ret
      have hl := HL.out
      exact ⟨rfl, pop_close S23H.out (by rw [swp_length]; exact hl) H3.out A0.out R3H.out HV.out F3H.out l S1H.out.perm S1H.out.fr⟩
end Go.Proofs.Ytkgjikdkidjpjaa.Si
