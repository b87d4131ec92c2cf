/- container/heap over the queue of events, walked. -/
import Derived.Test.YtkgjikdkidjpjaaSb
namespace Go.Proofs.Ytkgjikdkidjpjaa.Sh
set_option linter.unusedVariables false
set_option linter.unusedSimpArgs false
open Go.RowKit Go.Proofs.Ytkgjikdkidjpjaa.Wk Go.Proofs.Ytkgjikdkidjpjaa.Sp Go.Proofs.Ytkgjikdkidjpjaa.Sa Go.Proofs.Ytkgjikdkidjpjaa.Sb

theorem wrap_ok (xt : TypeId) (a : Addr) (s1 s2 : ByteArray) (w : World) : (Builtin.ssaWrapNilChk_ #[xt] xt #[.pointer (some a), .string s1, .string s2]).run Try.prog w = .ok (.pointer (some a)) w := rfl
theorem meth_val (fuel : Nat) (t e : TypeId) (name : String) (i : TypeInfo) (m : Method) (f : FuncId) (b o : Nat) (v : Value) (w : World)
    (hi : Try.prog.info? t = some i) (hm : i.methods.find? (·.name == name) = some m) (hp : m.path = #[]) (hf : m.func = some (f, false))
    (hu : Try.prog.underlying t = some (.pointer e)) (hl : (loadVar e ⟨b, o, none⟩).run Try.prog w = .ok v w) : (method (fuel + 1) t (.pointer (some ⟨b, o, none⟩)) name).run Try.prog w = .ok (f, v) w := by
  unfold method
  simp [typeInfo, hi, hm, hp, follow, hf, receiverAt, run_underlying hu, Place.get, asAddr, strVal, wrap_ok, hl]
theorem load_q (b o : Nat) (v : Value) (w : World) (h : w.cell? ⟨b, o, none⟩ = some v) : (loadVar 52 ⟨b, o, none⟩).run Try.prog w = .ok v w := by
  unfold loadVar
  go_simp
theorem m_Len (fuel b o : Nat) (v : Value) (w : World) (h : w.cell? ⟨b, o, none⟩ = some v) : (method (fuel + 1) 56 (.pointer (some ⟨b, o, none⟩)) "Len").run Try.prog w = .ok (45, v) w :=
  meth_val fuel 56 52 "Len" _ _ 45 b o _ w (by rfl) (by rfl) (by rfl) (by rfl) (by kernel_rfl) (load_q b o v w h)
theorem n_Len (fuel : Nat) (a : Addr) (w : World) : (nilAhead (fuel + 1) 56 (.pointer (some a)) "Len").run Try.prog w = .ok (some false) w := by kernel_rfl
theorem m_Less (fuel b o : Nat) (v : Value) (w : World) (h : w.cell? ⟨b, o, none⟩ = some v) : (method (fuel + 1) 56 (.pointer (some ⟨b, o, none⟩)) "Less").run Try.prog w = .ok (46, v) w :=
  meth_val fuel 56 52 "Less" _ _ 46 b o _ w (by rfl) (by rfl) (by rfl) (by rfl) (by kernel_rfl) (load_q b o v w h)
theorem n_Less (fuel : Nat) (a : Addr) (w : World) : (nilAhead (fuel + 1) 56 (.pointer (some a)) "Less").run Try.prog w = .ok (some false) w := by kernel_rfl
theorem m_Swap (fuel b o : Nat) (v : Value) (w : World) (h : w.cell? ⟨b, o, none⟩ = some v) : (method (fuel + 1) 56 (.pointer (some ⟨b, o, none⟩)) "Swap").run Try.prog w = .ok (47, v) w :=
  meth_val fuel 56 52 "Swap" _ _ 47 b o _ w (by rfl) (by rfl) (by rfl) (by rfl) (by kernel_rfl) (load_q b o v w h)
theorem n_Swap (fuel : Nat) (a : Addr) (w : World) : (nilAhead (fuel + 1) 56 (.pointer (some a)) "Swap").run Try.prog w = .ok (some false) w := by kernel_rfl
theorem m_Push (fuel : Nat) (a : Addr) (w : World) : (method (fuel + 1) 56 (.pointer (some a)) "Push").run Try.prog w = .ok (49, .pointer (some a)) w := by kernel_rfl
theorem n_Push (fuel : Nat) (a : Addr) (w : World) : (nilAhead (fuel + 1) 56 (.pointer (some a)) "Push").run Try.prog w = .ok (some false) w := by kernel_rfl
theorem m_Pop (fuel : Nat) (a : Addr) (w : World) : (method (fuel + 1) 56 (.pointer (some a)) "Pop").run Try.prog w = .ok (48, .pointer (some a)) w := by kernel_rfl
theorem n_Pop (fuel : Nat) (a : Addr) (w : World) : (nilAhead (fuel + 1) 56 (.pointer (some a)) "Pop").run Try.prog w = .ok (some false) w := by kernel_rfl
/-- Behind an exchange, a sifting. -/
structure Same (w : World) (B sb : Nat) (now turn : Int) (v : Value) (l : List Ent) (m : Nat) (w' : World) (l' : List Ent) : Prop where
  rep : Rep w' B sb now turn v l'
  perm : l'.Perm l
  far : ∀ i, m ≤ i → at' l' i = at' l i
  fr : Fr (fun k => v.ownBlock = some k) w w'
theorem Same.refl {w : World} {B sb : Nat} {now turn : Int} {v : Value} {l : List Ent} {m : Nat} (R : Rep w B sb now turn v l) : Same w B sb now turn v l m w l := ⟨R, List.Perm.refl _, fun _ _ => rfl, Fr.refl _ _⟩
theorem Same.len {w : World} {B sb : Nat} {now turn : Int} {v : Value} {l : List Ent} {m : Nat} {w' : World} {l' : List Ent} (h : Same w B sb now turn v l m w' l') : l'.length = l.length := h.perm.length_eq
theorem Same.below {w : World} {B sb : Nat} {now turn : Int} {v : Value} {l : List Ent} {m : Nat} {w' w2 : World} {l' : List Ent} (h : Same w B sb now turn v l m w' l') (hb : Below w'.heap.size w' w2) : Same w B sb now turn v l m w2 l' :=
  ⟨h.rep.keep (Fr.of_below (S := fun _ => False) hb) (fun e => e) (fun _ _ e => e), h.perm, h.far, h.fr.trans (Fr.of_below hb) fun _ e _ => e⟩
theorem Same.swap {w : World} {B sb : Nat} {now turn : Int} {v : Value} {l : List Ent} {m : Nat} {w' w2 : World} {l' : List Ent} {i k : Nat} (h : Same w B sb now turn v l m w' l') (hi : i < l'.length) (hk : k < l'.length) (im : i < m) (km : k < m)
    (ho : own w2 B v (swp l' i k)) (hg : w'.grownBy w2 v.ownBlock) : Same w B sb now turn v l m w2 (swp l' i k) :=
  ⟨⟨own_grown (sb := sb) (now := now) (turn := turn) (l := l) (B := B) hg h.rep.ne h.rep.blk, ho, h.rep.ne, h.rep.le, by rw [swp_length]; exact h.rep.len⟩, (swp_perm hi hk).trans h.perm, fun j hj => by
    rw [at_swp hi hk, if_neg (by omega), if_neg (by omega)]; exact h.far j hj, h.fr.trans (Fr.of_grown hg) fun _ e _ => e.symm⟩
def UpEnd (w : World) (B sb : Nat) (now turn : Int) (v : Value) (l : List Ent) (m : Nat) (w' : World) : Prop := ∃ l', Same w B sb now turn v l m w' l' ∧ Heap l' m
set_option maxHeartbeats 4000000 in
theorem up_any {w : World} {B sb : Nat} {now turn : Int} {v : Value} {l : List Ent} (R : Rep w B sb now turn v l) (m j : Nat) (hm : m ≤ l.length) (hj : j < m) (U : Up l m j) :
    Calls Try.prog 26 #[.iface 56 (.pointer (some ⟨sb, 2, none⟩)), .int .i64 j] w fun e w' => e = .returned (.tuple #[]) ∧ UpEnd w B sb now turn v l m w' := by
  have RH := Lib.hid R
  have UH := Lib.hid U
  have hl : l.length ≤ 16 := R.len
  clear R U
  go_enter Try.func26, Try.ntmps26
  go_wp2
  go_loopw [1] (fun jv wr => ∃ (j : Nat) (l1 : List Ent), jv = .int .i64 j ∧ j < m ∧ Same w B sb now turn v l m wr l1 ∧ Up l1 m j) (fun jv _ => (intOf jv).toNat)
  case atStart => exact ⟨j, l, rfl, hj, Same.refl RH.out, UH.out⟩
  case round =>
    obtain ⟨j, l1, rfl, hj, S, U⟩ := hrel
    have len := S.len
    by_cases j0 : j = 0
    · subst j0
      have UH := Lib.hid (up_done U (.inl rfl))
      have SH := Lib.hid S
      clear U S
      go_wp2
      go_end0
      exact ⟨rfl, l1, SH.out, UH.out⟩
    · have p1 : ((j : Int) - 1) / 2 = (par j : Int) := by unfold par; omega
      have p2 : par j < j := by unfold par; omega
      have p3 : ((par j : Int) == (j : Int)) = false := by
        have : (par j : Int) ≠ (j : Int) := by omega
        simpa using this
      have C := cellsAt S.rep.blk 2
      have M1 := fun f => m_Less f sb 2 v wr C
      have N1 := n_Less
      have N2 := n_Swap
      have L := less_any S.rep.own S.rep.len j (par j) (by omega) (by omega)
      have SH := Lib.hid S
      have UH := Lib.hid U
      by_cases hd : lt (at' l1 j) (at' l1 (par j))
      · rw [decide_eq_true hd] at L
        have LH := Lib.hid L
        have DH := Lib.hid hd
        clear L hd S U C
        go_wp2_with fail
        refine LH.out.mono ?_
        rintro e w1 ⟨rfl, hb1⟩
        have S1 := SH.out.below hb1
        have C := cellsAt S1.rep.blk 2
        have M2 := fun f => m_Swap f sb 2 v w1 C
        have W := swap_any S1.rep.own S1.rep.len (par j) j (by omega) (by omega)
        have WH := Lib.hid W
        have S1H := Lib.hid S1
        clear W S1 C hb1 M1
        go_wp2_with fail
        refine WH.out.mono ?_
        rintro e w2 ⟨rfl, ho, hg⟩
        have S2 := Lib.hid (S1H.out.swap (by omega) (by omega) (by omega) (by omega) ho hg)
        have U2 := Lib.hid (up_step (by omega) UH.out hj (by omega) DH.out)
        clear ho hg M2
        go_wp2_with fail
        go_roundw
        case rel => exact ⟨par j, swp l1 (par j) j, rfl, by omega, S2.out, U2.out⟩
        case measure => simp [intOf]; omega
      · rw [decide_eq_false hd] at L
        have LH := Lib.hid L
        have U2 := Lib.hid (up_done U (.inr hd))
        clear L hd S U C
        go_wp2_with fail
        refine LH.out.mono ?_
        rintro e w1 ⟨rfl, hb1⟩
        have S2 := Lib.hid (SH.out.below hb1)
        clear hb1 M1
        go_wp2_with fail
        go_end0
        exact ⟨rfl, l1, S2.out, U2.out⟩
def DownEnd (w : World) (B sb : Nat) (now turn : Int) (v : Value) (l : List Ent) (m i0 : Nat) (e : Ending) (w' : World) : Prop := ∃ l', Same w B sb now turn v l m w' l' ∧ ((e = .returned (.bool true) ∧ Heap l' m) ∨ (e = .returned (.bool false) ∧ Up l' m i0))
theorem down_end {w : World} {B sb : Nat} {now turn : Int} {v : Value} {l : List Ent} {m i i0 : Nat} {w' : World} {l' : List Ent} (S : Same w B sb now turn v l m w' l') (hi : i0 ≤ i) (D : Dn l' m i i0) (hd : ∀ k, 1 ≤ k → k < m → par k = i → ok l' k) (b : Bool) (hb : decide (i0 < i) = b) :
    DownEnd w B sb now turn v l m i0 (.returned (.bool b)) w' := by
  refine ⟨l', S, ?_⟩
  cases b
  · have : i0 = i := by have := of_decide_eq_false hb; omega
    subst this
    exact .inr ⟨rfl, dn_up D hd⟩
  · exact .inl ⟨rfl, dn_done D (of_decide_eq_true hb) hd⟩
set_option maxHeartbeats 8000000 in
theorem down_any {w : World} {B sb : Nat} {now turn : Int} {v : Value} {l : List Ent} (R : Rep w B sb now turn v l) (m i0 : Nat) (hm : m ≤ l.length) (hi : i0 ≤ m) (D : Dn l m i0 i0) :
    Calls Try.prog 27 #[.iface 56 (.pointer (some ⟨sb, 2, none⟩)), .int .i64 i0, .int .i64 m] w (DownEnd w B sb now turn v l m i0) := by
  have RH := Lib.hid R
  have DH := Lib.hid D
  have hl : l.length ≤ 16 := R.len
  clear R D
  go_enter Try.func27, Try.ntmps27
  go_wp2
  go_loopw [7] (fun jv wr => ∃ (i : Nat) (l1 : List Ent), jv = .int .i64 i ∧ i0 ≤ i ∧ i ≤ m ∧ Same w B sb now turn v l m wr l1 ∧ Dn l1 m i i0) (fun jv _ => m - (intOf jv).toNat)
  case atStart => exact ⟨i0, l, rfl, Nat.le_refl _, hi, Same.refl RH.out, DH.out⟩
  case round =>
    obtain ⟨i, l1, rfl, hi0, him, S, D⟩ := hrel
    have len := S.len
    have SH := Lib.hid S
    have DH := Lib.hid D
    have C := cellsAt S.rep.blk 2
    have M1 := fun f => m_Less f sb 2 v wr C
    have N1 := n_Less
    have N2 := n_Swap
    clear S D C
    by_cases hA : m ≤ 2 * i + 1
    · have hd := Lib.hid (show ∀ k, 1 ≤ k → k < m → par k = i → ok l1 k from fun k k1 k2 kp => by unfold par at kp; omega)
      clear M1
      by_cases g : i0 < i
      · have gd : decide ((i0 : Int) < (i : Int)) = true := by simpa using g
        go_wp2
        all_goals first
          | (exfalso; omega)
          | (go_ret
             exact down_end SH.out hi0 DH.out hd.out true (by simpa using g))
      · have gd : decide ((i0 : Int) < (i : Int)) = false := by simpa using g
        go_wp2
        all_goals first
          | (exfalso; omega)
          | (go_ret
             exact down_end SH.out hi0 DH.out hd.out false (by simpa using g))
    · by_cases hB : 2 * i + 2 < m
      · have L0 := less_any SH.out.rep.own SH.out.rep.len (2 * i + 2) (2 * i + 1) (by omega) (by omega)
        by_cases hd : lt (at' l1 (2 * i + 2)) (at' l1 (2 * i + 1))
        · rw [decide_eq_true hd] at L0
          have L0H := Lib.hid L0
          have KIDS := Lib.hid (show ∀ k, 1 ≤ k → k < m → par k = i → ¬ lt (at' l1 k) (at' l1 (2 * i + 2)) from fun k k1 k2 kp => by
            have : k = 2 * i + 1 ∨ k = 2 * i + 2 := by unfold par at kp; omega
            rcases this with rfl | rfl
            · exact lt_asymm hd
            · exact lt_irrefl _)
          clear L0 hd
          go_wp2_with fail
          refine L0H.out.mono ?_
          rintro e w1 ⟨rfl, hb1⟩
          have S1 := Lib.hid (SH.out.below hb1)
          clear hb1 M1
          have C := cellsAt S1.out.rep.blk 2
          have M2 := fun f => m_Less f sb 2 v w1 C
          have L := less_any S1.out.rep.own S1.out.rep.len (2 * i + 2) i (by omega) (by omega)
          by_cases he : lt (at' l1 (2 * i + 2)) (at' l1 i)
          · rw [decide_eq_true he] at L
            have LH := Lib.hid L
            have E := Lib.hid he
            clear L he C
            go_wp2_with fail
            refine LH.out.mono ?_
            rintro e w2 ⟨rfl, hb2⟩
            have S2 := S1.out.below hb2
            have C := cellsAt S2.rep.blk 2
            have M3 := fun f => m_Swap f sb 2 v w2 C
            have Z := swap_any S2.rep.own S2.rep.len i (2 * i + 2) (by omega) (by omega)
            have ZH := Lib.hid Z
            have S2H := Lib.hid S2
            clear Z S2 C hb2 M2
            go_wp2_with fail
            refine ZH.out.mono ?_
            rintro e w3 ⟨rfl, ho, hg⟩
            have S3 := Lib.hid (S2H.out.swap (by omega) (by omega) (by omega) (by omega) ho hg)
            have D3 := Lib.hid (dn_step (by omega) DH.out hi0 (show 2 * i + 2 < m by omega) (by omega) (by unfold par; omega) E.out KIDS.out)
            clear ho hg M3
            go_wp2_with fail
            go_roundw
            case rel => exact ⟨2 * i + 2, swp l1 i (2 * i + 2), by go_num, by omega, by omega, S3.out, D3.out⟩
            case measure => simp [intOf]; omega
          · rw [decide_eq_false he] at L
            have LH := Lib.hid L
            have OK := Lib.hid (show ∀ k, 1 ≤ k → k < m → par k = i → ok l1 k from fun k k1 k2 kp => by unfold ok; rw [kp]; exact nlt_trans (KIDS.out k k1 k2 kp) he)
            clear L he C
            by_cases g : i0 < i
            · have gd : decide ((i0 : Int) < (i : Int)) = true := by simpa using g
              go_wp2_with fail
              refine LH.out.mono ?_
              rintro e w2 ⟨rfl, hb2⟩
              have S2 := Lib.hid (S1.out.below hb2)
              clear hb2 M2
              go_wp2_with fail
              go_ret
              exact down_end S2.out hi0 DH.out OK.out true (by simpa using g)
            · have gd : decide ((i0 : Int) < (i : Int)) = false := by simpa using g
              go_wp2_with fail
              refine LH.out.mono ?_
              rintro e w2 ⟨rfl, hb2⟩
              have S2 := Lib.hid (S1.out.below hb2)
              clear hb2 M2
              go_wp2_with fail
              go_ret
              exact down_end S2.out hi0 DH.out OK.out false (by simpa using g)
        · rw [decide_eq_false hd] at L0
          have L0H := Lib.hid L0
          have KIDS := Lib.hid (show ∀ k, 1 ≤ k → k < m → par k = i → ¬ lt (at' l1 k) (at' l1 (2 * i + 1)) from fun k k1 k2 kp => by
            have : k = 2 * i + 1 ∨ k = 2 * i + 2 := by unfold par at kp; omega
            rcases this with rfl | rfl
            · exact lt_irrefl _
            · exact hd)
          clear L0 hd
          go_wp2_with fail
          refine L0H.out.mono ?_
          rintro e w1 ⟨rfl, hb1⟩
          have S1 := Lib.hid (SH.out.below hb1)
          clear hb1 M1
          have C := cellsAt S1.out.rep.blk 2
          have M2 := fun f => m_Less f sb 2 v w1 C
          have L := less_any S1.out.rep.own S1.out.rep.len (2 * i + 1) i (by omega) (by omega)
          by_cases he : lt (at' l1 (2 * i + 1)) (at' l1 i)
          · rw [decide_eq_true he] at L
            have LH := Lib.hid L
            have E := Lib.hid he
            clear L he C
            go_wp2_with fail
            refine LH.out.mono ?_
            rintro e w2 ⟨rfl, hb2⟩
            have S2 := S1.out.below hb2
            have C := cellsAt S2.rep.blk 2
            have M3 := fun f => m_Swap f sb 2 v w2 C
            have Z := swap_any S2.rep.own S2.rep.len i (2 * i + 1) (by omega) (by omega)
            have ZH := Lib.hid Z
            have S2H := Lib.hid S2
            clear Z S2 C hb2 M2
            go_wp2_with fail
            refine ZH.out.mono ?_
            rintro e w3 ⟨rfl, ho, hg⟩
            have S3 := Lib.hid (S2H.out.swap (by omega) (by omega) (by omega) (by omega) ho hg)
            have D3 := Lib.hid (dn_step (by omega) DH.out hi0 (show 2 * i + 1 < m by omega) (by omega) (by unfold par; omega) E.out KIDS.out)
            clear ho hg M3
            go_wp2_with fail
            go_roundw
            case rel => exact ⟨2 * i + 1, swp l1 i (2 * i + 1), by go_num, by omega, by omega, S3.out, D3.out⟩
            case measure => simp [intOf]; omega
          · rw [decide_eq_false he] at L
            have LH := Lib.hid L
            have OK := Lib.hid (show ∀ k, 1 ≤ k → k < m → par k = i → ok l1 k from fun k k1 k2 kp => by unfold ok; rw [kp]; exact nlt_trans (KIDS.out k k1 k2 kp) he)
            clear L he C
            by_cases g : i0 < i
            · have gd : decide ((i0 : Int) < (i : Int)) = true := by simpa using g
              go_wp2_with fail
              refine LH.out.mono ?_
              rintro e w2 ⟨rfl, hb2⟩
              have S2 := Lib.hid (S1.out.below hb2)
              clear hb2 M2
              go_wp2_with fail
              go_ret
              exact down_end S2.out hi0 DH.out OK.out true (by simpa using g)
            · have gd : decide ((i0 : Int) < (i : Int)) = false := by simpa using g
              go_wp2_with fail
              refine LH.out.mono ?_
              rintro e w2 ⟨rfl, hb2⟩
              have S2 := Lib.hid (S1.out.below hb2)
              clear hb2 M2
              go_wp2_with fail
              go_ret
              exact down_end S2.out hi0 DH.out OK.out false (by simpa using g)
      · have KIDS := Lib.hid (show ∀ k, 1 ≤ k → k < m → par k = i → ¬ lt (at' l1 k) (at' l1 (2 * i + 1)) from fun k k1 k2 kp => by
          have : k = 2 * i + 1 := by unfold par at kp; omega
          subst this
          exact lt_irrefl _)
        clear M1
        have C := cellsAt SH.out.rep.blk 2
        have M2 := fun f => m_Less f sb 2 v wr C
        have L := less_any SH.out.rep.own SH.out.rep.len (2 * i + 1) i (by omega) (by omega)
        by_cases he : lt (at' l1 (2 * i + 1)) (at' l1 i)
        · rw [decide_eq_true he] at L
          have LH := Lib.hid L
          have E := Lib.hid he
          clear L he C
          go_wp2_with fail
          refine LH.out.mono ?_
          rintro e w2 ⟨rfl, hb2⟩
          have S2 := SH.out.below hb2
          have C := cellsAt S2.rep.blk 2
          have M3 := fun f => m_Swap f sb 2 v w2 C
          have Z := swap_any S2.rep.own S2.rep.len i (2 * i + 1) (by omega) (by omega)
          have ZH := Lib.hid Z
          have S2H := Lib.hid S2
          clear Z S2 C hb2 M2
          go_wp2_with fail
          refine ZH.out.mono ?_
          rintro e w3 ⟨rfl, ho, hg⟩
          have S3 := Lib.hid (S2H.out.swap (by omega) (by omega) (by omega) (by omega) ho hg)
          have D3 := Lib.hid (dn_step (by omega) DH.out hi0 (show 2 * i + 1 < m by omega) (by omega) (by unfold par; omega) E.out KIDS.out)
          clear ho hg M3
          go_wp2_with fail
          go_roundw
          case rel => exact ⟨2 * i + 1, swp l1 i (2 * i + 1), by go_num, by omega, by omega, S3.out, D3.out⟩
          case measure => simp [intOf]; omega
        · rw [decide_eq_false he] at L
          have LH := Lib.hid L
          have OK := Lib.hid (show ∀ k, 1 ≤ k → k < m → par k = i → ok l1 k from fun k k1 k2 kp => by unfold ok; rw [kp]; exact nlt_trans (KIDS.out k k1 k2 kp) he)
          clear L he C
          by_cases g : i0 < i
          · have gd : decide ((i0 : Int) < (i : Int)) = true := by simpa using g
            go_wp2_with fail
            refine LH.out.mono ?_
            rintro e w2 ⟨rfl, hb2⟩
            have S2 := Lib.hid (SH.out.below hb2)
            clear hb2 M2
            go_wp2_with fail
            go_ret
            exact down_end S2.out hi0 DH.out OK.out true (by simpa using g)
          · have gd : decide ((i0 : Int) < (i : Int)) = false := by simpa using g
            go_wp2_with fail
            refine LH.out.mono ?_
            rintro e w2 ⟨rfl, hb2⟩
            have S2 := Lib.hid (SH.out.below hb2)
            clear hb2 M2
            go_wp2_with fail
            go_ret
            exact down_end S2.out hi0 DH.out OK.out false (by simpa using g)
end Go.Proofs.Ytkgjikdkidjpjaa.Sh
