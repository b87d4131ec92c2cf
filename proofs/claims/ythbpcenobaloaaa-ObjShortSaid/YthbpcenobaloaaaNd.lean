/- The document's sprites, walked: List. -/
import Derived.Test.YthbpcenobaloaaaNc
import Derived.Deep.AppendLies
namespace Go.Proofs.Ythbpcenobaloaaa.Nd
set_option linter.unusedVariables false
set_option linter.unusedSimpArgs false
open Go.RowKit Go.Proofs.Ythbpcenobaloaaa.Bt Go.Proofs.Ythbpcenobaloaaa.Wk Go.Proofs.Ythbpcenobaloaaa.Sg Go.Proofs.Ythbpcenobaloaaa.Gp Go.Proofs.Ythbpcenobaloaaa.Gm Go.Proofs.Ythbpcenobaloaaa.Pp Go.Proofs.Ythbpcenobaloaaa.Pa Go.Proofs.Ythbpcenobaloaaa.Pb Go.Proofs.Ythbpcenobaloaaa.Pc Go.Proofs.Ythbpcenobaloaaa.Pg Go.Proofs.Ythbpcenobaloaaa.Ph Go.Proofs.Ythbpcenobaloaaa.Pi Go.Proofs.Ythbpcenobaloaaa.Ha Go.Proofs.Ythbpcenobaloaaa.Na Go.Proofs.Ythbpcenobaloaaa.Nb Go.Proofs.Ythbpcenobaloaaa.Nc

def flat9 (s : Sc) : List Nat → List Value
  | [] => []
  | i :: r => cells9 (full9 s i) ++ flat9 s r
theorem flat9_length (s : Sc) : ∀ l, (flat9 s l).length = l.length * 9
  | [] => rfl
  | i :: r => by simp [flat9, flat9_length s r, cells9]; omega
theorem flat9_append (s : Sc) : ∀ l k, flat9 s (l ++ k) = flat9 s l ++ flat9 s k
  | [], _ => rfl
  | i :: r, k => by simp [flat9, flat9_append s r k]
theorem flat9_at (s : Sc) : ∀ (l : List Nat) (i j : Nat) (h : i < l.length), j < 9 → (flat9 s l)[i * 9 + j]? = (cells9 (full9 s l[i]))[j]?
  | [], i, j, h, _ => absurd h (by simp)
  | a :: r, 0, j, _, hj => by
    show (cells9 (full9 s a) ++ flat9 s r)[0 * 9 + j]? = _
    rw [show 0 * 9 + j = j by omega, List.getElem?_append_left (by simpa [cells9] using hj)]
    rfl
  | a :: r, i + 1, j, h, hj => by
    have := flat9_at s r i j (by simpa using h) hj
    show (cells9 (full9 s a) ++ flat9 s r)[(i + 1) * 9 + j]? = _
    rw [List.getElem?_append_right (by simp [cells9]; omega), show (i + 1) * 9 + j - (cells9 (full9 s a)).length = i * 9 + j by simp [cells9]; omega, this]
    rfl
/-- The slice v holds the sprites l. -/
def own9 (w : World) (B : Nat) (s : Sc) (v : Value) (l : List Nat) : Prop := w.ownsRow B 70 9 v l.length (flat9 s l)
theorem own9_form {w : World} {B : Nat} {s : Sc} {v : Value} {l : List Nat} (h : own9 w B s v l) : ∃ a c, v = .slice a l.length c := by
  rcases h.2 with ⟨e, f⟩ | ⟨g, cap, cur, e, _⟩
  · rw [f]; exact ⟨_, _, e⟩
  · exact ⟨_, _, e⟩
theorem own9_later {w w' : World} {B : Nat} {s : Sc} {v : Value} {l : List Nat} (h : own9 w B s v l) (hb : Below w.heap.size w w') : own9 w' B s v l := by
  refine ⟨h.1, ?_⟩
  rcases h.2 with e | ⟨g, cap, cur, rfl, hB, hg, rest⟩
  · exact .inl e
  · exact .inr ⟨g, cap, cur, rfl, hB, keep hb hg, rest⟩
theorem own9_at {w : World} {B : Nat} {s : Sc} {v : Value} {l : List Nat} (h : own9 w B s v l) {i : Nat} (hi : i < l.length) : ∃ g cap, v = .slice (some ⟨g, 0, none⟩) l.length cap ∧ g < w.heap.size ∧ ∀ j, j < 9 → w.cell? ⟨g, i * 9 + j, none⟩ = (cells9 (full9 s l[i]))[j]? := by
  rcases h.2 with ⟨_, e⟩ | ⟨g, cap, cur, rfl, hB, hg, hc, hm, hs, ht⟩
  · omega
  · refine ⟨g, cap, rfl, sizeAt hg, fun j hj => ?_⟩
    rw [cellsAt hg, ← flat9_at s l i j hi hj, ← ht, List.getElem?_take, if_pos (by omega)]
    simp
theorem info9 : (Try.prog.info? 70).map (fun i => (i.zero, i.size, i.bytes)) = some (some (.agg #[.int .i64 0, .int .i64 0, .int .i64 0, .int .i64 0, .int .i64 0, .int .i64 0, .int .i64 0, .int .i64 0, .int .i64 0]), 9, 72) := by kernel_rfl
theorem below_grown {B : Nat} {w W W' : World} {r : Option Nat} (h : Below B w W) (h' : W.grownBy W' r) (hr : ∀ g, r = some g → B ≤ g) (hB : B ≤ W.heap.size) : Below B w W' :=
  ⟨h'.os.trans h.os, h'.tape.trans h.tape, h'.output.trans h.output, Nat.le_trans h.size h'.size, fun k hk => (h'.block k (by omega) (fun e => by have := hr k e.symm; omega)).trans (h.block k hk)⟩
/-- How List ends. -/
def LOut (w : World) (s : Sc) (line : Int) (e : Ending) (w' : World) : Prop := Below w.heap.size w w' ∧ ∃ v, e = .returned v ∧ own9 w' w.heap.size s v (spritesV s line)
set_option maxRecDepth 1000000 in
set_option maxHeartbeats 16000000 in
theorem list_off {w : World} {sb : Nat} {T : TypeId} {s : Sc} (h : Sn w sb T s) (k : Sok s) {line : Int} (ho : ¬ onV s line) :
    Calls Try.prog 12 #[.pointer (some ⟨sb, 0, none⟩), .int .i64 line] w fun e w' => LOut w s line e w' := by
  have CO := h.ctl
  have lt := h.lt
  have c0 := k.c0
  have c1 := k.c1
  have EL : Hid (spritesV s line = []) := Lib.hid (by unfold spritesV; rw [if_neg ho])
  have hc : (s.ctl / 4096 % 2 == 0) = true ∨ ((s.ctl / 4096 % 2 == 0) = false ∧ (s.ctl / 128 % 2 == 1) = true) ∨ ((s.ctl / 4096 % 2 == 0) = false ∧ (s.ctl / 128 % 2 == 1) = false ∧ line < 0) ∨ ((s.ctl / 4096 % 2 == 0) = false ∧ (s.ctl / 128 % 2 == 1) = false ∧ 0 ≤ line ∧ 159 < line) := by
    unfold onV at ho
    simp only [beq_iff_eq, beq_eq_false_iff_ne, ne_eq]
    omega
  clear h k ho
  generalize s.ctl = c at *
  rcases hc with g | ⟨g, g2⟩ | ⟨g, g2, g3⟩ | ⟨g, g2, g3, g4⟩
  all_goals
    go_enter Try.func12, Try.ntmps12
    go_wp2_with fail
    go_ret
    exact ⟨Below.refl _ _, _, rfl, by rw [EL.out]; exact World.ownsRow_nil _ _ _ _⟩
set_option maxRecDepth 1000000 in
set_option maxHeartbeats 4000000 in
theorem list_on {w : World} {sb : Nat} {T : TypeId} {s : Sc} (h : Sn w sb T s) (k : Sok s) {line : Int} (ho : onV s line) :
    Calls Try.prog 12 #[.pointer (some ⟨sb, 0, none⟩), .int .i64 line] w fun e w' => LOut w s line e w' := by
  have SH := Lib.hid h
  have KH := Lib.hid k
  have CO := h.ctl
  have lt := h.lt
  have c0 := k.c0
  have c1 := k.c1
  have EL : Hid (spritesV s line = listV s line 128 0 (leftV s)) := Lib.hid (by unfold spritesV; rw [if_pos ho])
  obtain ⟨i0, hi, hz0, hz1, hz2⟩ := info_parts info9
  have Z0 := Lib.hid hz0
  have Z1 := Lib.hid hz1
  have Z2 := Lib.hid hz2
  have HI := Lib.hid hi
  clear hi hz0 hz1 hz2
  obtain ⟨o1, o2, l0, l1⟩ := ho
  have g1 : (s.ctl / 4096 % 2 == 0) = false := by rw [o1]; rfl
  have g2 : (s.ctl / 128 % 2 == 1) = false := by rw [o2]; rfl
  have l2 : line ≤ 159 := by omega
  have LV : Hid (leftV s = if s.ctl / 32 % 2 = 1 then 954 else 1210) := Lib.hid rfl
  generalize hL : leftV s = L0 at *
  have HL := Lib.hid hL
  clear h k o1 o2 hL
  generalize s.ctl = c at *
  go_enter Try.func12, Try.ntmps12
  go_upto_if 40 with fail
  go_cut [5] (fun lv wx => lv = .int .i64 L0 ∧ w = wx)
  case first =>
    have LH := LV.out
    by_cases g : c / 32 % 2 = 1
    · rw [if_pos g] at LH
      have LH2 := Lib.hid LH
      have gg : (c / 32 % 2 == 1) = true := by rw [g]; rfl
      clear LH g
      go_wp2_with fail
      go_meet
      case rel => exact ⟨by rw [LH2.out], rfl⟩
    · rw [if_neg g] at LH
      have LH2 := Lib.hid LH
      have gg : (c / 32 % 2 == 1) = false := by simpa using g
      clear LH g
      go_wp2_with fail
      go_meet
      case rel => exact ⟨by rw [LH2.out], rfl⟩
  case rest =>
  obtain ⟨rfl, rfl⟩ := hcut
  have LB : Hid (0 ≤ L0 ∧ L0 ≤ 1210) := Lib.hid (by rw [LV.out]; split <;> omega)
  clear CO lt g1 g2 LV
  go_wp2_with fail
  go_loopw [5, 6, 7] (fun av lv iv wr => ∃ (n : Nat) (left : Int) (l : List Nat), iv = .int .i64 n ∧ av = .int .i64 left ∧ n ≤ 128 ∧ 0 ≤ left ∧ left ≤ 1210 ∧ l.length ≤ n ∧ own9 wr w.heap.size s lv l ∧ Below w.heap.size w wr ∧ l ++ listV s line (128 - n) n left = listV s line 128 0 L0) (fun _ _ iv _ => 128 - (intOf iv).toNat)
  case atStart => exact ⟨0, L0, [], rfl, rfl, by omega, LB.out.1, LB.out.2, Nat.le_refl _, World.ownsRow_nil _ _ _ _, Below.refl _ _, rfl⟩
  case round =>
    obtain ⟨n, left, l, rfl, rfl, hn, lb0, lb1, ll, OW, BW, EQ⟩ := hrel
    by_cases hlt : n < 128
    · have tt : decide ((n : Int) < 128) = true := by simp; omega
      have n1 : (n : Int) < 128 := by omega
      have n0 : (0 : Int) ≤ (n : Int) := by omega
      obtain ⟨m, hm⟩ : ∃ m, 128 - n = m + 1 := ⟨127 - n, by omega⟩
      rw [hm] at EQ
      have hm2 : m = 128 - (n + 1) := by omega
      have RD := Lib.hid (rread_any (SH.out.later BW) KH.out hlt)
      have OWH := Lib.hid OW
      have BWH := Lib.hid BW
      have EQH := Lib.hid EQ
      clear hm OW BW EQ
      cases hk : okV s n
      · have HM : hits s line n = false := by unfold hits; rw [hk]; rfl
        have HK := Lib.hid hk
        have ED : Hid (l ++ listV s line (128 - (n + 1)) (n + 1) left = listV s line 128 0 L0) := Lib.hid (by rw [← EQH.out, list_miss HM, hm2])
        clear hk HM EQH hm2
        have ZL := zeroS
        go_wp2_with (first | (go_at_call 17; ((with_reducible refine RD.out.mono ?_); rintro e w1 ⟨hb1, ho1, ho2⟩; obtain ⟨p, rfl⟩ := ho2 HK.out)) | (refine wpList_store_row rfl 70 (.tmp 8) (.tmp 49) rfl w1.heap.size (cells9 p).toArray rfl rfl 70 _ (alloc_new _ _) (info_sr p) (s_size zero9 p) (s_one p) ?_; rw [alloc_setRow]))
        have hb2 : Below wr.heap.size wr (w1.alloc (sprO p)) := hb1.alloc hb1.size _
        exact ⟨⟨n + 1, left, l, by go_num, rfl, by omega, lb0, lb1, by omega, own9_later OWH.out hb2, below_then BWH.out hb2 BWH.out.size, ED.out⟩, by simp [intOf]; omega⟩
      · have HK := Lib.hid hk
        have ZL := zeroS
        go_upto_region 11 with (first | (go_at_call 17; ((with_reducible refine RD.out.mono ?_); rintro e w1 ⟨hb1, ho1, ho2⟩; obtain rfl := ho1 HK.out)) | (refine wpList_store_row rfl 70 (.tmp 8) (.tmp 49) rfl w1.heap.size (cells9 (full9 s n)).toArray rfl rfl 70 _ (alloc_new _ _) (info_sr _) (s_size zero9 _) (s_one _) ?_; rw [alloc_setRow]))
        clear ZL ho1 ho2
        have hb2 : Hid (Below wr.heap.size wr (w1.alloc (sprO (full9 s n)))) := Lib.hid (hb1.alloc hb1.size _)
        have P2 := alloc_new w1 (sprO (full9 s n))
        clear hb1 RD
        generalize w1.alloc _ = w2 at *
        generalize w1.heap.size = pb at *
        have O2 := Lib.hid (own9_later OWH.out hb2.out)
        have B2 := Lib.hid (below_then BWH.out hb2.out BWH.out.size)
        clear OWH BWH hb2
        have CY : w2.cell? ⟨pb, 4, none⟩ = some (.int .i64 (spV s n).y) := cellsAt P2 4
        have CBW : w2.cell? ⟨pb, 7, none⟩ = some (.int .i64 (spV s n).boxW) := cellsAt P2 7
        have CH : w2.cell? ⟨pb, 8, none⟩ = some (.int .i64 (spV s n).boxH) := cellsAt P2 8
        have LP := sizeAt P2
        have PO := sp_ok KH.out n
        have y0 := PO.y0
        have y1 := PO.y1
        have bh := PO.bh
        have h8 := PO.h
        have bw := PO.bw
        have w8 := PO.w
        have hb0 : 8 ≤ (spV s n).boxH := by omega
        have hb1 : (spV s n).boxH ≤ 128 := by omega
        have wb0 : 8 ≤ (spV s n).boxW := by omega
        have wb1 : (spV s n).boxW ≤ 128 := by omega
        have PH := Lib.hid P2
        have HV : Hid (hits s line n = (okV s n && decide ((spV s n).y ≤ line) && decide (line < (spV s n).y + (spV s n).boxH))) := Lib.hid rfl
        have CB := Lib.hid (cost_bd PO)
        have TU := Lib.hid (rturned_any P2 (wA_bd KH.out n).1 (wA_bd KH.out n).2)
        change Hid (Calls Try.prog 18 _ _ fun e w' => e = .returned (.bool (isTurned s n)) ∧ _) at TU
        have CV : Hid (costV (spV s n) = if isTurned s n then 10 + 2 * (spV s n).boxW else (spV s n).boxW) := Lib.hid rfl
        clear PO bh h8 bw w8 P2 hk
        generalize hpy : (spV s n).y = py at *
        generalize hph : (spV s n).boxH = ph at *
        generalize hpw : (spV s n).boxW = pw at *
        have ew : IntKind.i64.wrap (py + ph) = py + ph := i64_in (by omega) (by omega)
        clear hpy hph hpw
        by_cases hh : py ≤ line ∧ line < py + ph
        · have HM : Hid (hits s line n = true) := Lib.hid (by rw [HV.out, HK.out, decide_eq_true hh.1, decide_eq_true hh.2]; rfl)
          have t1 : decide (line < py) = false := decide_eq_false (by omega)
          have t2 : decide (py + ph ≤ line) = false := decide_eq_false (by omega)
          obtain ⟨cb0, cb1⟩ := CB.out
          obtain ⟨q, hq⟩ : ∃ q, left - costV (spV s n) + pw = q := ⟨_, rfl⟩
          have HQ := Lib.hid hq
          have QB : Hid (-300 ≤ q ∧ q ≤ 1400) := Lib.hid (by omega)
          clear hq cb0 cb1
          generalize isTurned s n = tv at *
          go_upto_if 68 with (go_at_call 18; ((with_reducible refine TU.out.mono ?_); rintro e w' ⟨rfl, rfl⟩))
          go_cut [5] (fun lv wx => lv = .int .i64 q ∧ w2 = wx)
          case first =>
            cases tv
            · have C2 := CV.out
              have E2 : Hid (q = left) := Lib.hid (by rw [← HQ.out, C2]; show left - pw + pw = left; omega)
              clear C2
              go_wp2_with fail
              go_meet
              case rel => exact ⟨by rw [E2.out], rfl⟩
            · have C2 := CV.out
              have E2 : Hid (q = left - (10 + pw)) := Lib.hid (by rw [← HQ.out, C2]; show left - (10 + 2 * pw) + pw = _; omega)
              clear C2
              go_wp2_with fail
              go_meet
              case rel => exact ⟨by rw [E2.out], rfl⟩
          case rest =>
          obtain ⟨rfl, rfl⟩ := hcut
          obtain ⟨q0, q1⟩ := QB.out
          have cq : left - costV (spV s n) = q - pw := by have := HQ.out; omega
          clear TU CV
          by_cases hc : q - pw < 0
          · have EE : Hid (l = spritesV s line) := Lib.hid (by rw [EL.out, ← EQH.out, list_stop HM.out (by rw [cq]; exact hc), List.append_nil])
            clear hh HV HM EQH hm2 cq
            go_wp2_with fail
            go_ret
            exact ⟨B2.out, _, rfl, by rw [← EE.out]; exact O2.out⟩
          · have hc0 : 0 ≤ q - pw := by omega
            have ED : Hid ((l ++ [n]) ++ listV s line (128 - (n + 1)) (n + 1) (q - pw) = listV s line 128 0 L0) := Lib.hid (by
              rw [← EQH.out, list_hit HM.out (by rw [cq]; exact hc), hm2, cq, List.append_assoc]; rfl)
            have LG := Lib.hid (show 0 ≤ q - pw ∧ q - pw ≤ 1210 by have := CB.out; omega)
            have OA : Hid ((w2.alloc (sprO (full9 s n))).ownsRow w.heap.size 70 9 u6 l.length (flat9 s l)) := Lib.hid (World.ownsRow.alloc O2.out _)
            have NA := Lib.hid (alloc_new w2 (sprO (full9 s n)))
            have MX : Hid (l.length + 1 ≤ maxLen) := Lib.hid (by unfold maxLen; omega)
            have BWS := B2.out.size
            clear hh HV HM EQH hm2 cq hc CH CY
            have P2 := PH
            clear PH
            go_upto_region 17 with fail
            obtain ⟨v0, v1, v2, v3, v4, v5, v6, v7, v8, hcs9⟩ : ∃ v0 v1 v2 v3 v4 v5 v6 v7 v8, cells9 (full9 s n) = [v0, v1, v2, v3, v4, v5, v6, v7, v8] := ⟨_, _, _, _, _, _, _, _, _, rfl⟩
            have HCS := Lib.hid hcs9
            have H9 := Lib.hid (info_sr (full9 s n))
            have O9 : Hid (∀ u ∈ [v0, v1, v2, v3, v4, v5, v6, v7, v8], u.oneCell' = true) := Lib.hid (by rw [← hcs9]; simp [cells9, Value.oneCell'])
            unfold sprO at P2 NA OA
            rw [hcs9] at P2 NA OA H9
            clear hcs9
            have P2H := P2
            clear P2 LP CBW
            go_wp2_with (first | (refine wpList_load_row rfl 70 (.tmp 8) rfl pb rfl 70 #[v0, v1, v2, v3, v4, v5, v6, v7, v8] (0, 0) _ P2H.out Try.underlying70 rfl H9.out ?_) | (refine wpList_append_lies _ (by rfl) _ _ _ (by rfl) w.heap.size 70 i0 _ 9 72 Try.underlying54 HI.out Z0.out Z1.out Z2.out rfl (by decide) u6 _ _ (by rfl) OA.out ⟨w2.heap.size, 0, none⟩ 1 1 [v0, v1, v2, v3, v4, v5, v6, v7, v8] (by rfl) rfl (World.news_of_block NA.out) O9.out (by decide) MX.out (by omega) (by simp; omega) (w2.heap.size + 1) (by simp) ?_; intro g2 cap2 w3 hown hgrow hat hlt2))
            have O3 : Hid (own9 w3 w.heap.size s (.slice (some ⟨g2, 0, none⟩) (l.length + 1) cap2) (l ++ [n])) := Lib.hid (by
              unfold own9
              rw [flat9_append, List.length_append, show flat9 s [n] = [v0, v1, v2, v3, v4, v5, v6, v7, v8] from (List.append_nil _).trans HCS.out]
              exact hown)
            have B3 : Hid (Below w.heap.size w w3) := Lib.hid (below_grown (B2.out.alloc B2.out.size _) hgrow (fun q hq => (World.ownsRow.lt OA.out q hq).1) (by simp; omega))
            clear hown hgrow hat
            exact ⟨⟨n + 1, q - pw, l ++ [n], by go_num, rfl, by omega, LG.out.1, LG.out.2, by simp; omega, O3.out, B3.out, ED.out⟩, by simp [intOf]; omega⟩
        · have HM : Hid (hits s line n = false) := Lib.hid (by rw [HV.out, HK.out, Bool.true_and, ← Bool.decide_and]; exact decide_eq_false hh)
          have hc : decide (line < py) = true ∨ (decide (line < py) = false ∧ decide (py + ph ≤ line) = true) := by
            simp only [decide_eq_true_eq, decide_eq_false_iff_not]; omega
          have ED : Hid (l ++ listV s line (128 - (n + 1)) (n + 1) left = listV s line 128 0 L0) := Lib.hid (by rw [← EQH.out, list_miss HM.out, hm2])
          clear hh HV EQH hm2
          rcases hc with t | ⟨t, t2⟩
          all_goals
            go_wp2_with fail
            exact ⟨⟨n + 1, left, l, by go_num, rfl, by omega, lb0, lb1, by omega, O2.out, B2.out, ED.out⟩, by simp [intOf]; omega⟩
    · have nn : n = 128 := by omega
      have tt : decide ((n : Int) < 128) = false := by simp; omega
      have EE : Hid (l = spritesV s line) := Lib.hid (by rw [EL.out, ← EQ, nn]; exact (List.append_nil l).symm)
      have O2 := Lib.hid OW
      have B2 := Lib.hid BW
      clear nn EQ OW BW hlt
      go_wp2_with fail
      go_ret
      exact ⟨B2.out, _, rfl, by rw [← EE.out]; exact O2.out⟩
theorem list_any {w : World} {sb : Nat} {T : TypeId} {s : Sc} (h : Sn w sb T s) (k : Sok s) (line : Int) :
    Calls Try.prog 12 #[.pointer (some ⟨sb, 0, none⟩), .int .i64 line] w fun e w' => LOut w s line e w' := by
  by_cases ho : onV s line
  · exact list_on h k ho
  · exact list_off h k ho
end Go.Proofs.Ythbpcenobaloaaa.Nd
