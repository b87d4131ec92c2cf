/- Package bg, walked: text. -/
import Derived.Test.YtbljlnhgllbbdaaGu
import Derived.Test.YtbljlnhgllbbdaaQt
namespace Go.Proofs.Ytbljlnhgllbbdaa.Gx
set_option linter.unusedVariables false
set_option linter.unusedSimpArgs false
open Go.RowKit Go.Proofs.Ytbljlnhgllbbdaa.Bt Go.Proofs.Ytbljlnhgllbbdaa.Wk Go.Proofs.Ytbljlnhgllbbdaa.Sg Go.Proofs.Ytbljlnhgllbbdaa.Gp Go.Proofs.Ytbljlnhgllbbdaa.Gm Go.Proofs.Ytbljlnhgllbbdaa.Gs Go.Proofs.Ytbljlnhgllbbdaa.Gh Go.Proofs.Ytbljlnhgllbbdaa.Gc Go.Proofs.Ytbljlnhgllbbdaa.Gt Go.Proofs.Ytbljlnhgllbbdaa.Gu Go.Proofs.Ytbljlnhgllbbdaa.Qt

def lineC (f : Nat → Int) : List Value := seg 240 (fun k => .int .u16 (f k))
abbrev lineO (f : Nat → Int) (TL : TypeId) : Obj := .cells (lineC f).toArray TL (0, 0)
def wideV (c : Int) : Int := 256 * (1 + c / 16384 % 2)
def highV (c : Int) : Int := 256 * (1 + c / 32768)
def textY (s : Sc) (i : Nat) (line : Int) : Int := (line - line % downV s i + s.ys i % 512) % highV (s.bg i)
def textA (s : Sc) (i : Nat) (n : Int) : Int := (n - n % acrossV s i + s.xs i % 512) % wideV (s.bg i)
def rowV (c y : Int) : Int := c / 256 % 32 * 2048 + y / 8 % 32 * 64 + (if 256 ≤ y then 2048 * (wideV c / 256) else 0)
def entryV (s : Sc) (row la : Int) : Int := halfV s.vr (row + la / 32 * 2048 + la % 32 * 2)
def textV (s : Sc) (i : Nat) (line : Int) (n : Nat) : Int :=
  tileV s (s.bg i / 4 % 4 * 16384) (entryV s (rowV (s.bg i) (textY s i line)) (textA s i n / 8)) (textA s i n % 8) (textY s i line % 8) (s.bg i / 128 % 2 == 1)
/-- n dots are drawn. -/
def uptoV (v f : Nat → Int) (n : Nat) : Nat → Int := fun k => if k < n then v k else f k
theorem upto_zero (v f : Nat → Int) : uptoV v f 0 = f := by funext k; simp [uptoV]
theorem upto_end (v f : Nat → Int) : lineC (uptoV v f 240) = lineC v := seg_congr fun i hi => by simp [uptoV, hi]
theorem upto_set (v f : Nat → Int) {n : Nat} (hn : n < 240) : (lineC (uptoV v f n)).toArray.setIfInBounds n (.int .u16 (v n)) = (lineC (uptoV v f (n + 1))).toArray := by
  unfold lineC
  rw [toArray_set, seg_set]
  congr 1
  refine seg_congr fun i hi => ?_
  unfold upd uptoV
  by_cases e : i = n
  · subst e; simp
  · have : (i < n) ↔ (i < n + 1) := by omega
    simp [e, this]
theorem tile_any {w : World} {b : Nat} {T : TypeId} {s : Sc} (h : Sn w b T s) (k : Sok s) {base e x y : Int} (m : Bool) (hb0 : 0 ≤ base) (hb1 : base ≤ 49152) (e0 : 0 ≤ e) (e1 : e < 65536) (x0 : 0 ≤ x) (x8 : x < 8) (y0 : 0 ≤ y) (y8 : y < 8) :
    Calls Try.prog 28 #[.pointer (some ⟨b, 0, none⟩), .int .i64 base, .int .u16 e, .int .i64 x, .int .i64 y, .bool m] w fun r w' => r = .returned (.int .u16 (tileV s base e x y m)) ∧ ∃ q, w' = w.drewN q := by
  cases m
  · exact tile_few h k hb0 hb1 e0 e1 x0 x8 y0 y8
  · exact tile_many h k hb0 hb1 e0 e1 x0 x8 y0 y8
theorem wide_w {c : Int} (c0 : 0 ≤ c) (c1 : c < 65536) : wrap64 (256 * 2 ^ (c / 16384 % 2).toNat) = wideV c := by
  unfold wideV
  rcases (show c / 16384 % 2 = 0 ∨ c / 16384 % 2 = 1 by omega) with h | h <;> rw [h] <;> decide +kernel
theorem high_w {c : Int} (c0 : 0 ≤ c) (c1 : c < 65536) : wrap64 (256 * 2 ^ (c / 32768).toNat) = highV c := by
  unfold highV
  rcases (show c / 32768 = 0 ∨ c / 32768 = 1 by omega) with h | h <;> rw [h] <;> decide +kernel
theorem i64_in {x : Int} (h0 : -9223372036854775808 ≤ x) (h1 : x ≤ 9223372036854775807) : IntKind.i64.wrap x = x := by rw [IntKind.wrap_i64]; omega
theorem mod_sub_bd {n a : Int} (n0 : 0 ≤ n) (a1 : 1 ≤ a) : 0 ≤ n % a ∧ 0 ≤ n - n % a ∧ n - n % a ≤ n := by
  have h1 := Int.emod_nonneg n (show a ≠ 0 by omega)
  have h2 := Int.emod_lt_of_pos n (show 0 < a by omega)
  have h3 : n % a ≤ n := by
    have := Int.mul_ediv_add_emod n a
    have h4 : 0 ≤ a * (n / a) := Int.mul_nonneg (by omega) (Int.ediv_nonneg n0 (by omega))
    omega
  omega
set_option maxRecDepth 100000 in
set_option maxHeartbeats 8000000 in
theorem text_any {W w : World} {b lb : Nat} {T TL : TypeId} {s : Sc} {f : Nat → Int} (h : Sn W b T s) (k : Sok s) (hB : Below W.heap.size W w) (hlb : W.heap.size ≤ lb) (hL : w.heap[lb]? = some (lineO f TL)) {i : Nat} (i4 : i < 4) {line : Int} (l0 : 0 ≤ line) (l1 : line < 160) :
    Calls Try.prog 18 #[.pointer (some ⟨b, 0, none⟩), .pointer (some ⟨lb, 0, none⟩), .int .i64 i, .int .i64 line] w fun r w' => r = .returned (.tuple #[]) ∧ Only lb (lineO (textV s i line) TL) w w' := by
  have h' := h.later hB
  have CH := Lib.hid (coarse_any h' k i4)
  have CB := h'.bg i4
  have CX := h'.xs i4
  have CY := h'.ys i4
  have lt := h'.lt
  obtain ⟨c0, c1⟩ := k.b i i4
  obtain ⟨x0, x1⟩ := k.x i i4
  obtain ⟨y0, y1⟩ := k.y i i4
  obtain ⟨a0, a1⟩ := across_bd s i
  obtain ⟨d0, d1⟩ := down_bd s i
  have EV : Hid (∀ n, textV s i line n = tileV s (s.bg i / 4 % 4 * 16384) (entryV s (rowV (s.bg i) (textY s i line)) (textA s i n / 8)) (textA s i n % 8) (textY s i line % 8) (s.bg i / 128 % 2 == 1)) := Lib.hid fun _ => rfl
  have EA : Hid (∀ n, textA s i n = (n - n % acrossV s i + s.xs i % 512) % wideV (s.bg i)) := Lib.hid fun _ => rfl
  have EY : Hid (textY s i line = (line - line % downV s i + s.ys i % 512) % highV (s.bg i)) := Lib.hid rfl
  have WW := wide_w c0 c1
  have HW := high_w c0 c1
  have wb : 256 ≤ wideV (s.bg i) ∧ wideV (s.bg i) ≤ 512 := by unfold wideV; omega
  have hb : 256 ≤ highV (s.bg i) ∧ highV (s.bg i) ≤ 512 := by unfold highV; omega
  have RV : Hid (∀ y, rowV (s.bg i) y = s.bg i / 256 % 32 * 2048 + y / 8 % 32 * 64 + (if 256 ≤ y then 2048 * (wideV (s.bg i) / 256) else 0)) := Lib.hid fun _ => rfl
  have SH := Lib.hid h
  have KH := Lib.hid k
  have OH := Lib.hid (Only.refl hL)
  have BH := Lib.hid hB
  clear h k h' hL hB
  generalize hV : textV s i line = V at *
  generalize hT : textY s i line = y at *
  generalize s.bg i = c at *
  generalize hXX : s.xs i = X at *
  generalize s.ys i = Y at *
  generalize acrossV s i = ac at *
  generalize downV s i = dn at *
  generalize wideV c = wd at *
  generalize highV c = hg at *
  have HXX := Lib.hid hXX
  clear hXX
  have i0 : (0 : Int) ≤ (i : Int) := by omega
  have i4' : (i : Int) < 4 := by omega
  have gX : Go.bits .and .u16 X 511 = X % 512 := by have := and_mask_u16 x0 x1 9 (by decide); simpa using this
  have gY : Go.bits .and .u16 Y 511 = Y % 512 := by have := and_mask_u16 y0 y1 9 (by decide); simpa using this
  have g14 := bit16 c0 c1 16384 (by decide)
  have g7 := bit16 c0 c1 128 (by decide)
  have gt : Go.bits .and .u16 (c / 4) 3 = c / 4 % 4 := by have := and_mask_u16 (a := c / 4) (by omega) (by omega) 2 (by decide); simpa using this
  have gm : Go.bits .and .u16 (c / 256) 31 = c / 256 % 32 := by have := and_mask_u16 (a := c / 256) (by omega) (by omega) 5 (by decide); simpa using this
  have tb0 : 0 ≤ c / 4 % 4 := by omega
  have tb1 : c / 4 % 4 < 4 := by omega
  have mb0 : 0 ≤ c / 256 % 32 := by omega
  have mb1 : c / 256 % 32 < 32 := by omega
  obtain ⟨w0, w1⟩ := wb
  obtain ⟨h0, h1⟩ := hb
  have q0 : 0 ≤ Y % 512 := by omega
  have q1 : Y % 512 < 512 := by omega
  obtain ⟨m0, m1, m2⟩ := mod_sub_bd l0 d0
  have t1 : Int.tmod line dn = line % dn := Int.tmod_eq_emod_of_nonneg l0
  have t2 : IntKind.i64.wrap (line - line % dn) = line - line % dn := i64_in (by omega) (by omega)
  have t3 : IntKind.i64.wrap (line - line % dn + Y % 512) = line - line % dn + Y % 512 := i64_in (by omega) (by omega)
  have t4 : Int.tmod (line - line % dn + Y % 512) hg = y := by rw [Int.tmod_eq_emod_of_nonneg (by omega), EY.out]
  have z1 : (dn = 0) = False := eq_false (by omega)
  have z2 : (hg = 0) = False := eq_false (by omega)
  go_enter Try.func18, Try.ntmps18
  go_wp2_with (go_at_call 26; ((with_reducible refine CH.out.mono ?_); rintro e w' ⟨rfl, q, rfl⟩))
  go_quiet (fail)
  clear t1 t2 t3 t4 z1 z2 m0 m1 m2
  rw [WW, HW]
  have wp : 0 < wd := by omega
  have RB : Hid (∃ row, rowV c y = row ∧ 0 ≤ row ∧ row ≤ 70000) := by
    refine Lib.hid ⟨_, rfl, ?_, ?_⟩ <;> (rw [RV.out]; have := Int.emod_nonneg (y / 8) (show (32 : Int) ≠ 0 by decide); have := Int.emod_lt_of_pos (y / 8) (show (0 : Int) < 32 by decide); split <;> omega)
  have yb0 : 0 ≤ y := by rw [EY.out]; exact Int.emod_nonneg _ (by omega)
  have yb1 : y < 512 := by rw [EY.out]; have := Int.emod_lt_of_pos (line - line % dn + Y % 512) (show 0 < hg by omega); omega
  have yq0 : 0 ≤ y / 8 % 32 ∧ y / 8 % 32 < 32 := by omega
  have ym0 : 0 ≤ y % 8 := by omega
  have ym1 : y % 8 < 8 := by omega
  obtain ⟨yq1, yq2⟩ := yq0
  have DC : (((256 : Int) ≤ y) ∧ rowV c y = c / 256 % 32 * 2048 + y / 8 % 32 * 64 + 2048 * (wd / 256)) ∨ (y < 256 ∧ rowV c y = c / 256 % 32 * 2048 + y / 8 % 32 * 64) := by
    have e := RV.out y
    by_cases g : 256 ≤ y
    · rw [if_pos g] at e; exact .inl ⟨g, e⟩
    · rw [if_neg g] at e; exact .inr ⟨by omega, by omega⟩
  obtain ⟨row, hrow, r0, r1⟩ := RB.out
  rw [hrow] at DC
  rcases DC with ⟨yc, yr⟩ | ⟨yc, yr⟩
  all_goals
    go_wp2_with fail
    rw [← yr]
    have HR := Lib.hid hrow
    clear yr hrow yc RB
    generalize hM : (c / 128 % 2 == 1) = M at *
    generalize hBs : c / 4 % 4 * 16384 = bs at *
    have bs0 : 0 ≤ bs := by omega
    have bs1 : bs ≤ 49152 := by omega
    have EV' : Hid (∀ n : Nat, V n = tileV s bs (entryV s row (textA s i n / 8)) (textA s i n % 8) (y % 8) M) := Lib.hid fun n => by rw [← HR.out]; exact EV.out n
    have HBs := Lib.hid hBs
    have HM := Lib.hid hM
    clear EV hBs
    have OW : Hid (Only lb (lineO (uptoV V f 0) TL) w (w.drewN (q + nq))) := by rw [upto_zero]; exact Lib.hid (OH.out.drewN _)
    generalize w.drewN (q + nq) = w2 at *
    go_loopw [17, 18, 19] (fun lav ev iv wr => ∃ (n : Nat) (la e : Int), lav = .int .i64 la ∧ ev = .int .u16 e ∧ iv = .int .i64 n ∧ n ≤ 240 ∧ 0 ≤ e ∧ e < 65536 ∧ -1 ≤ la ∧ (la = -1 ∨ e = entryV s row la) ∧ Only lb (lineO (uptoV V f n) TL) w wr) (fun _ _ iv _ => 240 - (intOf iv).toNat)
    case atStart => exact ⟨0, -1, 0, rfl, rfl, rfl, by omega, by omega, by omega, by omega, .inl rfl, OW.out⟩
    case round =>
      obtain ⟨n, la, e, rfl, rfl, rfl, hn, e0, e1, l1', hle, ON⟩ := hrel
      by_cases hlt : n < 240
      · have tt : decide ((n : Int) < 240) = true := by simp; omega
        have sw := SH.out.later (below_only BH.out ON hlb BH.out.size)
        have CX := sw.xs i4
        have CV := sw.vram
        have lt' := sw.lt
        rw [HXX.out] at CX
        unfold Mem.v at CV
        obtain ⟨A, hA⟩ : ∃ A, (n - n % ac + X % 512) % wd = A := ⟨_, rfl⟩
        have A0 : 0 ≤ A := by rw [← hA]; exact Int.emod_nonneg _ (by omega)
        have A1 : A < 512 := by rw [← hA]; have := Int.emod_lt_of_pos (n - n % ac + X % 512) (show 0 < wd by omega); omega
        have EA' := EA.out n
        rw [hA] at EA'
        have x2 : 0 ≤ X % 512 := by omega
        have x3 : X % 512 < 512 := by omega
        have n0 : (0 : Int) ≤ (n : Int) := by omega
        obtain ⟨p0, p1, p2⟩ := mod_sub_bd n0 a0
        have s1 : Int.tmod n ac = n % ac := Int.tmod_eq_emod_of_nonneg n0
        have s2 : IntKind.i64.wrap (n - n % ac) = n - n % ac := i64_in (by omega) (by omega)
        have s3 : IntKind.i64.wrap (n - n % ac + X % 512) = n - n % ac + X % 512 := i64_in (by omega) (by omega)
        have s4 : Int.tmod (n - n % ac + X % 512) wd = A := by rw [Int.tmod_eq_emod_of_nonneg (by omega), hA]
        have z3 : (ac = 0) = False := eq_false (by omega)
        have z4 : (wd = 0) = False := eq_false (by omega)
        have EAH := Lib.hid EA'
        have ONH := Lib.hid ON
        have EE : entryV s row (A / 8) = halfV s.vr (row + A / 256 * 2048 + A / 8 % 32 * 2) := by
          unfold entryV
          rw [show A / 8 / 32 = A / 256 by omega]
        have HF := Lib.hid (fun q => half_any (sw.vr.drewN q) KH.out.vr (row + A / 256 * 2048 + A / 8 % 32 * 2) (by omega) (by omega))
        rw [← EE] at HF
        unfold Mem.v at HF
        have EB := halfV_bd KH.out.vr (row + A / 256 * 2048 + A / 8 % 32 * 2)
        rw [← EE] at EB
        clear EE EA' ON hA sw
        go_wp2_with fail
        go_quiet (fail)
        clear s1 s2 s3 s4 z3 z4
        go_upto_if 102 with fail
        go_cut [17, 18] (fun lv ev wx => lv = .int .i64 (A / 8) ∧ ev = .int .u16 (entryV s row (A / 8)) ∧ Hid (Only lb (lineO (uptoV V f n) TL) w wx))
        case first =>
          by_cases gq : A / 8 = la
          · have ne : (A / 8 != la) = false := by rw [gq]; simp
            have he : e = entryV s row (A / 8) := by
              rcases hle with g | g
              · omega
              · rw [gq]; exact g
            clear hle HF
            have GQ := Lib.hid gq
            have HE := Lib.hid he
            clear gq he
            go_wp2_with fail
            go_meet
            case rel => exact ⟨by rw [GQ.out], by rw [← HE.out], Lib.hid (ONH.out.drewN _)⟩
          · have ne : (A / 8 != la) = true := by rw [bne_iff_ne]; exact gq
            clear hle gq
            go_wp2_with (go_at_call 27; ((with_reducible refine (HF.out _).mono ?_); rintro e w' ⟨rfl, q, rfl⟩))
            go_meet
            case rel => exact ⟨rfl, rfl, Lib.hid (ONH.out.drewN _)⟩
        case rest =>
          obtain ⟨rfl, rfl, ON2⟩ := hcut
          clear CX CV lt' hle HF
          have sw := SH.out.later (below_only BH.out ON2.out hlb BH.out.size)
          have EVn := EV'.out n
          rw [EAH.out] at EVn
          have TC := Lib.hid (fun q => tile_any (sw.drewN q) KH.out M bs0 bs1 EB.1 EB.2 (Int.emod_nonneg A (show (8 : Int) ≠ 0 by decide)) (Int.emod_lt_of_pos A (show (0 : Int) < 8 by decide)) ym0 ym1)
          have FR := freeAt ON2.out.at_ n
          have LL := sizeAt ON2.out.at_
          generalize hEE : entryV s row (A / 8) = E at *
          have HEE := Lib.hid hEE
          clear hEE
          generalize tileV s bs E (A % 8) (y % 8) M = v at *
          have EVH := Lib.hid EVn
          have tA : Int.tmod A 8 = A % 8 := Int.tmod_eq_emod_of_nonneg A0
          have tY : Int.tmod y 8 = y % 8 := Int.tmod_eq_emod_of_nonneg yb0
          have CL : ∀ q, (wc.drewN q).heap[lb]? = some (lineO (uptoV V f n) TL) := fun q => ON2.out.at_
          have SZ : (lineC (uptoV V f n)).toArray.size = 240 := by simp [lineC, seg_length]
          have i0n : (n : Int) < 240 := by omega
          have C1 := Lib.hid fun q : Nat => cellsAt (CL q) n
          clear EVn sw
          go_wp2_with fail
          refine region_quiet_tail 16 (by kernel_rfl) (by kernel_rfl) ?_
          simp only [List.take_succ_cons, List.take_zero, List.drop_succ_cons, List.drop_zero]
          repeat (quiet_step ((go_at_call 28; exact Calls.quiet_of (TC.out _))))
          refine wpQuiet_nil ?_
          intro _ hw'
          obtain ⟨nq2, hw''⟩ := hw'
          subst hw''
          have FR := freeAt (CL nq2) n
          have CC : (wc.drewN nq2).cell? ⟨lb, n, none⟩ = some (.int .u16 (uptoV V f n n)) := by
            rw [cellsAt (CL nq2), toArray_at]; exact seg_at _ hlt
          have ON3 : Hid (Only lb (lineO (uptoV V f (n + 1)) TL) w ((wc.drewN nq2).setCell ⟨lb, n, none⟩ (.int .u16 v))) := by
            have := (ON2.out.drewN nq2).set (j := n) (.int .u16 v)
            rw [← EVH.out, upto_set V f hlt, EVH.out] at this
            exact Lib.hid this
          generalize wc.drewN nq2 = w3 at *
          clear CL SZ C1 ON2
          go_wp2_with fail
          exact ⟨⟨n + 1, A / 8, E, rfl, rfl, by go_num, by omega, EB.1, EB.2, by omega, .inr HEE.out.symm, ON3.out⟩, by simp [intOf]; omega⟩
      · have nn : n = 240 := by omega
        have tt : decide ((n : Int) < 240) = false := by simp; omega
        have OE : Only lb (lineO V TL) w wr := by rw [nn] at ON; exact ON.to (by unfold lineO; rw [upto_end])
        have OEH := Lib.hid OE
        have HV := Lib.hid hV
        clear OE nn ON hle hV hlt
        go_wp2_with fail
        go_end0
        exact ⟨rfl, OEH.out⟩
end Go.Proofs.Ytbljlnhgllbbdaa.Gx
