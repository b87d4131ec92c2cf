/- Package bg, walked: turned. -/
import Derived.Test.YtbljlnhgllbbdaaGv
import Derived.Test.YtbljlnhgllbbdaaGw
import Derived.Test.YtbljlnhgllbbdaaGx
namespace Go.Proofs.Ytbljlnhgllbbdaa.Gy
set_option linter.unusedVariables false
set_option linter.unusedSimpArgs false
open Go.RowKit Go.Proofs.Ytbljlnhgllbbdaa.Bt Go.Proofs.Ytbljlnhgllbbdaa.Wk Go.Proofs.Ytbljlnhgllbbdaa.Sg Go.Proofs.Ytbljlnhgllbbdaa.Gp Go.Proofs.Ytbljlnhgllbbdaa.Gm Go.Proofs.Ytbljlnhgllbbdaa.Gs Go.Proofs.Ytbljlnhgllbbdaa.Gh Go.Proofs.Ytbljlnhgllbbdaa.Gc Go.Proofs.Ytbljlnhgllbbdaa.Gt Go.Proofs.Ytbljlnhgllbbdaa.Gu Go.Proofs.Ytbljlnhgllbbdaa.Gv Go.Proofs.Ytbljlnhgllbbdaa.Gw Go.Proofs.Ytbljlnhgllbbdaa.Gx Go.Proofs.Ytbljlnhgllbbdaa.Qt

theorem Sn.par1 {w : World} {b : Nat} {T : TypeId} {s : Sc} (h : Sn w b T s) {k : Nat} (hk : k < 2) {j : Nat} (hj : j < 4) : w.cell? ⟨b, 13 + k * 4 + j, none⟩ = some (.int .i16 (s.par (k * 4 + j))) := by
  have := h.par (i := k * 4 + j) (by omega)
  rwa [← Nat.add_assoc] at this
theorem Sn.ref1 {w : World} {b : Nat} {T : TypeId} {s : Sc} (h : Sn w b T s) {k : Nat} (hk : k < 2) {j : Nat} (hj : j < 2) : w.cell? ⟨b, 21 + k * 2 + j, none⟩ = some (.int .i32 (s.ref (k * 2 + j))) := by
  have := h.ref (i := k * 2 + j) (by omega)
  rwa [← Nat.add_assoc] at this
/-- Where the line begins, where dot n lies. -/
def w32 (x : Int) : Int := IntKind.i32.wrap x
def begV (s : Sc) (k : Nat) (line : Int) (r p : Nat) : Int := w32 (s.ref (k * 2 + r) - w32 (line % downV s (k + 2) * s.par (k * 4 + p)))
def stepV (x0 p : Int) (n : Int) : Int := w32 (x0 + n * p)
def dotV (s : Sc) (i : Nat) (x y : Int) : Int := if kindV s i = 3 then bitD s x y else fieldV s i x y
def turnedV (s : Sc) (k : Nat) (line : Int) (n : Nat) : Int :=
  dotV s (k + 2) (stepV (begV s k line 0 1) (s.par (k * 4)) (n - n % acrossV s (k + 2)) / 256) (stepV (begV s k line 1 3) (s.par (k * 4 + 2)) (n - n % acrossV s (k + 2)) / 256)
theorem w32_add (a b : Int) : w32 (w32 a + b) = w32 (a + b) := by unfold w32; rw [IntKind.wrap_i32, IntKind.wrap_i32, IntKind.wrap_i32]; omega
theorem w32_bd (a : Int) : -2147483648 ≤ w32 a ∧ w32 a < 2147483648 := by unfold w32; rw [IntKind.wrap_i32]; omega
theorem w32_id {a : Int} (h0 : -2147483648 ≤ a) (h1 : a < 2147483648) : w32 a = a := by unfold w32; rw [IntKind.wrap_i32]; omega
theorem step_zero {x0 p : Int} (h0 : -2147483648 ≤ x0) (h1 : x0 < 2147483648) : stepV x0 p 0 = x0 := by unfold stepV; rw [Int.zero_mul, Int.add_zero]; exact w32_id h0 h1
theorem step_succ (x0 p n : Int) : stepV x0 p (n + 1) = w32 (stepV x0 p n + p) := by
  unfold stepV
  rw [w32_add, Int.add_mul, Int.one_mul, Int.add_assoc]
theorem w32_wrap (a : Int) : w32 a = wrap32 a := by unfold w32 wrap32; rw [IntKind.wrap_i32]; try omega
theorem mod_floor (n a : Int) : (n - n % a) % a = 0 := by
  have h : n - n % a = a * (n / a) := by have := Int.mul_ediv_add_emod n a; omega
  rw [h]; exact Int.mul_emod_right _ _
set_option maxRecDepth 100000 in
set_option maxHeartbeats 8000000 in
theorem turned_any {W w : World} {b lb : Nat} {T TL : TypeId} {s : Sc} {f : Nat → Int} (h : Sn W b T s) (k : Sok s) (hB : Below W.heap.size W w) (hlb : W.heap.size ≤ lb) (hL : w.heap[lb]? = some (lineO f TL)) {j : Nat} (j2 : j < 2) {line : Int} (l0 : 0 ≤ line) (l1 : line < 160) :
    Calls Try.prog 19 #[.pointer (some ⟨b, 0, none⟩), .pointer (some ⟨lb, 0, none⟩), .int .i64 ((j : Int) + 2), .int .i64 line] w fun r w' => r = .returned (.tuple #[]) ∧ Only lb (lineO (turnedV s j line) TL) w w' := by
  have h' := h.later hB
  have CH := coarse_any h' k (show j + 2 < 4 by omega)
  rw [show ((j + 2 : Nat) : Int) = (j : Int) + 2 by omega] at CH
  have CH := Lib.hid CH
  have KN := Lib.hid (fun q => kind_any (h'.drewN q) k (i := (j : Int) + 2) (by omega) (by omega))
  have DF : ∃ fn, ((kindV s ((j : Int) + 2) == 3) = true ∧ fn = 30 ∨ (kindV s ((j : Int) + 2) == 3) = false ∧ fn = 29) ∧ Hid (∀ (w : World), Sn w b T s → ∀ x y, Calls Try.prog fn #[.pointer (some ⟨b, 0, none⟩), .int .i64 ((j : Int) + 2), .int .i64 x, .int .i64 y] w fun r w' => r = .returned (.int .u16 (dotV s (j + 2) x y)) ∧ ∃ q, w' = w.drewN q) ∧ (∀ (args : Array Value) (w : World), (callFunc fn args).run Try.prog w = .ok (.enter fn args) w) := by
    have ec : ((j + 2 : Nat) : Int) = (j : Int) + 2 := by omega
    by_cases g : kindV s ((j : Int) + 2) = 3
    · refine ⟨30, .inl ⟨by simpa using g, rfl⟩, Lib.hid fun w hw x y => ?_, fun args w => by kernel_rfl⟩
      have := bitmap_any hw k ((j : Int) + 2) x y
      unfold dotV
      rw [ec, if_pos g]
      exact this
    · refine ⟨29, .inr ⟨by simpa using g, rfl⟩, Lib.hid fun w hw x y => ?_, fun args w => by kernel_rfl⟩
      have := field_any hw k (i := j + 2) (by omega) x y
      unfold dotV
      rw [ec] at this ⊢
      rw [if_neg g]
      exact this
  obtain ⟨fn, HFN, DC, CF⟩ := DF
  have CFH := Lib.hid CF
  clear CF
  generalize kindV s ((j : Int) + 2) = kd at *
  have R0 := Sn.ref1 h' j2 (j := 0) (by decide)
  have R1 := Sn.ref1 h' j2 (j := 1) (by decide)
  have P1 := Sn.par1 h' j2 (j := 1) (by decide)
  have P3 := Sn.par1 h' j2 (j := 3) (by decide)
  rw [Nat.add_zero] at R0
  have lt := h'.lt
  have j0 : (0 : Int) ≤ (j : Int) := by omega
  have j2' : (j : Int) < 2 := by omega
  obtain ⟨a0, a1⟩ := across_bd s (j + 2)
  obtain ⟨d0, d1⟩ := down_bd s (j + 2)
  have EV : Hid (∀ n, turnedV s j line n = dotV s (j + 2) (stepV (begV s j line 0 1) (s.par (j * 4)) (n - n % acrossV s (j + 2)) / 256) (stepV (begV s j line 1 3) (s.par (j * 4 + 2)) (n - n % acrossV s (j + 2)) / 256)) := Lib.hid fun _ => rfl
  have bxb := w32_bd (s.ref (j * 2) - w32 (line % downV s (j + 2) * s.par (j * 4 + 1)))
  have byb := w32_bd (s.ref (j * 2 + 1) - w32 (line % downV s (j + 2) * s.par (j * 4 + 3)))
  have EX : Hid (begV s j line 0 1 = w32 (s.ref (j * 2) - w32 (line % downV s (j + 2) * s.par (j * 4 + 1)))) := Lib.hid rfl
  have EY : Hid (begV s j line 1 3 = w32 (s.ref (j * 2 + 1) - w32 (line % downV s (j + 2) * s.par (j * 4 + 3)))) := Lib.hid rfl
  have br0 := k.r (j * 2) (by omega)
  have br1 := k.r (j * 2 + 1) (by omega)
  have bp1 := k.p (j * 4 + 1) (by omega)
  have bp3 := k.p (j * 4 + 3) (by omega)
  have bp0 := k.p (j * 4) (by omega)
  have bp2 := k.p (j * 4 + 2) (by omega)
  rw [← EX.out] at bxb
  rw [← EY.out] at byb
  have SH := Lib.hid h
  have KH := Lib.hid k
  have OH := Lib.hid (Only.refl hL)
  have BH := Lib.hid hB
  clear h k h' hL hB
  generalize hV : turnedV s j line = V at *
  generalize begV s j line 0 1 = bx at *
  generalize begV s j line 1 3 = by' at *
  generalize acrossV s (j + 2) = ac at *
  generalize downV s (j + 2) = dn at *
  generalize s.ref (j * 2) = r0 at *
  generalize s.ref (j * 2 + 1) = r1 at *
  generalize s.par (j * 4 + 1) = p1 at *
  generalize s.par (j * 4 + 3) = p3 at *
  generalize hp0 : s.par (j * 4) = p0 at *
  generalize hp2 : s.par (j * 4 + 2) = p2 at *
  have HP0 := Lib.hid hp0
  have HP2 := Lib.hid hp2
  have HV := Lib.hid hV
  clear hp0 hp2 hV
  obtain ⟨m0, m1, m2⟩ := mod_sub_bd l0 d0
  have m3 : line % dn < 16 := by have := Int.emod_lt_of_pos line (show 0 < dn by omega); omega
  generalize hbk : line % dn = bk at *
  have u1 : IntKind.i32.wrap (bk * p1) = w32 (bk * p1) := rfl
  have u3 : IntKind.i32.wrap (bk * p3) = w32 (bk * p3) := rfl
  have v1 : IntKind.i32.wrap (r0 - w32 (bk * p1)) = bx := by rw [EX.out]; rfl
  have v3 : IntKind.i32.wrap (r1 - w32 (bk * p3)) = by' := by rw [EY.out]; rfl
  have z1 : (dn = 0) = False := eq_false (by omega)
  have y1 : IntKind.i32.wrap p1 = p1 := by rw [IntKind.wrap_i32]; omega
  have y3 : IntKind.i32.wrap p3 = p3 := by rw [IntKind.wrap_i32]; omega
  have tbk : IntKind.i32.wrap bk = bk := by rw [IntKind.wrap_i32]; omega
  go_enter Try.func19, Try.ntmps19
  go_wp2_with (go_at_call 26; ((with_reducible refine CH.out.mono ?_); rintro e w' ⟨rfl, q, rfl⟩))
  go_quiet (fail)
  go_wp2_with fail
  go_quiet (fail)
  go_upto_if 70 with (go_at_call 17; ((with_reducible refine (KN.out _).mono ?_); rintro e w' ⟨rfl, rfl⟩))
  go_cut [14] (fun fv wx => fv = .func (.func fn) #[.pointer (some ⟨b, 0, none⟩)] #[] ∧ Hid (Only lb (lineO (uptoV V f 0) TL) w wx))
  case first =>
    have OW : ∀ q, Hid (Only lb (lineO (uptoV V f 0) TL) w (w.drewN q)) := by intro q; rw [upto_zero]; exact Lib.hid (OH.out.drewN _)
    have OWH := Lib.hid OW
    clear OW
    rcases HFN with ⟨gk, hfn⟩ | ⟨gk, hfn⟩
    all_goals
      have HFN := Lib.hid hfn
      clear hfn
      go_wp2_with fail
      go_meet
      case rel => exact ⟨by rw [HFN.out], OWH.out _⟩
  case rest =>
    obtain ⟨rfl, OW⟩ := hcut
    clear u1 u3 v1 v3 z1 y1 y3 tbk HFN KN R0 R1 P1 P3 lt
    go_wp2_with fail
    have XW : ∀ n, Hid (stepV bx p0 n = stepV bx p0 n) := fun _ => Lib.hid rfl
    go_loopw [12, 13, 15] (fun xv yv iv wr => ∃ (n : Nat), xv = .int .i32 (stepV bx p0 n) ∧ yv = .int .i32 (stepV by' p2 n) ∧ iv = .int .i64 n ∧ n ≤ 240 ∧ Only lb (lineO (uptoV V f n) TL) w wr) (fun _ _ iv _ => 240 - (intOf iv).toNat)
    case atStart => exact ⟨0, by rw [Int.natCast_zero, step_zero bxb.1 bxb.2], by rw [Int.natCast_zero, step_zero byb.1 byb.2], rfl, by omega, OW.out⟩
    case round =>
      obtain ⟨n, rfl, rfl, rfl, hn, ON⟩ := hrel
      by_cases hlt : n < 240
      · have tt : decide ((n : Int) < 240) = true := by simp; omega
        have sw := SH.out.later (below_only BH.out ON hlb BH.out.size)
        have P0 := Sn.par1 sw j2 (j := 0) (by decide)
        have P2 := Sn.par1 sw j2 (j := 2) (by decide)
        rw [Nat.add_zero] at P0
        rw [Nat.add_zero, HP0.out] at P0
        rw [HP2.out] at P2
        have lt' := sw.lt
        have n0 : (0 : Int) ≤ (n : Int) := by omega
        obtain ⟨q0, q1, q2⟩ := mod_sub_bd n0 a0
        have EVn := EV.out n
        have NX := step_succ bx p0 n
        have NY := step_succ by' p2 n
        have xb := w32_bd (bx + n * p0)
        have yb := w32_bd (by' + n * p2)
        change -2147483648 ≤ stepV bx p0 n ∧ stepV bx p0 n < 2147483648 at xb
        change -2147483648 ≤ stepV by' p2 n ∧ stepV by' p2 n < 2147483648 at yb
        have NXH := Lib.hid NX
        have NYH := Lib.hid NY
        have EVH := Lib.hid EVn
        have ONH := Lib.hid ON
        obtain ⟨xb0, xb1⟩ := xb
        obtain ⟨yb0, yb1⟩ := yb
        clear NX NY EVn ON XW
        have V1 : n % ac = 0 → V n = dotV s (j + 2) (stepV bx p0 n / 256) (stepV by' p2 n / 256) := fun h0 => by
          rw [EVH.out, h0, Int.sub_zero]
        have V2 : ∀ q : Nat, (n : Int) - n % ac = q → V n = V q := fun q hq => by
          rw [EVH.out, EV.out q, ← hq, mod_floor, Int.sub_zero]
        have V1 := Lib.hid V1
        have V2 := Lib.hid V2
        generalize stepV bx p0 n = xn at *
        generalize stepV by' p2 n = yn at *
        go_upto_if 81 with fail
        go_cut [] (fun wx => Hid (Only lb (lineO (uptoV V f (n + 1)) TL) w wx))
        case first =>
          have CL : ∀ q, (wr.drewN q).heap[lb]? = some (lineO (uptoV V f n) TL) := fun q => ONH.out.at_
          have CLH := Lib.hid CL
          have FR := freeAt (CL 0) n
          have LL := sizeAt (CL 0)
          have i0n : (n : Int) < 240 := by omega
          have CC : ∀ (q : Nat) (w' : World), (∃ n, w' = wr.drewN n) → ∀ (i : Nat), i < 240 → w'.cell? ⟨lb, i, none⟩ = some (.int .u16 (uptoV V f n i)) := by
            rintro q w' ⟨a, rfl⟩ i hi
            rw [cellsAt (CLH.out a), toArray_at]; exact seg_at _ hi
          have CC := Lib.hid CC
          clear CL
          by_cases gm : (n : Int) % ac = 0
          · have VN := Lib.hid (V1.out gm)
            have ne : ((n : Int) % ac != 0) = false := by rw [gm]; rfl
            have TC := Lib.hid (fun q => DC.out _ (sw.drewN q) (xn / 256) (yn / 256))
            have w1 : IntKind.i64.wrap (xn / 256) = xn / 256 := i64_in (by omega) (by omega)
            have w2 : IntKind.i64.wrap (yn / 256) = yn / 256 := i64_in (by omega) (by omega)
            have GM := Lib.hid gm
            generalize dotV s (j + 2) (xn / 256) (yn / 256) = v at *
            clear gm V1 V2 sw
            go_wp2_with fail
            refine region_quiet_tail 13 (by kernel_rfl) (by kernel_rfl) ?_
            simp only [List.take_succ_cons, List.take_zero, List.drop_succ_cons, List.drop_zero]
            have CF := CFH.out
            repeat (quiet_step ((exact Calls.quiet_of (TC.out _))))
            clear CF
            refine wpQuiet_nil ?_
            intro _ hw'
            obtain ⟨nq2, hw''⟩ := hw'
            subst hw''
            have C1 : (wr.drewN nq2).cell? ⟨lb, n, none⟩ = some (.int .u16 (uptoV V f n n)) := CC.out 0 _ ⟨nq2, rfl⟩ n hlt
            have ON3 : Hid (Only lb (lineO (uptoV V f (n + 1)) TL) w ((wr.drewN nq2).setCell ⟨lb, n, none⟩ (.int .u16 v))) := by
              have := (ONH.out.drewN nq2).set (j := n) (.int .u16 v)
              rw [← VN.out, upto_set V f hlt, VN.out] at this
              exact Lib.hid this
            have FR2 := freeAt (CLH.out nq2) n
            generalize wr.drewN nq2 = w3 at *
            go_wp2_with fail
            go_meet
            case rel => exact ON3
          · have ne : ((n : Int) % ac != 0) = true := by rw [bne_iff_ne]; exact gm
            obtain ⟨q, hq⟩ := Int.eq_ofNat_of_zero_le q1
            have VN := Lib.hid (V2.out q hq)
            have qn : q < n := by omega
            have w1 : IntKind.i64.wrap ((n : Int) - n % ac) = (q : Int) := by rw [hq]; exact i64_in (by omega) (by omega)
            have HQ := Lib.hid hq
            have qi : (q : Int) < 240 := by omega
            have CQ : wr.cell? ⟨lb, q, none⟩ = some (.int .u16 (V q)) := by
              have := CC.out 0 wr ⟨0, rfl⟩ q (by omega)
              rw [this]; unfold uptoV; rw [if_pos qn]
            have qi0 : (0 : Int) ≤ (q : Int) := by omega
            clear hq gm V1 V2 sw
            go_wp2_with fail
            refine region_quiet_tail 11 (by kernel_rfl) (by kernel_rfl) ?_
            simp only [List.take_succ_cons, List.take_zero, List.drop_succ_cons, List.drop_zero]
            repeat (quiet_step (fail))
            refine wpQuiet_nil ?_
            intro _ hw'
            obtain ⟨nq2, hw''⟩ := hw'
            subst hw''
            have C1 : (wr.drewN nq2).cell? ⟨lb, n, none⟩ = some (.int .u16 (uptoV V f n n)) := CC.out 0 _ ⟨nq2, rfl⟩ n hlt
            have ON3 : Hid (Only lb (lineO (uptoV V f (n + 1)) TL) w ((wr.drewN nq2).setCell ⟨lb, n, none⟩ (.int .u16 (V q)))) := by
              have := (ONH.out.drewN nq2).set (j := n) (.int .u16 (V q))
              rw [← VN.out, upto_set V f hlt, VN.out] at this
              exact Lib.hid this
            have FR2 := freeAt (CLH.out nq2) n
            generalize wr.drewN nq2 = w3 at *
            clear CQ
            go_wp2_with fail
            go_meet
            case rel => exact ON3
        case rest =>
          have ON2 := hcut
          clear P0 P2 lt'
          have sw2 := SH.out.later (below_only BH.out ON2.out hlb BH.out.size)
          have P0 := Sn.par1 sw2 j2 (j := 0) (by decide)
          have P2 := Sn.par1 sw2 j2 (j := 2) (by decide)
          rw [Nat.add_zero] at P0
          rw [Nat.add_zero, HP0.out] at P0
          rw [HP2.out] at P2
          have lt' := sw2.lt
          clear sw2 sw V1 V2
          go_wp2_with fail
          exact ⟨⟨n + 1, by rw [Int.natCast_add, Int.natCast_one, NXH.out, w32_wrap], by rw [Int.natCast_add, Int.natCast_one, NYH.out, w32_wrap], by go_num, by omega, ON2.out⟩, by simp [intOf]; omega⟩
      · have nn : n = 240 := by omega
        have tt : decide ((n : Int) < 240) = false := by simp; omega
        have OE : Only lb (lineO V TL) w wr := by rw [nn] at ON; exact ON.to (by unfold lineO; rw [upto_end])
        have OEH := Lib.hid OE
        clear OE nn ON hlt XW
        go_wp2_with fail
        go_end0
        exact ⟨rfl, OEH.out⟩
end Go.Proofs.Ytbljlnhgllbbdaa.Gy
