/- The document's sprites, walked: At. -/
import Derived.Test.YthbpcenobaloaaaNf
import Derived.Test.YthbpcenobaloaaaQt
namespace Go.Proofs.Ythbpcenobaloaaa.Ng
set_option linter.unusedVariables false
set_option linter.unusedSimpArgs false
open Go.RowKit Go.Proofs.Ythbpcenobaloaaa.Bt Go.Proofs.Ythbpcenobaloaaa.Wk Go.Proofs.Ythbpcenobaloaaa.Sg Go.Proofs.Ythbpcenobaloaaa.Gp Go.Proofs.Ythbpcenobaloaaa.Gm Go.Proofs.Ythbpcenobaloaaa.Pp Go.Proofs.Ythbpcenobaloaaa.Pa Go.Proofs.Ythbpcenobaloaaa.Pb Go.Proofs.Ythbpcenobaloaaa.Pc Go.Proofs.Ythbpcenobaloaaa.Pd Go.Proofs.Ythbpcenobaloaaa.Pg Go.Proofs.Ythbpcenobaloaaa.Ph Go.Proofs.Ythbpcenobaloaaa.Pi Go.Proofs.Ythbpcenobaloaaa.Ha Go.Proofs.Ythbpcenobaloaaa.Na Go.Proofs.Ythbpcenobaloaaa.Nb Go.Proofs.Ythbpcenobaloaaa.Nc Go.Proofs.Ythbpcenobaloaaa.Nd Go.Proofs.Ythbpcenobaloaaa.Ne Go.Proofs.Ythbpcenobaloaaa.Nf Go.Proofs.Ythbpcenobaloaaa.Qt

/-- A sprite at a dot. -/
def dstep (s : Sc) (line : Int) (n : Nat) (d : Ds) (i : Nat) : Ds := if (spV s i).x ≤ n ∧ (n : Int) < (spV s i).x + (spV s i).boxW then stepD s (spV s i) line n d else d
theorem layL_at (s : Sc) (line : Int) (n : Nat) : ∀ (l : List Nat) (F : Nat → Ds), layL s line l F n = l.foldl (dstep s line n) (F n)
  | [], _ => rfl
  | i :: l, F => layL_at s line n l _
/-- The dot of the document. -/
def atV (s : Sc) (line : Int) (n : Nat) (l : List Nat) : Ds := l.foldl (dstep s line n) ⟨32768, 0, false, false⟩
theorem draw_at (s : Sc) (line : Int) (n : Nat) : drawF s line n = atV s line n (spritesV s line) := layL_at s line n _ _
def dotC (d : Ds) : List Value := [.int .u16 d.c, .int .i64 d.p, .bool d.s]
abbrev dotO (d : Ds) : Obj := .cells (dotC d).toArray 56 (0, 0)
def zeroDot : Ds := ⟨0, 0, false, false⟩
theorem zeroDt (w : World) : (zeroValue 56).run Try.prog w = .ok (.agg #[.int .u16 0, .int .i64 0, .bool false]) w := by kernel_rfl
theorem info_d (d : Ds) : (Try.prog.info? 56).map (·.size) = some (dotC d).toArray.size := by show _ = some 3; kernel_rfl
theorem d_size (d e : Ds) : (dotC d).toArray.size = (dotC e).toArray.size := rfl
theorem d_one (d : Ds) : (dotC d).toArray.all (·.oneCell') = true := by simp [dotC, Value.oneCell']
/-- While At goes on. -/
structure Ar (w wx : World) (d : Ds) : Prop where
  rc : wx.heap[w.heap.size]? = some (dotO zeroDot)
  rd : wx.heap[w.heap.size + 1]? = some (dotO d)
  bl : Below w.heap.size w wx
theorem Ar.drewN {w wx : World} {d : Ds} (h : Ar w wx d) (n : Nat) : Ar w (wx.drewN n) d := ⟨h.rc, h.rd, below_dn h.bl n⟩
theorem Ar.set3 {w wx : World} {d : Ds} (h : Ar w wx d) (c p : Int) (s v : Bool) : Ar w (((wx.setCell ⟨w.heap.size + 1, 0, none⟩ (.int .u16 c)).setCell ⟨w.heap.size + 1, 1, none⟩ (.int .i64 p)).setCell ⟨w.heap.size + 1, 2, none⟩ (.bool s)) ⟨c, p, s, v⟩ := by
  have O := (((Only.refl h.rd).set (j := 0) (.int .u16 c)).set (j := 1) (.int .i64 p)).set (j := 2) (.bool s)
  exact ⟨O.keep h.rc (by omega), O.at_, below_only h.bl O (by omega) h.bl.size⟩
theorem Ar.win {w wx : World} {d : Ds} (h : Ar w wx d) (b : Bool) : Ar w wx { d with w := b } := ⟨h.rc, h.rd, h.bl⟩
theorem foldl_take (s : Sc) (line : Int) (n : Nat) (l : List Nat) {k : Nat} (h : k < l.length) : (l.take (k + 1)).foldl (dstep s line n) ⟨32768, 0, false, false⟩ = dstep s line n ((l.take k).foldl (dstep s line n) ⟨32768, 0, false, false⟩) l[k] := by
  rw [List.take_succ_eq_append_getElem h, List.foldl_append]; rfl
def AOut (w : World) (s : Sc) (line : Int) (n : Nat) (l : List Nat) (e : Ending) (w' : World) : Prop :=
  e = .returned (.tuple #[.agg (dotC (atV s line n l)).toArray, .bool (atV s line n l).w]) ∧ Below w.heap.size w w'
set_option maxRecDepth 1000000 in
set_option maxHeartbeats 16000000 in
theorem at_any {w : World} {B sb : Nat} {T : TypeId} {s : Sc} (h : Sn w sb T s) (k : Sok s) {v : Value} {l : List Nat} (ho : own9 w B s v l) {line : Int} (hl : ∀ i, i ∈ l → hits s line i = true ∧ 0 ≤ line ∧ line < 160) (hlen : l.length ≤ 128) {n : Nat} (hn : n < 240) :
    Calls Try.prog 13 #[.pointer (some ⟨sb, 0, none⟩), .int .i64 n, .int .i64 line, v] w fun e w' => AOut w s line n l e w' := by
  have SH := Lib.hid h
  have KH := Lib.hid k
  have OH := Lib.hid ho
  have HL := Lib.hid hl
  have n0 : (0 : Int) ≤ (n : Int) := by omega
  have n1 : (n : Int) < 240 := by omega
  have ZL := zeroDt
  obtain ⟨va, vc, hv⟩ := own9_form ho
  subst hv
  have ll : (l.length : Int) ≤ 128 := by omega
  clear h k ho hl
  go_enter Try.func13, Try.ntmps13
  go_upto_region 3 with fail
  change Code.wp _ _ _ _ ((w.alloc (dotO zeroDot)).alloc (dotO ⟨32768, 0, false, false⟩))
  clear ZL
  have A0 : Hid (Ar w ((w.alloc (dotO zeroDot)).alloc (dotO ⟨32768, 0, false, false⟩)) ⟨32768, 0, false, false⟩) := by
    have a2 := alloc_new (w.alloc (dotO zeroDot)) (dotO ⟨32768, 0, false, false⟩)
    exact Lib.hid ⟨alloc_old _ (alloc_new _ _), by simpa using a2, ((Below.refl _ _).alloc (Nat.le_refl _) _).alloc (by simp) _⟩
  generalize (w.alloc (dotO zeroDot)).alloc (dotO ⟨32768, 0, false, false⟩) = w2 at *
  go_wp2_with fail
  go_loopw [11, 12] (fun bv iv wr => ∃ (k : Nat) (d : Ds), iv = .int .i64 k ∧ k ≤ l.length ∧ bv = .bool d.w ∧ Ar w wr d ∧ d = (l.take k).foldl (dstep s line n) ⟨32768, 0, false, false⟩) (fun _ iv _ => l.length - (intOf iv).toNat)
  case atStart => exact ⟨0, _, rfl, by omega, rfl, A0.out, rfl⟩
  case round =>
    obtain ⟨k, d, rfl, hk, rfl, AR, ED⟩ := hrel
    have BL := AR.bl
    by_cases hlt : k < l.length
    · have tt : decide ((k : Int) < (l.length : Int)) = true := by simp; omega
      have k0 : (0 : Int) ≤ (k : Int) := by omega
      have k1 : (k : Int) < (l.length : Int) := by omega
      obtain ⟨g, cap, hv, hg, hc9⟩ := own9_at (own9_later OH.out BL) hlt
      obtain ⟨i, hi⟩ : ∃ i, l[k] = i := ⟨_, rfl⟩
      rw [hi] at hc9
      have RN : Hid (Rn wr g (k * 9) (full9 s i)) := Lib.hid ⟨hc9, hg⟩
      obtain ⟨rfl, rfl⟩ : va = some ⟨g, 0, none⟩ ∧ vc = cap := by simpa using hv
      have SN := Lib.hid (SH.out.later BL)
      have HI := HL.out i (by rw [← hi]; exact List.getElem_mem hlt)
      have NX := foldl_take s line n l hlt
      rw [hi, ← ED] at NX
      have NXH := Lib.hid NX
      have ARH := Lib.hid AR
      have DS : Hid (dstep s line n d i = if (spV s i).x ≤ n ∧ (n : Int) < (spV s i).x + (spV s i).boxW then stepD s (spV s i) line n d else d) := Lib.hid rfl
      clear hv hg hc9 hi NX ED AR BL
      have CX := RN.out.c_x
      have CBW := RN.out.c_bw
      have lt := RN.out.lt
      change wr.cell? _ = some (.int .i64 (spV s i).x) at CX
      change wr.cell? _ = some (.int .i64 (spV s i).boxW) at CBW
      have PO := Lib.hid (sp_ok KH.out i)
      have x0 := PO.out.x0
      have x1 := PO.out.x1
      have bwb : (spV s i).boxW ≤ 128 := by have := PO.out.bw; have := PO.out.w; omega
      have bw0 : 8 ≤ (spV s i).boxW := by have := PO.out.bw; have := PO.out.w; omega
      obtain ⟨hh, l0, l1⟩ := HI
      have HB : (spV s i).y ≤ line ∧ line < (spV s i).y + (spV s i).boxH := by
        unfold hits at hh
        simp only [Bool.and_eq_true, decide_eq_true_eq] at hh
        exact ⟨hh.1.2, hh.2⟩
      have HBH := Lib.hid HB
      clear hh HB
      generalize hpx : (spV s i).x = px at *
      generalize hpw : (spV s i).boxW = pw at *
      have HPX := Lib.hid hpx
      have HPW := Lib.hid hpw
      clear hpx hpw
      have ew : IntKind.i64.wrap (px + pw) = px + pw := i64_in (by omega) (by omega)
      by_cases hin : px ≤ n ∧ (n : Int) < px + pw
      · have D2 := DS.out
        rw [if_pos hin] at D2
        have D2H := Lib.hid D2
        have t1 : decide ((n : Int) < px) = false := decide_eq_false (by omega)
        have t2 : decide (px + pw ≤ (n : Int)) = false := decide_eq_false (by omega)
        clear DS
        go_wp2_with fail
        go_quiet (fail)
        have R3 : Hid (Rn (wr.drewN nq) g (k * 9) (full9 s i)) := Lib.hid (RN.out.drewN nq)
        have S3 : Hid (Sn (wr.drewN nq) sb T s) := Lib.hid (SN.out.drewN nq)
        have A3 : Hid (Ar w (wr.drewN nq) d) := Lib.hid (ARH.out.drewN nq)
        clear CX CBW lt RN SN ARH
        generalize wr.drewN nq = w3 at *
        have CA := R3.out.c_a
        have CX := R3.out.c_x
        have CY := R3.out.c_y
        have CM := S3.out.mos
        have lt := R3.out.lt
        have lts := S3.out.lt
        change w3.cell? _ = some (.int .i64 (wA s i)) at CA
        change w3.cell? _ = some (.int .i64 (spV s i).x) at CX
        change w3.cell? _ = some (.int .i64 (spV s i).y) at CY
        rw [HPX.out] at CX
        obtain ⟨a0, a1⟩ := wA_bd KH.out i
        have o0 := KH.out.m0
        have o1 := KH.out.m1
        have y0 := PO.out.y0
        have y1 := PO.out.y1
        obtain ⟨b0, b1⟩ := acr_bd KH.out (spV s i)
        obtain ⟨d0, d1⟩ := dwn_bd KH.out (spV s i)
        have AV : Hid (acrP s (spV s i) = if (spV s i).mosaic then s.mos / 256 % 16 + 1 else 1) := Lib.hid rfl
        have DV : Hid (dwnP s (spV s i) = if (spV s i).mosaic then s.mos / 4096 + 1 else 1) := Lib.hid rfl
        have MO : Hid ((spV s i).mosaic = (wA s i / 4096 % 2 == 1)) := Lib.hid rfl
        have HIT : Hid (hitV s (spV s i) line n = inBoxV s (spV s i) (max ((n : Int) - n % acrP s (spV s i)) (spV s i).x - (spV s i).x) (max (line - line % dwnP s (spV s i)) (spV s i).y - (spV s i).y)) := Lib.hid rfl
        obtain ⟨f0, f1, f2⟩ := floor_bd n0 b0
        obtain ⟨m0, m1, m2⟩ := floor_bd l0 d0
        obtain ⟨PX, hPX⟩ : ∃ z, max ((n : Int) - n % acrP s (spV s i)) (spV s i).x = z := ⟨_, rfl⟩
        obtain ⟨PY, hPY⟩ : ∃ z, max (line - line % dwnP s (spV s i)) (spV s i).y = z := ⟨_, rfl⟩
        rw [hPX, hPY] at HIT
        have HX := Lib.hid hPX
        have HY := Lib.hid hPY
        have XB : Hid (0 ≤ PX - px ∧ PX - px < 128 ∧ PX < 240) := Lib.hid (by rw [HPX.out] at hPX; omega)
        have YB : Hid (0 ≤ PY - (spV s i).y ∧ PY - (spV s i).y < 128 ∧ PY < 160) := Lib.hid (by
          have := HBH.out
          have h2 := PO.out.bh
          have h3 := PO.out.h
          omega)
        rw [HPX.out] at HX
        clear hPX hPY
        generalize hac : acrP s (spV s i) = ac at *
        generalize hdn : dwnP s (spV s i) = dn at *
        generalize hmo : s.mos = mo at *
        generalize hms : (spV s i).mosaic = ms at *
        generalize hpy : (spV s i).y = py at *
        have HPY := Lib.hid hpy
        clear hac hdn hmo hms hpy
        have MO2 : (wA s i / 4096 % 2 == 1) = ms := MO.out.symm
        have MD : Hid ((spV s i).mode = wA s i / 1024 % 4) := Lib.hid rfl
        generalize wA s i = A at *
        go_upto_if 59 with fail
        go_cut [14, 15] (fun xv yv wx => xv = .int .i64 PX ∧ yv = .int .i64 PY ∧ Hid (∃ q, wx = w3.drewN q))
        case first =>
          have AH := AV.out
          have DH := DV.out
          cases ms
          · have E1 : Hid (PX = n ∧ PY = line) := Lib.hid (by
              have e1 : ac = 1 := AH
              have e2 : dn = 1 := DH
              have := HX.out
              have := HY.out
              have := HBH.out
              rw [e1] at *
              rw [e2] at *
              omega)
            clear AH DH
            go_wp2_with fail
            go_meet
            case rel => exact ⟨by rw [E1.out.1], by rw [E1.out.2], Lib.hid ⟨0, rfl⟩⟩
          · have e1 : mo / 256 % 16 + 1 = ac := AH.symm
            have e2 : mo / 4096 + 1 = dn := DH.symm
            clear AH DH
            have r0 : 0 ≤ mo / 256 % 16 := by omega
            have r1 : mo / 256 % 16 < 16 := by omega
            have t1 : Int.tmod (n : Int) ac = n % ac := Int.tmod_eq_emod_of_nonneg n0
            have t2 : IntKind.i64.wrap ((n : Int) - n % ac) = n - n % ac := i64_in (by omega) (by omega)
            have z1 : (ac = 0) = False := eq_false (by omega)
            have u1 : Int.tmod line dn = line % dn := Int.tmod_eq_emod_of_nonneg l0
            have u2 : IntKind.i64.wrap (line - line % dn) = line - line % dn := i64_in (by omega) (by omega)
            have z2 : (dn = 0) = False := eq_false (by omega)
            go_wp2_with fail
            go_quiet (fail)
            have CYQ : Hid (∀ q, (w3.drewN q).cell? ⟨g, k * 9 + 4, none⟩ = some (.int .i64 py)) := Lib.hid fun q => CY
            have LTQ : Hid (∀ q, g < (w3.drewN q).heap.size) := Lib.hid fun q => lt
            have HQ : Hid (∀ m, ∃ q, (w3.drewN nq).drewN m = w3.drewN q) := Lib.hid fun m => ⟨_, World.drewN_drewN _ _ _⟩
            clear CA CX CY CM lt lts
            have CY := CYQ.out nq
            have lt := LTQ.out nq
            generalize w3.drewN nq = w4 at *
            go_wp2_with fail
            all_goals
              go_quiet (fail)
              have HQ2 := Lib.hid (HQ.out nq)
              generalize w4.drewN nq = w5 at *
              go_wp2_with fail
              all_goals
                go_meet
                case rel => exact ⟨by congr 1; have := HX.out; omega, by congr 1; have := HY.out; omega, HQ2⟩
        case rest =>
        obtain ⟨rfl, rfl, HQ⟩ := hcut
        have R4 : Hid (Rn wc g (k * 9) (full9 s i)) := by obtain ⟨q, e⟩ := HQ.out; rw [e]; exact Lib.hid (R3.out.drewN q)
        have S4 : Hid (Sn wc sb T s) := by obtain ⟨q, e⟩ := HQ.out; rw [e]; exact Lib.hid (S3.out.drewN q)
        have A4 : Hid (Ar w wc d) := by obtain ⟨q, e⟩ := HQ.out; rw [e]; exact Lib.hid (A3.out.drewN q)
        clear CA CX CY CM lt lts R3 S3 A3 HQ AV DV MO MO2 b0 b1 d0 d1 f0 f1 f2 m0 m1 m2 o0 o1 HX HY
        generalize wc = w5 at *
        obtain ⟨XX, hXX⟩ : ∃ z, PX - px = z := ⟨_, rfl⟩
        obtain ⟨YY, hYY⟩ : ∃ z, PY - py = z := ⟨_, rfl⟩
        rw [HPX.out, hXX, hYY] at HIT
        have xb := XB.out
        have yb := YB.out
        rw [hXX] at xb
        rw [hYY] at yb
        have e1 : IntKind.i64.wrap (PX - px) = XX := by rw [hXX]; exact i64_in (by omega) (by omega)
        have e2 : IntKind.i64.wrap (PY - py) = YY := by rw [hYY]; exact i64_in (by omega) (by omega)
        have PL := Lib.hid (fun q => place_any (R4.out.drewN q) (S4.out.drewN q) KH.out xb.1 xb.2.1 yb.1 yb.2.1)
        have HIT2 : Hid (hitV s (spV s i) line n = colP s (spV s i) (spotX (spV s i) XX YY) (spotY (spV s i) XX YY)) := HIT
        clear hXX hYY xb yb XB YB HIT
        generalize spotX (spV s i) XX YY = sx at *
        generalize spotY (spV s i) XX YY = sy at *
        have CX := R4.out.c_x
        have CY := R4.out.c_y
        have lt := R4.out.lt
        have lts := S4.out.lt
        change w5.cell? _ = some (.int .i64 (spV s i).x) at CX
        change w5.cell? _ = some (.int .i64 (spV s i).y) at CY
        rw [HPX.out] at CX
        rw [HPY.out] at CY
        go_upto_region 15 with fail
        go_quiet ((go_at_call 19; exact Calls.quiet_of (PL.out _)))
        have RC := Lib.hid (rcol_any (R4.out.drewN nq) (S4.out.drewN nq) KH.out sx sy)
        have R6 : Hid (∀ q, Rn ((w5.drewN nq).drewN q) g (k * 9) (full9 s i)) := Lib.hid fun q => (R4.out.drewN nq).drewN q
        have S6 : Hid (∀ q, Sn ((w5.drewN nq).drewN q) sb T s) := Lib.hid fun q => (S4.out.drewN nq).drewN q
        have A6 : Hid (∀ q, Ar w ((w5.drewN nq).drewN q) d) := Lib.hid fun q => (A4.out.drewN nq).drewN q
        have hb := colP_bd KH.out (sp_ok KH.out i) sx sy
        rw [← HIT2.out] at RC hb
        clear CX CY lt lts R4 S4 A4 PL e1 e2 HIT2
        generalize w5.drewN nq = w6 at *
        have ST : Hid (stepD s (spV s i) line n d = if hitV s (spV s i) line n = 0 then d else if (spV s i).mode = 2 then { d with w := true }
          else if d.c = 32768 ∨ (spV s i).prio < d.p then ⟨colourV s (256 + hitV s (spV s i) line n), (spV s i).prio, (spV s i).mode == 1, d.w⟩ else d) := Lib.hid rfl
        generalize hitV s (spV s i) line n = H at *
        obtain ⟨hb0, hb1⟩ := hb
        go_upto_region 17 with (go_at_call 20; ((with_reducible refine RC.out.mono ?_); rintro e w' ⟨rfl, q6, rfl⟩))
        have R7 := Lib.hid (R6.out q6)
        have S7 := Lib.hid (S6.out q6)
        have A7 := Lib.hid (A6.out q6)
        clear R6 S6 A6 RC
        generalize w6.drewN q6 = w7 at *
        have CA := R7.out.c_a
        have CC := R7.out.c_c
        have lt := R7.out.lt
        have lts := S7.out.lt
        change w7.cell? _ = some (.int .i64 (wA s i)) at CA
        change w7.cell? _ = some (.int .i64 (wC s i)) at CC
        have MD2 : Hid ((spV s i).mode = wA s i / 1024 % 4) := Lib.hid rfl
        have PR2 : Hid ((spV s i).prio = wC s i / 1024 % 4) := Lib.hid rfl
        obtain ⟨ac0, ac1⟩ := wA_bd KH.out i
        obtain ⟨cc0, cc1⟩ := wC_bd KH.out i
        generalize wA s i = AA at *
        generalize wC s i = CCC at *
        rw [MD2.out, PR2.out] at ST
        by_cases gh : H = 0
        · have e := ST.out
          rw [if_pos gh] at e
          have ED : Hid (d = (l.take (k + 1)).foldl (dstep s line n) ⟨32768, 0, false, false⟩) := Lib.hid (by rw [NXH.out, D2H.out, e])
          have ghb : (H == 0) = true := by rw [gh]; rfl
          have GH := Lib.hid gh
          clear e gh ST D2H NXH
          go_wp2_with fail
          exact ⟨⟨k + 1, d, by go_num, by omega, rfl, A7.out, ED.out⟩, by simp [intOf]; omega⟩
        · have ghb : (H == 0) = false := by simpa using gh
          have e := ST.out
          rw [if_neg gh] at e
          clear gh ST
          by_cases gm : AA / 1024 % 4 = 2
          · rw [if_pos gm] at e
            have ED : Hid ({ d with w := true } = (l.take (k + 1)).foldl (dstep s line n) ⟨32768, 0, false, false⟩) := Lib.hid (by rw [NXH.out, D2H.out, e])
            have gmb : (AA / 1024 % 4 == 2) = true := by rw [gm]; rfl
            have GM := Lib.hid gm
            clear e gm D2H NXH
            go_wp2_with fail
            exact ⟨⟨k + 1, { d with w := true }, by go_num, by omega, rfl, A7.out.win true, ED.out⟩, by simp [intOf]; omega⟩
          · rw [if_neg gm] at e
            have gmb : (AA / 1024 % 4 == 2) = false := by simpa using gm
            have C0 : w7.cell? ⟨w.heap.size + 1, 0, none⟩ = some (.int .u16 d.c) := cellsAt A7.out.rd 0
            have C1 : w7.cell? ⟨w.heap.size + 1, 1, none⟩ = some (.int .i64 d.p) := cellsAt A7.out.rd 1
            have C2 : w7.cell? ⟨w.heap.size + 1, 2, none⟩ = some (.bool d.s) := cellsAt A7.out.rd 2
            have lr := sizeAt A7.out.rd
            have FRZ := freeAt A7.out.rd
            clear gm
            obtain ⟨dc, dp, ds, dw⟩ := d
            dsimp only at e C0 C1 C2
            by_cases gd : dc = 32768 ∨ CCC / 1024 % 4 < dp
            · rw [if_pos gd] at e
              have ED : Hid ((⟨colourV s (256 + H), CCC / 1024 % 4, AA / 1024 % 4 == 1, dw⟩ : Ds) = (l.take (k + 1)).foldl (dstep s line n) ⟨32768, 0, false, false⟩) := Lib.hid (by rw [NXH.out, D2H.out, e])
              have gdd : (dc == 32768) = true ∨ ((dc == 32768) = false ∧ decide (CCC / 1024 % 4 < dp) = true) := by
                by_cases g : dc = 32768
                · exact .inl (by simpa using g)
                · exact .inr ⟨by simpa using g, decide_eq_true (by omega)⟩
              clear gd e D2H NXH
              have CO := Lib.hid (fun q => rcolour_any (S7.out.drewN q) KH.out (256 + H) (by omega) (by omega))
              have w256 : IntKind.i64.wrap (256 + H) = 256 + H := i64_in (by omega) (by omega)
              generalize colourV s (256 + H) = cv at *
              have A8 : Hid (∀ q, Ar w ((((w7.drewN q).setCell ⟨w.heap.size + 1, 0, none⟩ (.int .u16 cv)).setCell ⟨w.heap.size + 1, 1, none⟩ (.int .i64 (CCC / 1024 % 4))).setCell ⟨w.heap.size + 1, 2, none⟩ (.bool (AA / 1024 % 4 == 1))) ⟨cv, CCC / 1024 % 4, AA / 1024 % 4 == 1, dw⟩) := Lib.hid fun q => (A7.out.drewN q).set3 _ _ _ _
              have F8 : Hid (∀ q j, (w7.drewN q).frozen? ⟨w.heap.size + 1, j, none⟩ = false) := Lib.hid fun q j => FRZ j
              have X0 : Hid (∀ q, (w7.drewN q).cell? ⟨w.heap.size + 1, 0, none⟩ = some (.int .u16 dc)) := Lib.hid fun q => C0
              have X1 : Hid (∀ q, (w7.drewN q).cell? ⟨w.heap.size + 1, 1, none⟩ = some (.int .i64 dp)) := Lib.hid fun q => C1
              have X2 : Hid (∀ q, (w7.drewN q).cell? ⟨w.heap.size + 1, 2, none⟩ = some (.bool ds)) := Lib.hid fun q => C2
              have XL : Hid (∀ q, w.heap.size + 1 < (w7.drewN q).heap.size) := Lib.hid fun q => lr
              rcases gdd with gd | ⟨gd, gd2⟩
              all_goals
                go_upto_region 22 with fail
                clear lr FRZ C0 C1 C2
                refine region_quiet_tail 13 (by kernel_rfl) (by kernel_rfl) ?_
                simp only [List.take_succ_cons, List.take_zero, List.drop_succ_cons, List.drop_zero]
                repeat (quiet_step ((go_at_call 21; exact Calls.quiet_of (CO.out _))))
                refine wpQuiet_nil ?_
                intro _ hw'
                obtain ⟨nq2, hw''⟩ := hw'
                subst hw''
                have Y0 := X0.out nq2
                have Y1 := X1.out nq2
                have Y2 := X2.out nq2
                have YF := F8.out nq2
                have YL := XL.out nq2
                have A9 := Lib.hid (A8.out nq2)
                clear CA CC lt lts
                generalize w7.drewN nq2 = w8 at *
                go_wp2_with fail
                exact ⟨⟨k + 1, _, by go_num, by omega, rfl, A9.out, ED.out⟩, by simp [intOf]; omega⟩
            · rw [if_neg gd] at e
              have ED : Hid ((⟨dc, dp, ds, dw⟩ : Ds) = (l.take (k + 1)).foldl (dstep s line n) ⟨32768, 0, false, false⟩) := Lib.hid (by rw [NXH.out, D2H.out, e])
              have gd1 : (dc == 32768) = false := by
                have : ¬ dc = 32768 := fun h => gd (.inl h)
                simpa using this
              have gd2 : decide (CCC / 1024 % 4 < dp) = false := decide_eq_false fun h => gd (.inr h)
              clear gd e D2H NXH
              go_wp2_with fail
              exact ⟨⟨k + 1, ⟨dc, dp, ds, dw⟩, by go_num, by omega, rfl, A7.out, ED.out⟩, by simp [intOf]; omega⟩
      · have D2 := DS.out
        rw [if_neg hin] at D2
        have ED : Hid (d = (l.take (k + 1)).foldl (dstep s line n) ⟨32768, 0, false, false⟩) := Lib.hid (by rw [NXH.out, D2])
        have hc : decide ((n : Int) < px) = true ∨ (decide ((n : Int) < px) = false ∧ decide (px + pw ≤ (n : Int)) = true) := by
          simp only [decide_eq_true_eq, decide_eq_false_iff_not]; omega
        clear hin D2 NXH DS
        rcases hc with t | ⟨t, t2⟩
        all_goals
          go_wp2_with fail
          go_quiet (fail)
          have A3 := Lib.hid (ARH.out.drewN nq)
          generalize wr.drewN nq = w3 at *
          go_wp2_with fail
          exact ⟨⟨k + 1, d, by go_num, by omega, rfl, A3.out, ED.out⟩, by simp [intOf]; omega⟩
    · have nn : k = l.length := by omega
      have tt : decide ((k : Int) < (l.length : Int)) = false := by simp; omega
      have t3 : decide (k < l.length) = false := by simp; omega
      have EE : Hid (d = atV s line n l) := Lib.hid (by rw [ED, nn, List.take_length]; rfl)
      have R0 := Lib.hid AR.rc
      have R1 := Lib.hid AR.rd
      have fin : Hid (Below w.heap.size w (wr.setRow w.heap.size (dotC d).toArray)) := Lib.hid (below_only AR.bl (only_row (Only.refl AR.rc) _) (Nat.le_refl _) AR.bl.size)
      clear AR ED nn hlt BL
      go_wp2_with (first | (refine wpList_load_row rfl 56 (.tmp 10) rfl (w.heap.size + 1) rfl 56 _ (0, 0) _ R1.out Try.underlying56 rfl (info_d d) ?_) | (refine wpList_store_row rfl 56 (.tmp 8) (.tmp 155) rfl w.heap.size (dotC d).toArray rfl rfl 56 (dotC zeroDot).toArray R0.out (info_d _) (d_size _ _) (d_one _) ?_))
      exact bodyPost_ret (results_row9 rfl _ _ w.heap.size 56 _ _ _ rfl (setRow_heap _ _ _ _ _ _ R0.out) rfl Try.underlying56 (info_d d)) rfl ⟨by rw [← EE.out]; rfl, fin.out⟩
end Go.Proofs.Ythbpcenobaloaaa.Ng
