/- The document's sprites, walked: read. -/
import Derived.Test.YthbpcenobaloaaaNa
import Derived.Test.YthbpcenobaloaaaRq
import Derived.Test.YthbpcenobaloaaaPf
namespace Go.Proofs.Ythbpcenobaloaaa.Nb
set_option linter.unusedVariables false
set_option linter.unusedSimpArgs false
open Go.RowKit Go.Proofs.Ythbpcenobaloaaa.Bt Go.Proofs.Ythbpcenobaloaaa.Wk Go.Proofs.Ythbpcenobaloaaa.Sg Go.Proofs.Ythbpcenobaloaaa.Gp Go.Proofs.Ythbpcenobaloaaa.Gm Go.Proofs.Ythbpcenobaloaaa.Pp Go.Proofs.Ythbpcenobaloaaa.Pa Go.Proofs.Ythbpcenobaloaaa.Pb Go.Proofs.Ythbpcenobaloaaa.Pc Go.Proofs.Ythbpcenobaloaaa.Pg Go.Proofs.Ythbpcenobaloaaa.Ph Go.Proofs.Ythbpcenobaloaaa.Ha Go.Proofs.Ythbpcenobaloaaa.Na Go.Proofs.Ythbpcenobaloaaa.Rq

/-- The document's sprite. -/
structure R9 where
  a : Int
  b : Int
  c : Int
  x : Int
  y : Int
  wd : Int
  hg : Int
  bw : Int
  bh : Int
def cells9 (r : R9) : List Value := [.int .i64 r.a, .int .i64 r.b, .int .i64 r.c, .int .i64 r.x, .int .i64 r.y, .int .i64 r.wd, .int .i64 r.hg, .int .i64 r.bw, .int .i64 r.bh]
def zero9 : R9 := ⟨0, 0, 0, 0, 0, 0, 0, 0, 0⟩
def head9 (s : Sc) (i : Nat) : R9 := ⟨wA s i, wB s i, wC s i, 0, 0, 0, 0, 0, 0⟩
def full9 (s : Sc) (i : Nat) : R9 := ⟨wA s i, wB s i, wC s i, (spV s i).x, (spV s i).y, (spV s i).wide, (spV s i).high, (spV s i).boxW, (spV s i).boxH⟩
theorem zeroS (w : World) : (zeroValue 70).run Try.prog w = .ok (.agg #[.int .i64 0, .int .i64 0, .int .i64 0, .int .i64 0, .int .i64 0, .int .i64 0, .int .i64 0, .int .i64 0, .int .i64 0]) w := by kernel_rfl
theorem info_s : (Try.prog.info? 70).map (·.size) = some 9 := by kernel_rfl
theorem info_sr (r : R9) : (Try.prog.info? 70).map (·.size) = some (cells9 r).toArray.size := info_s
theorem s_size (p r : R9) : (cells9 p).toArray.size = (cells9 r).toArray.size := rfl
theorem s_one (p : R9) : (cells9 p).toArray.all (·.oneCell') = true := by simp [cells9, Value.oneCell']
abbrev sprO (r : R9) : Obj := .cells (cells9 r).toArray 70 (0, 0)
/-- While read goes on. -/
structure Qs (w wx : World) (sb : Nat) (T : TypeId) (s : Sc) (pb : Nat) (r : R9) : Prop where
  sn : Sn wx sb T s
  rc : wx.heap[w.heap.size]? = some (sprO zero9)
  pn : wx.heap[pb]? = some (sprO r)
  bl : Below w.heap.size w wx
  lt : w.heap.size < pb
  src : Sn w sb T s
theorem Qs.set {w wx : World} {sb : Nat} {T : TypeId} {s : Sc} {pb : Nat} {p p' : R9} {j : Nat} {v : Value} (h : Qs w wx sb T s pb p) (e : (cells9 p).toArray.setIfInBounds j v = (cells9 p').toArray) : Qs w (wx.setCell ⟨pb, j, none⟩ v) sb T s pb p' := by
  have O := (Only.refl h.pn).set (j := j) v
  have lt := h.lt
  have B := below_only h.bl O (by omega) h.bl.size
  exact ⟨h.src.later B, set_ne v (by omega) h.rc, by rw [set_at v h.pn, e], B, lt, h.src⟩
theorem Qs.later {w wx wy : World} {sb : Nat} {T : TypeId} {s : Sc} {pb : Nat} {p : R9} (h : Qs w wx sb T s pb p) (b : Below wx.heap.size wx wy) : Qs w wy sb T s pb p :=
  ⟨h.sn.later b, keep b h.rc, keep b h.pn, below_then h.bl b h.bl.size, h.lt, h.src⟩
theorem Qs.drewN {w wx : World} {sb : Nat} {T : TypeId} {s : Sc} {pb : Nat} {p : R9} (h : Qs w wx sb T s pb p) (n : Nat) : Qs w (wx.drewN n) sb T s pb p :=
  ⟨h.sn.drewN n, drewN_heap n h.rc, drewN_heap n h.pn, below_dn h.bl n, h.lt, h.src⟩
theorem Qs.out {w wx : World} {sb : Nat} {T : TypeId} {s : Sc} {pb : Nat} {p q : R9} (h : Qs w wx sb T s pb p) : Below w.heap.size w (wx.setRow w.heap.size (cells9 q).toArray) :=
  below_only h.bl (only_row (Only.refl h.rc) _) (Nat.le_refl _) h.bl.size
theorem rturned_any {w : World} {b : Nat} {r : R9} (h : w.heap[b]? = some (sprO r)) (a0 : 0 ≤ r.a) (a1 : r.a < 65536) : Calls Try.prog 18 #[.pointer (some ⟨b, 0, none⟩)] w fun e w' => e = .returned (.bool (r.a / 256 % 2 == 1)) ∧ w = w' := by
  have C0 : w.cell? ⟨b, 0, none⟩ = some (.int .i64 r.a) := cellsAt h 0
  have lt := sizeAt h
  clear h
  generalize r.a = a at *
  go_enter Try.func18, Try.ntmps18
  go_wp2_with fail
  go_ret
  exact ⟨rfl, rfl⟩
/-- How read ends. -/
def QOut (w : World) (s : Sc) (i : Nat) (e : Ending) (w' : World) : Prop :=
  Below w.heap.size w w' ∧ (okV s i = true → e = .returned (.tuple #[.agg (cells9 (full9 s i)).toArray, .bool true])) ∧ (okV s i = false → ∃ p, e = .returned (.tuple #[.agg (cells9 p).toArray, .bool false]))
theorem results_row9 {fn : Func} {p u : Tmp} {ty : TypeId} (h : fn.results = #[.cell p ty, .tmp u]) (tmps : Array Value) (w : World) (g : Nat) (t : TypeId) (cs : Array Value) (fr : Nat × Nat) (d : TypeDesc)
    (hp : tmps.getD p undef = .pointer (some ⟨g, 0, none⟩)) (hg : w.heap[g]? = some (.cells cs t fr))
    (hd : (match d with | .struct _ | .array _ _ => true | _ => false) = true) (hu : Try.prog.underlying ty = some d) (hi : (Try.prog.info? ty).map (·.size) = some cs.size) :
    (results fn tmps).run Try.prog w = .ok (.tuple #[.agg cs, tmps.getD u undef]) w := results_row_tmp h tmps w g t cs fr d hp hg hd hu hi
theorem box_second {s : Sc} {i : Nat} {A : Int} (h : okV s i = true) (ha : wA s i = A) : ((A / 512 % 2 == 1) = true → (spV s i).boxW = (spV s i).wide * 2 ∧ (spV s i).boxH = (spV s i).high * 2) ∧ ((A / 512 % 2 == 1) = false → (spV s i).boxW = (spV s i).wide ∧ (spV s i).boxH = (spV s i).high) := by
  subst ha
  have OV : okV s i = (!(wA s i / 16384 == 3) && !(wA s i / 1024 % 4 == 3) && ((wA s i / 256 % 2 == 1) || !(wA s i / 512 % 2 == 1))) := rfl
  rw [h] at OV
  show ((wA s i / 512 % 2 == 1) = true → (if isTurned s i then boxM s i * _ else _) = _ ∧ (if isTurned s i then boxM s i * _ else _) = _) ∧ ((wA s i / 512 % 2 == 1) = false → (if isTurned s i then boxM s i * _ else _) = _ ∧ (if isTurned s i then boxM s i * _ else _) = _)
  refine ⟨fun e => ?_, fun e => ?_⟩
  · have t : isTurned s i = true := by
      unfold isTurned
      rw [e] at OV
      revert OV
      cases (wA s i / 256 % 2 == 1) <;> simp
    have m : boxM s i = 2 := by unfold boxM; rw [if_pos (by simpa using e)]
    rw [t, if_pos rfl, if_pos rfl, m]
    exact ⟨Int.mul_comm _ _, Int.mul_comm _ _⟩
  · have m : boxM s i = 1 := by unfold boxM; rw [if_neg (by simpa using e)]
    rw [m, Int.one_mul, Int.one_mul]
    exact ⟨by split <;> rfl, by split <;> rfl⟩
noncomputable def restQ : Code := aft 2 (Try.f17.body.getD .skip)
set_option maxRecDepth 1000000 in
set_option maxHeartbeats 16000000 in
theorem rread_no {w wc : World} {sb pb : Nat} {T : TypeId} {s : Sc} {i : Nat} {u2 u3 u7 u8 u9 u10 u11 u12 u13 u14 u15 u16 u17 u18 u19 u20 u21 u22 u23 u24 u25 u26 u27 u28 u29 u30 u31 u32 u33 u34 u35 u36 u37 u38 u39 u40 u41 u42 u43 u44 u45 u46 u47 u48 u49 u50 u51 u52 u53 u54 u55 u56 u57 u58 u59 u60 u61 u62 u63 u64 u65 u66 u67 u68 u69 u70 u71 u72 u73 u74 u75 u76 u77 u78 u79 u80 u81 u82 u83 u84 u85 u86 u87 u88 u89 u90 u91 u92 u93 u94 u95 u96 u97 u98 u99 u100 u101 u102 u103 u104 u105 : Value} (KH : Hid (Sok s)) (NK : Hid (okV s i = false)) (QS : Hid (Qs w wc sb T s pb (head9 s i))) :
    Code.wp Try.prog restQ (bodyPost Try.prog Try.f17 (fun e w' => QOut w s i e w')) ⟨#[.pointer (some ⟨sb, 0, none⟩), .int .i64 i, u2, u3, .pointer (some ⟨w.heap.size, 0, none⟩), .bool false, .pointer (some ⟨pb, 0, none⟩), u7, u8, u9, u10, u11, u12, u13, u14, u15, u16, u17, u18, u19, u20, u21, u22, u23, u24, u25, u26, u27, u28, u29, u30, u31, u32, u33, u34, u35, u36, u37, u38, u39, u40, u41, u42, u43, u44, u45, u46, u47, u48, u49, u50, u51, u52, u53, u54, u55, u56, u57, u58, u59, u60, u61, u62, u63, u64, u65, u66, u67, u68, u69, u70, u71, u72, u73, u74, u75, u76, u77, u78, u79, u80, u81, u82, u83, u84, u85, u86, u87, u88, u89, u90, u91, u92, u93, u94, u95, u96, u97, u98, u99, u100, u101, u102, u103, u104, u105], []⟩ wc := by
  conv => arg 2; whnf
  dsimp only
  have OV : okV s i = (!(wA s i / 16384 == 3) && !(wA s i / 1024 % 4 == 3) && ((wA s i / 256 % 2 == 1) || !(wA s i / 512 % 2 == 1))) := rfl
  have BA := wA_bd KH.out i
  have TU := Lib.hid (rturned_any QS.out.pn BA.1 BA.2)
  have C0 : wc.cell? ⟨pb, 0, none⟩ = some (.int .i64 (wA s i)) := cellsAt QS.out.pn 0
  have LP := sizeAt QS.out.pn
  have E9 := Lib.hid (QS.out.out (q := head9 s i))
  change Hid (Calls Try.prog 18 _ _ fun e w' => e = .returned (.bool (wA s i / 256 % 2 == 1)) ∧ _) at TU
  generalize hA : wA s i = A at *
  have HA := Lib.hid hA
  clear hA
  obtain ⟨a0, a1⟩ := BA
  have g4 : (A / 16384 == 3) = true ∨ ((A / 16384 == 3) = false ∧ (A / 1024 % 4 == 3) = true) ∨ ((A / 16384 == 3) = false ∧ (A / 1024 % 4 == 3) = false ∧ (A / 256 % 2 == 1) = false ∧ (A / 512 % 2 == 1) = true) := by
    rw [NK.out] at OV
    revert OV
    cases (A / 16384 == 3) <;> cases (A / 1024 % 4 == 3) <;> cases (A / 256 % 2 == 1) <;> cases (A / 512 % 2 == 1) <;> simp
  clear OV
  rcases g4 with g | ⟨g, g2⟩ | ⟨g, g2, g3, g4⟩
  all_goals
    try rw [g3] at TU
    go_wp2_with (first | (go_at_call 18; ((with_reducible refine TU.out.mono ?_); rintro e w' ⟨rfl, rfl⟩)) | (refine wpList_load_row rfl 70 (.tmp 6) rfl pb rfl 70 _ (0, 0) _ QS.out.pn Try.underlying70 rfl (info_sr _) ?_) | (refine wpList_store_row rfl 70 (.tmp 4) (.tmp 55) rfl w.heap.size (cells9 (head9 s i)).toArray rfl rfl 70 (cells9 zero9).toArray QS.out.rc (info_sr _) (s_size _ _) (s_one _) ?_))
    exact bodyPost_ret (results_row9 rfl _ _ w.heap.size 70 _ _ _ rfl (setRow_heap _ _ _ _ _ _ QS.out.rc) rfl Try.underlying70 (info_sr (head9 s i))) rfl ⟨E9.out, fun h => absurd h (by rw [NK.out]; decide), fun _ => ⟨head9 s i, rfl⟩⟩
set_option maxRecDepth 1000000 in
set_option maxHeartbeats 16000000 in
theorem rread_yes {w wc : World} {sb pb : Nat} {T : TypeId} {s : Sc} {i : Nat} {u2 u3 u7 u8 u9 u10 u11 u12 u13 u14 u15 u16 u17 u18 u19 u20 u21 u22 u23 u24 u25 u26 u27 u28 u29 u30 u31 u32 u33 u34 u35 u36 u37 u38 u39 u40 u41 u42 u43 u44 u45 u46 u47 u48 u49 u50 u51 u52 u53 u54 u55 u56 u57 u58 u59 u60 u61 u62 u63 u64 u65 u66 u67 u68 u69 u70 u71 u72 u73 u74 u75 u76 u77 u78 u79 u80 u81 u82 u83 u84 u85 u86 u87 u88 u89 u90 u91 u92 u93 u94 u95 u96 u97 u98 u99 u100 u101 u102 u103 u104 u105 : Value} (KH : Hid (Sok s)) (GK : Hid (okV s i = true)) (QS : Hid (Qs w wc sb T s pb (head9 s i))) :
    Code.wp Try.prog restQ (bodyPost Try.prog Try.f17 (fun e w' => QOut w s i e w')) ⟨#[.pointer (some ⟨sb, 0, none⟩), .int .i64 i, u2, u3, .pointer (some ⟨w.heap.size, 0, none⟩), .bool false, .pointer (some ⟨pb, 0, none⟩), u7, u8, u9, u10, u11, u12, u13, u14, u15, u16, u17, u18, u19, u20, u21, u22, u23, u24, u25, u26, u27, u28, u29, u30, u31, u32, u33, u34, u35, u36, u37, u38, u39, u40, u41, u42, u43, u44, u45, u46, u47, u48, u49, u50, u51, u52, u53, u54, u55, u56, u57, u58, u59, u60, u61, u62, u63, u64, u65, u66, u67, u68, u69, u70, u71, u72, u73, u74, u75, u76, u77, u78, u79, u80, u81, u82, u83, u84, u85, u86, u87, u88, u89, u90, u91, u92, u93, u94, u95, u96, u97, u98, u99, u100, u101, u102, u103, u104, u105], []⟩ wc := by
  conv => arg 2; whnf
  dsimp only
  have OV : okV s i = (!(wA s i / 16384 == 3) && !(wA s i / 1024 % 4 == 3) && ((wA s i / 256 % 2 == 1) || !(wA s i / 512 % 2 == 1))) := rfl
  have BA := wA_bd KH.out i
  have BB := wB_bd KH.out i
  have TU := Lib.hid (rturned_any QS.out.pn BA.1 BA.2)
  have C0 : wc.cell? ⟨pb, 0, none⟩ = some (.int .i64 (wA s i)) := cellsAt QS.out.pn 0
  have LP := sizeAt QS.out.pn
  change Hid (Calls Try.prog 18 _ _ fun e w' => e = .returned (.bool (wA s i / 256 % 2 == 1)) ∧ _) at TU
  generalize hA : wA s i = A at *
  generalize hBB : wB s i = B at *
  have HA := Lib.hid hA
  have HBB := Lib.hid hBB
  clear hA hBB
  obtain ⟨a0, a1⟩ := BA
  obtain ⟨b0, b1⟩ := BB
  have g1 : (A / 16384 == 3) = false ∧ (A / 1024 % 4 == 3) = false ∧ ((A / 512 % 2 == 1) = false ∨ ((A / 512 % 2 == 1) = true ∧ (A / 256 % 2 == 1) = true)) := by
    rw [GK.out] at OV
    revert OV
    cases (A / 16384 == 3) <;> cases (A / 1024 % 4 == 3) <;> cases (A / 256 % 2 == 1) <;> cases (A / 512 % 2 == 1) <;> simp
  clear OV
  obtain ⟨g1, g2, g3⟩ := g1
  have G1 := Lib.hid g1
  obtain ⟨sc, hsc⟩ : ∃ sc, (A / 512 % 2 == 1) = sc := ⟨_, rfl⟩
  have HSC := Lib.hid hsc
  have G3 : Hid ((A / 512 % 2 == 1) = true → (A / 256 % 2 == 1) = true) := Lib.hid fun h => by
    rcases g3 with e | ⟨_, e⟩
    · rw [e] at h; cases h
    · exact e
  have G4 : Hid (sc = false ∨ (sc = true ∧ (A / 256 % 2 == 1) = true)) := Lib.hid (by rw [← hsc]; exact g3)
  clear g3
  go_upto_region 3 with fail
  clear hsc
  go_cut [54] (fun v wx => v = .bool false ∧ wc = wx)
  case first =>
    rcases G4.out with e | ⟨e, e2⟩
    · subst e
      go_wp2_with (first | (go_at_call 18; ((with_reducible refine TU.out.mono ?_); rintro e w' ⟨rfl, rfl⟩)) | (refine wpList_load_row rfl 70 (.tmp 6) rfl pb rfl 70 _ (0, 0) _ QS.out.pn Try.underlying70 rfl (info_sr _) ?_) | (refine wpList_store_row rfl 70 (.tmp 4) (.tmp 55) rfl w.heap.size (cells9 (head9 s i)).toArray rfl rfl 70 (cells9 zero9).toArray QS.out.rc (info_sr _) (s_size _ _) (s_one _) ?_))
      go_meet
      case rel => exact ⟨rfl, rfl⟩
    · subst e
      rw [e2] at TU
      go_wp2_with (first | (go_at_call 18; ((with_reducible refine TU.out.mono ?_); rintro e w' ⟨rfl, rfl⟩)) | (refine wpList_load_row rfl 70 (.tmp 6) rfl pb rfl 70 _ (0, 0) _ QS.out.pn Try.underlying70 rfl (info_sr _) ?_) | (refine wpList_store_row rfl 70 (.tmp 4) (.tmp 55) rfl w.heap.size (cells9 (head9 s i)).toArray rfl rfl 70 (cells9 zero9).toArray QS.out.rc (info_sr _) (s_size _ _) (s_one _) ?_))
      go_meet
      case rel => exact ⟨rfl, rfl⟩
  case rest =>
  obtain ⟨rfl, rfl⟩ := hcut
  clear C0 LP TU g1 g2
  have LP := sizeAt QS.out.pn
  have Fz := freeAt QS.out.pn
  have C1 : wc.cell? ⟨pb, 1, none⟩ = some (.int .i64 B) := by rw [← HBB.out]; exact cellsAt QS.out.pn 1
  have C3 : wc.cell? ⟨pb, 3, none⟩ = some (.int .i64 0) := cellsAt QS.out.pn 3
  have Fz2 : ∀ j, (wc.setCell ⟨pb, 3, none⟩ (.int .i64 (B % 512))).frozen? ⟨pb, j, none⟩ = false := freeAt (set_at _ QS.out.pn)
  have E0 := Lib.hid (show (cells9 (head9 s i)).toArray.setIfInBounds 3 (.int .i64 (B % 512)) = (cells9 { head9 s i with x := B % 512 }).toArray from rfl)
  have QX : Hid (Qs w (wc.setCell ⟨pb, 3, none⟩ (.int .i64 (B % 512))) sb T s pb { head9 s i with x := B % 512 }) := Lib.hid (QS.out.set E0.out)
  have XV : Hid ((spV s i).x = if 256 ≤ B % 512 then B % 512 - 512 else B % 512) := Lib.hid (by rw [← HBB.out]; rfl)
  go_upto_if 62 with fail
  go_cut [] (fun wx => Hid (Qs w wx sb T s pb { head9 s i with x := (spV s i).x }))
  case first =>
    have XH := XV.out
    by_cases g : 256 ≤ B % 512
    · rw [if_pos g] at XH
      have XH2 := Lib.hid XH
      have t : 255 < B % 512 := by omega
      clear g XH
      go_wp2_with fail
      go_meet
      case rel => exact Lib.hid (by rw [XH2.out]; exact QX.out.set rfl)
    · rw [if_neg g] at XH
      have XH2 := Lib.hid XH
      have t : B % 512 ≤ 255 := by omega
      clear g XH
      go_wp2_with fail
      go_meet
      case rel => exact Lib.hid (by rw [XH2.out]; exact QX.out)
  case rest =>
  clear C1 C3 LP Fz Fz2 QS E0 QX XV
  have QS := hcut
  clear hcut
  generalize hr1 : { head9 s i with x := (spV s i).x } = r1 at *
  have HR1 := Lib.hid hr1
  clear hr1
  generalize wc = w2 at *
  have LP := sizeAt QS.out.pn
  have Fz := freeAt QS.out.pn
  have C0 : w2.cell? ⟨pb, 0, none⟩ = some (.int .i64 A) := by rw [← HA.out, cellsAt QS.out.pn, ← HR1.out]; rfl
  have C4 : w2.cell? ⟨pb, 4, none⟩ = some (.int .i64 r1.y) := cellsAt QS.out.pn 4
  have Fz2 : ∀ j, (w2.setCell ⟨pb, 4, none⟩ (.int .i64 (A % 256))).frozen? ⟨pb, j, none⟩ = false := freeAt (set_at _ QS.out.pn)
  have QX : Hid (Qs w (w2.setCell ⟨pb, 4, none⟩ (.int .i64 (A % 256))) sb T s pb { r1 with y := A % 256 }) := Lib.hid (QS.out.set rfl)
  have XV : Hid ((spV s i).y = if 160 ≤ A % 256 then A % 256 - 256 else A % 256) := Lib.hid (by rw [← HA.out]; rfl)
  go_upto_if 73 with fail
  go_cut [] (fun wx => Hid (Qs w wx sb T s pb { r1 with y := (spV s i).y }))
  case first =>
    have XH := XV.out
    by_cases g : 160 ≤ A % 256
    · rw [if_pos g] at XH
      have XH2 := Lib.hid XH
      have t : 159 < A % 256 := by omega
      clear g XH
      go_wp2_with fail
      go_meet
      case rel => exact Lib.hid (by rw [XH2.out]; exact QX.out.set rfl)
    · rw [if_neg g] at XH
      have XH2 := Lib.hid XH
      have t : A % 256 ≤ 159 := by omega
      clear g XH
      go_wp2_with fail
      go_meet
      case rel => exact Lib.hid (by rw [XH2.out]; exact QX.out)
  case rest =>
  clear C0 C4 LP Fz Fz2 QS QX XV
  have QS := hcut
  clear hcut
  generalize hr2 : { r1 with y := (spV s i).y } = r2 at *
  have HR2 := Lib.hid hr2
  clear hr2
  generalize wc = w3 at *
  have LP := sizeAt QS.out.pn
  have C0 : w3.cell? ⟨pb, 0, none⟩ = some (.int .i64 A) := by rw [← HA.out, cellsAt QS.out.pn, ← HR2.out, ← HR1.out]; rfl
  have C1 : w3.cell? ⟨pb, 1, none⟩ = some (.int .i64 B) := by rw [← HBB.out, cellsAt QS.out.pn, ← HR2.out, ← HR1.out]; rfl
  have SZ := Lib.hid (rsize_any (w := w3) (A / 16384) (B / 16384) (by omega) (by have := G1.out; simp at this; omega) (by omega) (by omega))
  have WH : Hid (sizW (A / 16384) (B / 16384) = (spV s i).wide ∧ sizH (A / 16384) (B / 16384) = (spV s i).high) := Lib.hid (by rw [← HA.out, ← HBB.out]; exact ⟨rfl, rfl⟩)
  rw [WH.out.1, WH.out.2] at SZ
  have PO := sp_ok KH.out i
  have pw := PO.w
  have ph := PO.h
  have w0 : 0 ≤ (spV s i).wide := by omega
  have w1 : (spV s i).wide ≤ 64 := by omega
  have h0 : 0 ≤ (spV s i).high := by omega
  have h1 : (spV s i).high ≤ 64 := by omega
  clear PO pw ph
  generalize hW : (spV s i).wide = wd at *
  generalize hH : (spV s i).high = hg at *
  have HWD := Lib.hid hW
  have HHG := Lib.hid hH
  clear hW hH
  go_upto_region 11 with fail
  go_cut [] (fun wx => Hid (Qs w wx sb T s pb { r2 with wd := wd, hg := hg }))
  case first =>
    go_wp2_with (go_at_call 27; ((with_reducible refine SZ.out.mono ?_); rintro e w4 ⟨rfl, hb4⟩; have Q4 := QS.out.later hb4; have Q4H := Lib.hid Q4; have D5 : w4.cell? ⟨pb, 5, none⟩ = some (.int .i64 r2.wd) := cellsAt Q4.pn 5; have D6 : w4.cell? ⟨pb, 6, none⟩ = some (.int .i64 r2.hg) := cellsAt Q4.pn 6; have L4 := sizeAt Q4.pn; have Z4 := freeAt Q4.pn; have Y4 : ∀ j, (w4.setCell ⟨pb, 5, none⟩ (.int .i64 wd)).frozen? ⟨pb, j, none⟩ = false := freeAt (set_at _ Q4.pn); clear Q4 hb4))
    go_meet
    case rel => exact Lib.hid ((Q4H.out.set (p' := { r2 with wd := wd }) rfl).set rfl)
  case rest =>
  clear C0 C1 LP QS SZ
  have QS := hcut
  clear hcut
  generalize hr3 : { r2 with wd := wd, hg := hg } = r3 at *
  have HR3 := Lib.hid hr3
  clear hr3
  generalize wc = w4 at *
  have LP := sizeAt QS.out.pn
  have Fz := freeAt QS.out.pn
  have C5 : w4.cell? ⟨pb, 5, none⟩ = some (.int .i64 wd) := by rw [cellsAt QS.out.pn, ← HR3.out]; rfl
  have C6 : w4.cell? ⟨pb, 6, none⟩ = some (.int .i64 hg) := by rw [cellsAt QS.out.pn, ← HR3.out]; rfl
  have C7 : w4.cell? ⟨pb, 7, none⟩ = some (.int .i64 r3.bw) := cellsAt QS.out.pn 7
  have C8 : w4.cell? ⟨pb, 8, none⟩ = some (.int .i64 r3.bh) := cellsAt QS.out.pn 8
  have Fz2 : ∀ j, (w4.setCell ⟨pb, 7, none⟩ (.int .i64 wd)).frozen? ⟨pb, j, none⟩ = false := freeAt (set_at _ QS.out.pn)
  go_upto_region 12 with fail
  go_cut [] (fun wx => Hid (Qs w wx sb T s pb { r3 with bw := wd, bh := hg }))
  case first =>
    go_wp2_with fail
    go_meet
    case rel => exact Lib.hid ((QS.out.set (p' := { r3 with bw := wd }) rfl).set rfl)
  case rest =>
  clear C5 C6 C7 C8 LP Fz Fz2 QS
  have QS := hcut
  clear hcut
  generalize hr4 : { r3 with bw := wd, bh := hg } = r4 at *
  have HR4 := Lib.hid hr4
  clear hr4
  generalize wc = w5 at *
  have LP := sizeAt QS.out.pn
  have Fz := freeAt QS.out.pn
  have C7 : w5.cell? ⟨pb, 7, none⟩ = some (.int .i64 wd) := by rw [cellsAt QS.out.pn, ← HR4.out]; rfl
  have C8 : w5.cell? ⟨pb, 8, none⟩ = some (.int .i64 hg) := by rw [cellsAt QS.out.pn, ← HR4.out]; rfl
  have Fz2 : ∀ j, (w5.setCell ⟨pb, 7, none⟩ (.int .i64 (wd * 2))).frozen? ⟨pb, j, none⟩ = false := freeAt (set_at _ QS.out.pn)
  have EF : Hid (full9 s i = { r4 with bw := (spV s i).boxW, bh := (spV s i).boxH }) := Lib.hid (by
    rw [← HR4.out, ← HR3.out, ← HR2.out, ← HR1.out, ← HWD.out, ← HHG.out]; rfl)
  have BV : Hid ((sc = true → (spV s i).boxW = wd * 2 ∧ (spV s i).boxH = hg * 2) ∧ (sc = false → (spV s i).boxW = wd ∧ (spV s i).boxH = hg)) := Lib.hid (by
    rw [← HWD.out, ← HHG.out, ← HSC.out]
    exact box_second GK.out HA.out)
  go_upto_if 96 with fail
  go_cut [] (fun wx => Hid (Qs w wx sb T s pb (full9 s i)))
  case first =>
    cases sc
    · have E2 := BV.out.2 rfl
      have E3 : Hid (full9 s i = r4) := Lib.hid (by rw [EF.out, E2.1, E2.2, ← HR4.out])
      clear E2
      go_wp2_with fail
      go_meet
      case rel => exact Lib.hid (by rw [E3.out]; exact QS.out)
    · have E2 := BV.out.1 rfl
      have E3 : Hid (full9 s i = { r4 with bw := wd * 2, bh := hg * 2 }) := Lib.hid (by rw [EF.out, E2.1, E2.2])
      clear E2
      go_wp2_with fail
      go_meet
      case rel => exact Lib.hid (by rw [E3.out]; exact (QS.out.set (p' := { r4 with bw := wd * 2 }) rfl).set rfl)
  case rest =>
  clear C7 C8 LP Fz Fz2 QS
  have QS := hcut
  clear hcut
  have E9 := Lib.hid (QS.out.out (q := full9 s i))
  have P9 := Lib.hid QS.out.pn
  have R9 := Lib.hid QS.out.rc
  clear QS
  generalize hf : full9 s i = f9 at *
  have HF := Lib.hid hf
  clear hf
  go_wp2_with (first | (refine wpList_load_row rfl 70 (.tmp 6) rfl pb rfl 70 _ (0, 0) _ P9.out Try.underlying70 rfl (info_sr f9) ?_) | (refine wpList_store_row rfl 70 (.tmp 4) (.tmp 105) rfl w.heap.size (cells9 f9).toArray rfl rfl 70 (cells9 zero9).toArray R9.out (info_sr _) (s_size _ _) (s_one _) ?_))
  exact bodyPost_ret (results_row9 rfl _ _ w.heap.size 70 _ _ _ rfl (setRow_heap _ _ _ _ _ _ R9.out) rfl Try.underlying70 (info_sr f9)) rfl ⟨E9.out, fun _ => by rw [HF.out]; rfl, fun h => absurd h (by rw [GK.out]; decide)⟩
end Go.Proofs.Ythbpcenobaloaaa.Nb
