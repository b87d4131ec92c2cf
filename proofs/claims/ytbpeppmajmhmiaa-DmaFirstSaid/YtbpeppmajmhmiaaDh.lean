/- A unit is brought: Step over the tape. -/
import Derived.Test.YtbpeppmajmhmiaaDg
import Derived.Test.YtbpeppmajmhmiaaFt
namespace Go.Proofs.Ytbpeppmajmhmiaa.Dh
set_option linter.unusedVariables false
set_option linter.unusedSimpArgs false
open Go.RowKit Go.Proofs.Ytbpeppmajmhmiaa.Bt Go.Proofs.Ytbpeppmajmhmiaa.Wk Go.Proofs.Ytbpeppmajmhmiaa.Sg Go.Proofs.Ytbpeppmajmhmiaa.Dp Go.Proofs.Ytbpeppmajmhmiaa.Da Go.Proofs.Ytbpeppmajmhmiaa.Db Go.Proofs.Ytbpeppmajmhmiaa.Dc Go.Proofs.Ytbpeppmajmhmiaa.Dd Go.Proofs.Ytbpeppmajmhmiaa.De Go.Proofs.Ytbpeppmajmhmiaa.Fq Go.Proofs.Ytbpeppmajmhmiaa.Df Go.Proofs.Ytbpeppmajmhmiaa.Dg Go.Proofs.Ytbpeppmajmhmiaa.Ft

/-- The channels and the tape. -/
structure PS (w : World) (B ub tb : Nat) (pv wv : Value) (u : Nat → Ch) (ps : List Pl) (ws : List Int) : Prop where
  hu : isU w ub 62 u
  tp : Tp w B tb pv wv ps ws
  ne : ub ≠ tb
  np : pv.ownBlock ≠ some ub
  nw : wv.ownBlock ≠ some ub
  le : B ≤ ub
structure SEnd (w w' : World) (B ub tb : Nat) (pv wv pv' wv' : Value) (u : Nat → Ch) (ps : List Pl) (ws : List Int) : Prop where
  ps : PS w' B ub tb pv' wv' u ps ws
  mp : Moves w pv pv'
  mw : Moves w wv wv'
  fr : Fr (fun k => k = ub ∨ Foot tb pv wv k) w w'
theorem SEnd.refl {w : World} {B ub tb : Nat} {pv wv : Value} {u : Nat → Ch} {ps : List Pl} {ws : List Int} (h : PS w B ub tb pv wv u ps ws) : SEnd w w B ub tb pv wv pv wv u ps ws := ⟨h, .inl rfl, .inl rfl, Fr.refl _ _⟩
theorem PS.lt {w : World} {B ub tb : Nat} {pv wv : Value} {u : Nat → Ch} {ps : List Pl} {ws : List Int} (h : PS w B ub tb pv wv u ps ws) : ub < w.heap.size := sizeAt h.hu
theorem SEnd.trans {w w1 w2 : World} {B ub tb : Nat} {pv wv pv1 wv1 pv2 wv2 : Value} {u1 u2 : Nat → Ch} {ps1 ps2 : List Pl} {ws1 ws2 : List Int} (h : SEnd w w1 B ub tb pv wv pv1 wv1 u1 ps1 ws1) (h' : SEnd w1 w2 B ub tb pv1 wv1 pv2 wv2 u2 ps2 ws2) : SEnd w w2 B ub tb pv wv pv2 wv2 u2 ps2 ws2 := by
  refine ⟨h'.ps, moves_trans h.mp h'.mp h.fr.size, moves_trans h.mw h'.mw h.fr.size, h.fr.trans h'.fr ?_⟩
  rintro k (e | e | e | e) hk
  · exact .inl e
  · exact .inr (.inl e)
  · exact .inr (.inr (.inl (moves_old h.mp e hk)))
  · exact .inr (.inr (.inr (moves_old h.mw e hk)))
theorem SEnd.b1 {w W : World} {B ub tb : Nat} {pv wv pv' wv' : Value} {u : Nat → Ch} {i : Nat} {c : Ch} {ps : List Pl} {ws : List Int} (h : SEnd w W B ub tb pv wv pv' wv' (upd u i c) ps ws) : B1 W W ub 62 u i c := Only.refl h.ps.hu
theorem foot_ne {w : World} {B ub tb : Nat} {pv wv : Value} {u : Nat → Ch} {ps : List Pl} {ws : List Int} (h : PS w B ub tb pv wv u ps ws) : ¬ Foot tb pv wv ub := by
  rintro (e | e | e)
  · exact h.ne e
  · exact h.np e
  · exact h.nw e
theorem PS.store {w w' : World} {B ub tb : Nat} {pv wv : Value} {u v : Nat → Ch} {ps : List Pl} {ws : List Int} (h : PS w B ub tb pv wv u ps ws) (o : Only ub (.cells (cells v).toArray 62 (0, 0)) w w') : SEnd w w' B ub tb pv wv pv wv v ps ws := by
  have F := Fr.of_only o
  have n := foot_ne h
  exact ⟨⟨o.at_, h.tp.keep F (fun k hk e => n (e ▸ hk)), h.ne, h.np, h.nw, h.le⟩, .inl rfl, .inl rfl, F.mono fun k hk _ => .inl hk⟩
theorem SEnd.store {w W W' : World} {B ub tb : Nat} {pv wv pv' wv' : Value} {u : Nat → Ch} {i : Nat} {c c' : Ch} {ps : List Pl} {ws : List Int} (h : SEnd w W B ub tb pv wv pv' wv' (upd u i c) ps ws) (b : B1 W W' ub 62 u i c') : SEnd w W' B ub tb pv wv pv' wv' (upd u i c') ps ws := h.trans (h.ps.store b)
theorem moves_ne {w : World} {v v' : Value} {k : Nat} (h : Moves w v v') (hk : k < w.heap.size) (hn : v.ownBlock ≠ some k) : v'.ownBlock ≠ some k := fun e => hn (moves_old h e hk)
theorem SEnd.tape {w W W' : World} {B ub tb : Nat} {pv wv pv1 wv1 pv2 wv2 : Value} {u : Nat → Ch} {ps ps2 : List Pl} {ws ws2 : List Int} (h : SEnd w W B ub tb pv wv pv1 wv1 u ps ws) (t : TEnd W W' B tb pv1 wv1 pv2 wv2 ps2 ws2) : SEnd w W' B ub tb pv wv pv2 wv2 u ps2 ws2 := by
  have hl := h.ps.lt
  exact h.trans ⟨⟨t.fr.keep h.ps.hu (foot_ne h.ps), t.tape, h.ps.ne, moves_ne t.mp hl h.ps.np, moves_ne t.mw hl h.ps.nw, h.ps.le⟩, t.mp, t.mw, t.fr.mono fun k hk _ => .inr hk⟩
theorem SEnd.drew {w W : World} {B ub tb : Nat} {pv wv pv1 wv1 : Value} {u : Nat → Ch} {ps : List Pl} {ws : List Int} (h : SEnd w W B ub tb pv wv pv1 wv1 u ps ws) : SEnd w W.drew B ub tb pv wv pv1 wv1 u ps ws := by
  have F : Fr (fun _ => False) W W.drew := Fr.of_below (bd W)
  exact ⟨⟨h.ps.hu, h.ps.tp.keep F (fun _ _ e => e), h.ps.ne, h.ps.np, h.ps.nw, h.ps.le⟩, h.mp, h.mw, h.fr.trans F fun k hk _ => hk.elim⟩
theorem val_bd {a : Int} (h0 : 0 ≤ a) (h1 : a < 4294967296) : 0 ≤ val a ∧ val a < 4294967296 := by
  unfold val
  obtain ⟨n, hn⟩ := Int.eq_ofNat_of_zero_le (show 0 ≤ a * 2654435761 % 4294967296 by omega)
  obtain ⟨m, hm⟩ := Int.eq_ofNat_of_zero_le (show 0 ≤ a / 128 by omega)
  rw [hn, hm, xor_nat .u32 ws_u32 n m (by simp [IntKind.bits]; omega) (by simp [IntKind.bits]; omega)]
  have := Nat.xor_lt_two_pow (x := n) (y := m) (n := 32) (by omega) (by omega)
  omega
theorem or_16 (x : Int) : Go.bits .or .u32 (x % 65536) (x % 65536 * 65536) = x % 65536 * 65536 + x % 65536 := (or_sum 16 (x % 65536) (x % 65536 * 65536) 65536 (by decide) (by omega) (by omega) (by omega) (by omega) (by omega)).trans (Int.add_comm _ _)
def toHow (c : Ch) (i : Int) : Int := if sound c i then 2 else how c
theorem toHow_eq (c : Ch) (i : Int) : toHow c i = if sound c i then 2 else how c := rfl
theorem m_Load (fuel : Nat) (a : Addr) (w : World) : (method (fuel + 1) 25 (.pointer (some a)) "Load").run Try.prog w = .ok (50, .pointer (some a)) w := by kernel_rfl
theorem n_Load (fuel : Nat) (a : Addr) (w : World) : (nilAhead (fuel + 1) 25 (.pointer (some a)) "Load").run Try.prog w = .ok (some false) w := by kernel_rfl
theorem m_Store (fuel : Nat) (a : Addr) (w : World) : (method (fuel + 1) 25 (.pointer (some a)) "Store").run Try.prog w = .ok (51, .pointer (some a)) w := by kernel_rfl
theorem n_Store (fuel : Nat) (a : Addr) (w : World) : (nilAhead (fuel + 1) 25 (.pointer (some a)) "Store").run Try.prog w = .ok (some false) w := by kernel_rfl
def algn (a wd : Int) : Int := a - a % wd
/-- What is kept behind the reading. -/
def kept (c : Ch) (wd : Int) : Int := if 33554432 ≤ c.at_ then rdC c wd (val (algn c.at_ wd)) else c.latch
def reads (c : Ch) (i wd cls : Int) : List Pl := if 33554432 ≤ c.at_ then [⟨i, true, algn c.at_ wd, 0, wd, cls⟩] else []
def planOf (c : Ch) (i wd cls : Int) : Pl := ⟨i, decide (33554432 ≤ c.at_), if 33554432 ≤ c.at_ then algn c.at_ wd else 0, algn c.to_ wd, wd, cls⟩
theorem and_al2 {a : Int} (h0 : 0 ≤ a) (h1 : a < 4294967296) : Go.bits .and .u32 a 4294967294 = algn a 2 := by
  obtain ⟨n, rfl⟩ := Int.eq_ofNat_of_zero_le h0
  rw [show (4294967294 : Int) = ((4294967294 : Nat) : Int) from rfl, and_nat .u32 ws_u32 n _ (by simp [IntKind.bits]; omega) (by decide)]
  have s := land_split 1 n 4294967294
  rw [show 4294967294 % 2 ^ 1 = 0 by decide, show 4294967294 / 2 ^ 1 = 2 ^ 31 - 1 by decide, Nat.and_zero, Nat.and_two_pow_sub_one_eq_mod, Nat.add_zero] at s
  rw [s]
  have : n / 2 ^ 1 % 2 ^ 31 = n / 2 := by omega
  rw [this]
  unfold algn
  omega
theorem and_al4 {a : Int} (h0 : 0 ≤ a) (h1 : a < 4294967296) : Go.bits .and .u32 a 4294967292 = algn a 4 := by
  obtain ⟨n, rfl⟩ := Int.eq_ofNat_of_zero_le h0
  rw [show (4294967292 : Int) = ((4294967292 : Nat) : Int) from rfl, and_nat .u32 ws_u32 n _ (by simp [IntKind.bits]; omega) (by decide)]
  have s := land_split 2 n 4294967292
  rw [show 4294967292 % 2 ^ 2 = 0 by decide, show 4294967292 / 2 ^ 2 = 2 ^ 30 - 1 by decide, Nat.and_zero, Nat.and_two_pow_sub_one_eq_mod, Nat.add_zero] at s
  rw [s]
  have : n / 2 ^ 2 % 2 ^ 30 = n / 4 := by omega
  rw [this]
  unfold algn
  omega
theorem took_eq {c : Ch} {i l wd na nt : Int} (hw : wd = width c i) (ha : moved c.at_ (c.ctl / 128 % 4) wd = na) (ht : moved c.to_ (toHow c i) wd = nt) :
    took c i l = if 0 < c.left - 1 then ({ c with first := false, latch := l, at_ := na, to_ := nt, left := c.left - 1 }, false, false)
      else if c.ctl / 512 % 2 = 1 ∧ wh c ≠ 0 then (ldC (if how c = 3 then { c with first := false, latch := l, at_ := na, to_ := c.dst, left := c.left - 1, pend := false } else { c with first := false, latch := l, at_ := na, to_ := nt, left := c.left - 1, pend := false }) i, true, c.ctl / 16384 % 2 == 1)
      else ({ c with first := false, latch := l, at_ := na, to_ := nt, left := c.left - 1, pend := false, ctl := c.ctl % 32768 }, true, c.ctl / 16384 % 2 == 1) := by
  have e : (if sound c i = true then c.to_ else moved c.to_ (how c) (width c i)) = nt := by
    rw [← ht, ← hw]
    unfold toHow
    split
    · rfl
    · rfl
  subst ha
  rw [hw] at *
  unfold took
  simp only [e]
theorem andNot_top {a : Int} (h0 : 0 ≤ a) (h1 : a < 65536) : Go.bits .andNot .u16 a 32768 = a % 32768 := by
  obtain ⟨n, rfl⟩ := Int.eq_ofNat_of_zero_le h0
  rw [show (32768 : Int) = ((32768 : Nat) : Int) from rfl, andNot_nat .u16 ws_u16 n _ (by simp [IntKind.bits]; omega) (by decide)]
  have s := land_split 15 n 32768
  rw [show 32768 % 2 ^ 15 = 0 by decide, show 32768 / 2 ^ 15 = 2 ^ 1 - 1 by decide, Nat.and_zero, Nat.and_two_pow_sub_one_eq_mod, Nat.add_zero] at s
  have x := xor_split 15 n (n &&& 32768)
  rw [s] at x ⊢
  have e1 : 2 ^ 15 * (n / 2 ^ 15 % 2 ^ 1) % 2 ^ 15 = 0 := by omega
  have e2 : 2 ^ 15 * (n / 2 ^ 15 % 2 ^ 1) / 2 ^ 15 = n / 2 ^ 15 := by omega
  rw [e1, e2, Nat.xor_self, Nat.xor_zero] at x
  rw [x]
  omega
def aft : Nat → Code → Code
  | 0, c => c
  | n + 1, .seq _ y => aft n y
  | _ + 1, c => c
/-- Step behind the writing. -/
noncomputable def rest10 : Code := aft 10 (Try.f11.body.getD .skip)
set_option maxRecDepth 1000000 in
set_option maxHeartbeats 8000000 in
theorem step_second {w wc : World} {B ub tb i : Nat} {pv wv pv2 wv2 : Value} {u : Nat → Ch} {ps : List Pl} {ws : List Int} {c : Ch} {wd cls : Int} {u2 u3 u12 u13 u14 u15 u16 u17 u18 u19 u20 u21 u22 u23 u24 u25 u26 u27 u28 u29 u30 u31 u32 u33 u34 u35 u36 u37 u38 u39 u40 u41 u42 u43 u44 u45 u46 u47 u48 u49 u50 u51 u52 u53 u54 u55 u56 u57 u58 u59 u60 u61 u62 u63 u64 u65 u66 u67 u68 u69 u70 u71 u72 u73 u74 u75 u76 u77 u78 u79 u80 u81 u82 u83 u84 u85 u86 u87 u88 u89 u90 u91 u92 u93 u94 u95 u96 u97 u98 u99 u100 u101 u102 u103 u104 u105 u106 u107 u108 u109 u110 u111 u112 u113 u114 u115 u116 u117 u118 u119 u120 u121 u122 u123 u124 u125 u126 u127 u128 u129 u130 u131 u132 u133 u134 u135 u136 u137 u138 u139 u140 u141 u142 u143 u144 u145 u146 u147 u148 u149 u150 u151 u152 u153 u154 u155 u156 u157 u158 u159 u160 u161 u162 u163 u164 u165 u166 u167 u168 u169 u170 u171 u172 u173 u174 u175 u176 u177 u178 u179 u180 u181 u182 u183 u184 u185 u186 u187 u188 u189 u190 u191 u192 : Value} (FH : Hid (Wf c)) (hi : i < 4) (HW : Hid (wd = width c i)) (w2 : wd = 2 ∨ wd = 4)
    (E3 : Hid (SEnd w wc B ub tb pv wv pv2 wv2 (upd u i { c with first := false, latch := kept c wd }) (ps ++ [planOf c i wd cls]) (ws ++ [kept c wd]))) :
    Code.wp Try.prog rest10 (bodyPost Try.prog Try.f11 (fun e w' => e = .returned (.tuple #[.int .i64 i, .bool (took c i (kept c wd)).2.1, .bool ((took c i (kept c wd)).2.1 && (took c i (kept c wd)).2.2)]) ∧
      ∃ pv' wv', SEnd w w' B ub tb pv wv pv' wv' (upd u i (took c i (kept c wd)).1) (ps ++ [planOf c i wd cls]) (ws ++ [kept c wd]))) ⟨#[.pointer (some ⟨ub, 0, none⟩), .iface 25 (.pointer (some ⟨tb, 0, none⟩)), u2, u3, .int .i64 0, .bool false, .bool false, .int .i64 i, .pointer (some ⟨ub, i * 10, none⟩), .int .i64 wd, .int .i64 cls, .int .u32 (4294967296 - wd), u12, u13, u14, u15, u16, u17, u18, u19, u20, u21, u22, u23, u24, u25, u26, u27, u28, u29, u30, u31, u32, u33, u34, u35, u36, u37, u38, u39, u40, u41, u42, u43, u44, u45, u46, u47, u48, u49, u50, u51, u52, u53, u54, u55, u56, u57, u58, u59, u60, u61, u62, u63, u64, u65, u66, u67, u68, u69, u70, u71, u72, u73, u74, u75, u76, u77, u78, u79, u80, u81, u82, u83, u84, u85, u86, u87, u88, u89, u90, u91, u92, u93, u94, u95, u96, u97, u98, u99, u100, u101, u102, u103, u104, u105, u106, u107, u108, u109, u110, u111, u112, u113, u114, u115, u116, u117, u118, u119, u120, u121, u122, u123, u124, u125, u126, u127, u128, u129, u130, u131, u132, u133, u134, u135, u136, u137, u138, u139, u140, u141, u142, u143, u144, u145, u146, u147, u148, u149, u150, u151, u152, u153, u154, u155, u156, u157, u158, u159, u160, u161, u162, u163, u164, u165, u166, u167, u168, u169, u170, u171, u172, u173, u174, u175, u176, u177, u178, u179, u180, u181, u182, u183, u184, u185, u186, u187, u188, u189, u190, u191, u192], []⟩ wc := by
  have i0 : (0 : Int) ≤ (i : Int) := by omega
  have i4 : (i : Int) < 4 := by omega
  have wl : 2 ≤ wd := by omega
  have wd4 : wd ≤ 4 := by omega
  have hct0 := FH.out.c0
  have hct1 := FH.out.c1
  have a0 := FH.out.a0
  have a1 := FH.out.a1
  have t0 := FH.out.t0
  have t1 := FH.out.t1
  clear w2
  conv => arg 2; whnf
  have b3 := E3.out.b1
  have C3 : wc.cell? ⟨ub, i * 10 + 3, none⟩ = some (.int .u16 c.ctl) := b3.c3 hi
  have SN := Lib.hid (sound_any (w := wc) (b := ub) (o := i * 10) c i hct0 hct1 C3)
  have Fz := b3.free
  have g5 : Go.bits .and .u16 (c.ctl / 32) 3 = how c := and_16 (by omega) (by omega) 2 (by decide) 3 (by decide) 4 (by decide)
  have h0 : 0 ≤ how c := by unfold how; omega
  have h3 : how c < 4 := by unfold how; omega
  have hth := toHow_eq c i
  generalize hhw : how c = hw at *
  have HHW := Lib.hid hhw
  clear hhw
  go_upto_if 110 with (go_at_call 22; ((with_reducible refine SN.out.mono ?_); rintro e w' ⟨rfl, rfl⟩))
  go_cut [14] (fun s wx => s = .int .i64 (toHow c i) ∧ wc = wx)
  case first =>
    cases ts : sound c i
    · rw [ts] at hth
      clear ts
      go_wp2_with fail
      go_meet
      case rel => exact ⟨by rw [hth]; rfl, rfl⟩
    · rw [ts] at hth
      clear ts
      go_wp2_with fail
      go_meet
      case rel => exact ⟨by rw [hth]; rfl, rfl⟩
  case rest =>
  obtain ⟨rfl, rfl⟩ := hcut
  clear SN g5 C3 hth
  have C3 : wc.cell? ⟨ub, i * 10 + 3, none⟩ = some (.int .u16 c.ctl) := b3.c3 hi
  have C4 : wc.cell? ⟨ub, i * 10 + 4, none⟩ = some (.int .u32 c.at_) := b3.c4 hi
  have C5 : wc.cell? ⟨ub, i * 10 + 5, none⟩ = some (.int .u32 c.to_) := b3.c5 hi
  have lt3 := b3.lt
  have g7 : Go.bits .and .u16 (c.ctl / 128) 3 = c.ctl / 128 % 4 := and_16 (by omega) (by omega) 2 (by decide) 3 (by decide) 4 (by decide)
  have r70 : 0 ≤ c.ctl / 128 % 4 := by omega
  have r71 : c.ctl / 128 % 4 < 4 := by omega
  have rw7 : IntKind.i64.wrap (c.ctl / 128 % 4) = c.ctl / 128 % 4 := by rw [IntKind.wrap_i64]; omega
  have M1 := Lib.hid (moved_any c.at_ (c.ctl / 128 % 4) wd a0 a1 (by omega) (by omega))
  have M2 := Lib.hid (moved_any c.to_ (toHow c i) wd t0 t1 (by omega) (by omega))
  have S4 := Lib.hid ((E3.out.store (b3.s4 hi (moved c.at_ (c.ctl / 128 % 4) wd))))
  have S5 := Lib.hid ((S4.out.store (S4.out.b1.s5 hi (moved c.to_ (toHow c i) wd))).drew)
  clear b3 S4
  go_upto_region 21 with fail
  go_cut [] (fun wx => Hid (SEnd w wx B ub tb pv wv pv2 wv2 (upd u i { c with first := false, latch := kept c wd, at_ := moved c.at_ (c.ctl / 128 % 4) wd, to_ := moved c.to_ (toHow c i) wd }) (ps ++ [planOf c i wd cls]) (ws ++ [kept c wd])))
  case first =>
    generalize moved c.at_ (c.ctl / 128 % 4) wd = na at *
    generalize moved c.to_ (toHow c i) wd = nt at *
    generalize toHow c i = th at *
    refine region_free_tail (x := .tmp 8) 1 22 (by kernel_rfl) (by kernel_rfl) rfl rfl rfl (fun _ _ _ _ h => h) ?_
    simp only [skipped, List.take_succ_cons, List.take_zero, List.drop_succ_cons, List.drop_zero, Nat.reduceBEq, Nat.reduceAdd, Bool.false_eq_true, if_false, if_true, beq_self_eq_true]
    repeat still_step
    still_call (flip (M1.out _))
    repeat still_step
    still_call (flip (M2.out _))
    repeat still_step
    refine wpStill_nil ?_
    change wpList _ _ _ _ _ (World.drew _)
    go_wp2_with fail
    go_meet
    case rel => exact S5
  case rest =>
  have E4 := hcut
  clear M1 M2 S5 C4 C5 g7 rw7 r70 r71 E3 C3 Fz lt3
  have b4 := E4.out.b1
  have C6 : wc.cell? ⟨ub, i * 10 + 6, none⟩ = some (.int .i64 c.left) := b4.c6 hi
  have Fz := b4.free
  have lt4 := b4.lt
  have l0 := FH.out.l0
  have l1 := FH.out.l1
  have S6 := Lib.hid (E4.out.store (b4.s6 hi (c.left - 1)))
  clear b4
  generalize hna : moved c.at_ (c.ctl / 128 % 4) wd = na at *
  have HNA := Lib.hid hna
  clear hna
  generalize hnt : moved c.to_ (toHow c i) wd = nt at *
  have HNT := Lib.hid hnt
  clear hnt
  go_upto_region 22 with fail
  go_cut [] (fun wx => Hid (SEnd w wx B ub tb pv wv pv2 wv2 (upd u i { c with first := false, latch := kept c wd, at_ := na, to_ := nt, left := c.left - 1 }) (ps ++ [planOf c i wd cls]) (ws ++ [kept c wd])))
  case first =>
    go_wp2_with fail
    go_meet
    case rel => exact S6
  case rest =>
  have E5 := hcut
  clear S6 E4 C6 Fz lt4
  have b5 := E5.out.b1
  have C6 : wc.cell? ⟨ub, i * 10 + 6, none⟩ = some (.int .i64 (c.left - 1)) := b5.c6 hi
  have C3 : wc.cell? ⟨ub, i * 10 + 3, none⟩ = some (.int .u16 c.ctl) := b5.c3 hi
  have Fz := b5.free
  have lt5 := b5.lt
  have C7 : wc.cell? ⟨ub, i * 10 + 7, none⟩ = some (.bool c.pend) := b5.c7 hi
  have C1 : wc.cell? ⟨ub, i * 10 + 1, none⟩ = some (.int .u32 c.dst) := b5.c1 hi
  have C5 : wc.cell? ⟨ub, i * 10 + 5, none⟩ = some (.int .u32 nt) := b5.c5 hi
  have E6 := Lib.hid (E5.out.store (b5.s7 hi false))
  have TK := took_eq (l := kept c wd) HW.out HNA.out HNT.out
  clear b5
  by_cases hz : 0 < c.left - 1
  · have tz : decide (0 < c.left - 1) = true := decide_eq_true hz
    rw [if_pos hz] at TK
    have TH := Lib.hid TK
    clear TK E6 tz
    have hz : 1 < c.left := by omega
    go_wp2_with fail
    go_ret3
    rw [TH.out]
    exact ⟨rfl, _, _, E5.out⟩
  have tz : decide (0 < c.left - 1) = false := decide_eq_false hz
  rw [if_neg hz] at TK
  rw [HHW.out] at TK
  have TH := Lib.hid TK
  have hz : c.left ≤ 1 := by omega
  clear TK tz
  have b6 := E6.out.b1
  have S3 := Lib.hid (E6.out.store (b6.s3 hi (c.ctl % 32768)))
  have S5 := Lib.hid (E6.out.store (b6.s5 hi c.dst))
  have WN := Lib.hid (when_any (w := wc.setCell ⟨ub, i * 10 + 7, none⟩ (.bool false)) (b := ub) (o := i * 10) c hct0 hct1 (b6.c3 hi))
  have LD := Lib.hid (load_any b6 hi hct0 hct1)
  have LD5 := Lib.hid (load_any S5.out.b1 hi hct0 hct1)
  have g14 : Go.bits .and .u16 (c.ctl / 16384) 1 = c.ctl / 16384 % 2 := and_16 (by omega) (by omega) 1 (by decide) 1 (by decide) 2 (by decide)
  have g9 : Go.bits .and .u16 (c.ctl / 512) 1 = c.ctl / 512 % 2 := and_16 (by omega) (by omega) 1 (by decide) 1 (by decide) 2 (by decide)
  have gn : Go.bits .andNot .u16 c.ctl 32768 = c.ctl % 32768 := andNot_top hct0 hct1
  clear b6
  cases q9 : (c.ctl / 512 % 2 == 1)
  · have TG0 := TH.out
    rw [if_neg (fun h => by simp [h.1] at q9)] at TG0
    have TG := Lib.hid TG0
    clear TG0
    clear TH S5 WN LD LD5 C1 E6
    go_wp2_with fail
    go_ret3
    rw [TG.out]
    exact ⟨rfl, _, _, S3.out⟩
  cases qw : (wh c != 0)
  · have TG0 := TH.out
    rw [if_neg (fun h => by simp [h.2] at qw)] at TG0
    have TG := Lib.hid TG0
    clear TG0
    clear TH S5 LD LD5 E6
    generalize wh c = wk at *
    go_wp2_with (go_at_call 21; ((with_reducible refine WN.out.mono ?_); rintro e w' ⟨rfl, rfl⟩))
    go_ret3
    rw [TG.out]
    exact ⟨rfl, _, _, S3.out⟩
  cases q3 : (hw == 3)
  · have TG0 := TH.out
    rw [if_pos ⟨by simpa using q9, by simpa using qw⟩, if_neg (by simpa using q3)] at TG0
    have TG := Lib.hid TG0
    clear TG0
    clear TH S5 LD5 S3
    generalize wh c = wk at *
    go_wp2_with (first | (go_at_call 21; ((with_reducible refine WN.out.mono ?_); rintro e w' ⟨rfl, rfl⟩)) | (go_at_call 20; ((with_reducible refine LD.out.mono ?_); rintro e w3 ⟨rfl, hb⟩; have E7 := Lib.hid (E6.out.store hb); clear hb)))
    go_ret3
    rw [TG.out]
    exact ⟨rfl, _, _, E7.out⟩
  · have TG0 := TH.out
    rw [if_pos ⟨by simpa using q9, by simpa using qw⟩, if_pos (by simpa using q3)] at TG0
    have TG := Lib.hid TG0
    clear TG0
    clear TH LD S3
    generalize wh c = wk at *
    go_wp2_with (first | (go_at_call 21; ((with_reducible refine WN.out.mono ?_); rintro e w' ⟨rfl, rfl⟩)) | (go_at_call 20; ((with_reducible refine LD5.out.mono ?_); rintro e w3 ⟨rfl, hb⟩; have E7 := Lib.hid (S5.out.store hb); clear hb)))
    go_ret3
    rw [TG.out]
    exact ⟨rfl, _, _, E7.out⟩
end Go.Proofs.Ytbpeppmajmhmiaa.Dh
