/- The document's sprites, walked: number, place, colour. -/
import Derived.Test.YthbpcenobaloaaaNd
namespace Go.Proofs.Ythbpcenobaloaaa.Ne
set_option linter.unusedVariables false
set_option linter.unusedSimpArgs false
open Go.RowKit Go.Proofs.Ythbpcenobaloaaa.Bt Go.Proofs.Ythbpcenobaloaaa.Wk Go.Proofs.Ythbpcenobaloaaa.Sg Go.Proofs.Ythbpcenobaloaaa.Gp Go.Proofs.Ythbpcenobaloaaa.Gm Go.Proofs.Ythbpcenobaloaaa.Pp Go.Proofs.Ythbpcenobaloaaa.Pa Go.Proofs.Ythbpcenobaloaaa.Pb Go.Proofs.Ythbpcenobaloaaa.Pc Go.Proofs.Ythbpcenobaloaaa.Pg Go.Proofs.Ythbpcenobaloaaa.Ph Go.Proofs.Ythbpcenobaloaaa.Pi Go.Proofs.Ythbpcenobaloaaa.Ha Go.Proofs.Ythbpcenobaloaaa.Na Go.Proofs.Ythbpcenobaloaaa.Nb Go.Proofs.Ythbpcenobaloaaa.Nc Go.Proofs.Ythbpcenobaloaaa.Nd

/-- At cell o of block g lies the document's sprite r. -/
structure Rn (w : World) (g o : Nat) (r : R9) : Prop where
  at_ : ∀ j, j < 9 → w.cell? ⟨g, o + j, none⟩ = (cells9 r)[j]?
  lt : g < w.heap.size
section
variable {w : World} {g o : Nat} {r : R9}
theorem Rn.drewN (h : Rn w g o r) (n : Nat) : Rn (w.drewN n) g o r := ⟨fun j hj => h.at_ j hj, h.lt⟩
theorem Rn.later {w' : World} (h : Rn w g o r) (hb : Below w.heap.size w w') : Rn w' g o r := ⟨fun j hj => by rw [← h.at_ j hj]; exact hb.cell h.lt, Nat.lt_of_lt_of_le h.lt hb.size⟩
theorem Rn.c_a (h : Rn w g o r) : w.cell? ⟨g, o, none⟩ = some (.int .i64 r.a) := h.at_ 0 (by decide)
theorem Rn.c_b (h : Rn w g o r) : w.cell? ⟨g, o + 1, none⟩ = some (.int .i64 r.b) := h.at_ 1 (by decide)
theorem Rn.c_c (h : Rn w g o r) : w.cell? ⟨g, o + 2, none⟩ = some (.int .i64 r.c) := h.at_ 2 (by decide)
theorem Rn.c_x (h : Rn w g o r) : w.cell? ⟨g, o + 3, none⟩ = some (.int .i64 r.x) := h.at_ 3 (by decide)
theorem Rn.c_y (h : Rn w g o r) : w.cell? ⟨g, o + 4, none⟩ = some (.int .i64 r.y) := h.at_ 4 (by decide)
theorem Rn.c_wd (h : Rn w g o r) : w.cell? ⟨g, o + 5, none⟩ = some (.int .i64 r.wd) := h.at_ 5 (by decide)
theorem Rn.c_hg (h : Rn w g o r) : w.cell? ⟨g, o + 6, none⟩ = some (.int .i64 r.hg) := h.at_ 6 (by decide)
theorem Rn.c_bw (h : Rn w g o r) : w.cell? ⟨g, o + 7, none⟩ = some (.int .i64 r.bw) := h.at_ 7 (by decide)
theorem Rn.c_bh (h : Rn w g o r) : w.cell? ⟨g, o + 8, none⟩ = some (.int .i64 r.bh) := h.at_ 8 (by decide)
theorem rturn_any (h : Rn w g o r) (a0 : 0 ≤ r.a) (a1 : r.a < 65536) : Calls Try.prog 18 #[.pointer (some ⟨g, o, none⟩)] w fun e w' => e = .returned (.bool (r.a / 256 % 2 == 1)) ∧ w = w' := by
  have C0 := h.c_a
  have lt := h.lt
  clear h
  generalize r.a = a at *
  go_enter Try.func18, Try.ntmps18
  go_wp2_with fail
  go_ret
  exact ⟨rfl, rfl⟩
end
theorem number_any {w : World} {sb : Nat} {T : TypeId} {s : Sc} (h : Sn w sb T s) (k : Sok s) {a : Int} (a0 : 0 ≤ a) (a1 : a < 100000) :
    Calls Try.prog 28 #[.pointer (some ⟨sb, 0, none⟩), .int .i64 a] w fun e w' => e = .returned (.int .i64 (sext (halfV s.oa a))) ∧ ∃ q, w' = w.drewN q := by
  have CO := h.oam
  have HH := Lib.hid (rhalf_any h.oa k.oa a (by omega) (by omega))
  unfold Mem.v at CO HH
  have lt := h.lt
  have hb := halfV_bd k.oa a
  unfold sext
  clear h k
  generalize halfV s.oa a = x at *
  obtain ⟨x0, x1⟩ := hb
  by_cases g : 32768 ≤ x
  · rw [if_pos g]
    go_enter Try.func28, Try.ntmps28
    go_wp2_with (go_at_call 26; ((with_reducible refine HH.out.mono ?_); rintro e w' ⟨rfl, q, rfl⟩))
    go_ret
    exact ⟨rfl, _, rfl⟩
  · rw [if_neg g]
    have g' : x < 32768 := by omega
    clear g
    go_enter Try.func28, Try.ntmps28
    go_wp2_with (go_at_call 26; ((with_reducible refine HH.out.mono ?_); rintro e w' ⟨rfl, q, rfl⟩))
    go_ret
    exact ⟨rfl, _, rfl⟩
section
variable {w : World} {g o sb : Nat} {T : TypeId} {s : Sc} {i : Nat}
set_option maxRecDepth 100000 in
set_option maxHeartbeats 8000000 in
theorem place_any (h : Rn w g o (full9 s i)) (hs : Sn w sb T s) (k : Sok s) {x y : Int} (x0 : 0 ≤ x) (x1 : x < 128) (y0 : 0 ≤ y) (y1 : y < 128) :
    Calls Try.prog 19 #[.pointer (some ⟨g, o, none⟩), .pointer (some ⟨sb, 0, none⟩), .int .i64 x, .int .i64 y] w fun e w' => e = .returned (.tuple #[.int .i64 (spotX (spV s i) x y), .int .i64 (spotY (spV s i) x y)]) ∧ ∃ q, w' = w.drewN q := by
  have TU := Lib.hid (rturn_any h (wA_bd k i).1 (wA_bd k i).2)
  change Hid (Calls Try.prog 18 _ _ fun e w' => e = .returned (.bool (isTurned s i)) ∧ _) at TU
  have CB := h.c_b
  have CW := h.c_wd
  have CH := h.c_hg
  have CBW := h.c_bw
  have CBH := h.c_bh
  have lt := h.lt
  have lts := hs.lt
  change w.cell? _ = some (.int .i64 (wB s i)) at CB
  change w.cell? _ = some (.int .i64 (spV s i).wide) at CW
  change w.cell? _ = some (.int .i64 (spV s i).high) at CH
  change w.cell? _ = some (.int .i64 (spV s i).boxW) at CBW
  change w.cell? _ = some (.int .i64 (spV s i).boxH) at CBH
  have BB := wB_bd k i
  have PO := sp_ok k i
  have bw := PO.bw
  have pw := PO.w
  have bh := PO.bh
  have ph := PO.h
  have w0 : 0 ≤ (spV s i).wide := by omega
  have w1 : (spV s i).wide ≤ 64 := by omega
  have h0 : 0 ≤ (spV s i).high := by omega
  have h1 : (spV s i).high ≤ 64 := by omega
  have v0 : 0 ≤ (spV s i).boxW := by omega
  have v1 : (spV s i).boxW ≤ 128 := by omega
  have u0 : 0 ≤ (spV s i).boxH := by omega
  have u1 : (spV s i).boxH ≤ 128 := by omega
  have SX : Hid (spotX (spV s i) x y = if isTurned s i then (spV s i).wide / 2 + ((if isTurned s i then parV s i 0 else 256) * (x - (spV s i).boxW / 2) + (if isTurned s i then parV s i 1 else 0) * (y - (spV s i).boxH / 2)) / 256 else if (if isTurned s i then false else wB s i / 4096 % 2 == 1) then (spV s i).wide - 1 - x else x) := Lib.hid rfl
  have SY : Hid (spotY (spV s i) x y = if isTurned s i then (spV s i).high / 2 + ((if isTurned s i then parV s i 2 else 0) * (x - (spV s i).boxW / 2) + (if isTurned s i then parV s i 3 else 256) * (y - (spV s i).boxH / 2)) / 256 else if (if isTurned s i then false else wB s i / 8192 % 2 == 1) then (spV s i).high - 1 - y else y) := Lib.hid rfl
  have PV : Hid (∀ n : Int, parV s i n = sext (halfV s.oa (wB s i / 512 % 32 * 32 + 8 * n + 6))) := Lib.hid fun _ => rfl
  have PB := Lib.hid (fun n => par_bd k i n)
  clear PO bw pw bh ph h
  obtain ⟨X, hX⟩ : ∃ X, spotX (spV s i) x y = X := ⟨_, rfl⟩
  obtain ⟨Y, hY⟩ : ∃ Y, spotY (spV s i) x y = Y := ⟨_, rfl⟩
  rw [hX] at SX ⊢
  rw [hY] at SY ⊢
  clear hX hY
  generalize (spV s i).wide = wd at *
  generalize (spV s i).high = hg at *
  generalize (spV s i).boxW = bw at *
  generalize (spV s i).boxH = bh at *
  cases ht : isTurned s i
  · rw [ht] at TU SX SY
    clear PV PB CBW CBH hs k lts v0 v1 u0 u1 ht
    generalize wB s i = B at *
    obtain ⟨b0, b1⟩ := BB
    have SX2 : Hid (X = if (B / 4096 % 2 == 1) = true then wd - 1 - x else x) := Lib.hid SX.out
    have SY2 : Hid (Y = if (B / 8192 % 2 == 1) = true then hg - 1 - y else y) := Lib.hid SY.out
    clear SX SY
    cases gx : (B / 4096 % 2 == 1) <;> cases gy : (B / 8192 % 2 == 1)
    all_goals
      rw [gx] at SX2
      rw [gy] at SY2
      go_enter Try.func19, Try.ntmps19
      go_wp2_with (go_at_call 18; ((with_reducible refine TU.out.mono ?_); rintro e w' ⟨rfl, rfl⟩))
      go_ret2
      exact ⟨by rw [SX2.out, SY2.out]; rfl, 0, rfl⟩
  · rw [ht] at TU SX SY
    obtain ⟨b0, b1⟩ := BB
    obtain ⟨t, hT⟩ : ∃ t, wB s i / 512 % 32 = t := ⟨_, rfl⟩
    have t0 : 0 ≤ t := by omega
    have t1 : t < 32 := by omega
    rw [hT] at PV
    have N1 := Lib.hid (fun q => number_any (hs.drewN q) k (a := 32 * t + 14) (by omega) (by omega))
    have N2 := Lib.hid (fun q => number_any (hs.drewN q) k (a := 32 * t + 22) (by omega) (by omega))
    have N3 := Lib.hid (fun q => number_any (hs.drewN q) k (a := 32 * t + 30) (by omega) (by omega))
    have N00 := Lib.hid (number_any hs k (a := 32 * t + 6) (by omega) (by omega))
    rw [show (32 * t + 6 : Int) = t * 32 + 8 * 0 + 6 by omega, ← PV.out] at N00
    rw [show (t * 32 + 8 * 0 + 6 : Int) = 32 * t + 6 by omega] at N00
    rw [show (32 * t + 14 : Int) = t * 32 + 8 * 1 + 6 by omega, ← PV.out] at N1
    rw [show (32 * t + 22 : Int) = t * 32 + 8 * 2 + 6 by omega, ← PV.out] at N2
    rw [show (32 * t + 30 : Int) = t * 32 + 8 * 3 + 6 by omega, ← PV.out] at N3
    rw [show (t * 32 + 8 * 1 + 6 : Int) = 32 * t + 14 by omega] at N1
    rw [show (t * 32 + 8 * 2 + 6 : Int) = 32 * t + 22 by omega] at N2
    rw [show (t * 32 + 8 * 3 + 6 : Int) = 32 * t + 30 by omega] at N3
    obtain ⟨a0, a0'⟩ := PB.out 0
    obtain ⟨a1, a1'⟩ := PB.out 1
    obtain ⟨a2, a2'⟩ := PB.out 2
    obtain ⟨a3, a3'⟩ := PB.out 3
    have SX2 : Hid (X = wd / 2 + (parV s i 0 * (x - bw / 2) + parV s i 1 * (y - bh / 2)) / 256) := Lib.hid SX.out
    have SY2 : Hid (Y = hg / 2 + (parV s i 2 * (x - bw / 2) + parV s i 3 * (y - bh / 2)) / 256) := Lib.hid SY.out
    have HT := Lib.hid hT
    clear SX SY hs k lts PV PB ht hT
    generalize wB s i = B at *
    generalize parV s i 0 = p0 at *
    generalize parV s i 1 = p1 at *
    generalize parV s i 2 = p2 at *
    generalize parV s i 3 = p3 at *
    have eT : B / 512 % 32 = t := HT.out
    obtain ⟨dx, hdx⟩ : ∃ d, x - bw / 2 = d := ⟨_, rfl⟩
    obtain ⟨dy, hdy⟩ : ∃ d, y - bh / 2 = d := ⟨_, rfl⟩
    rw [hdx, hdy] at SX2 SY2
    have m0 := mul_bd (a := p0) (d := dx) (by omega) (by omega) (by omega) (by omega)
    have m1 := mul_bd (a := p1) (d := dy) (by omega) (by omega) (by omega) (by omega)
    have m2 := mul_bd (a := p2) (d := dx) (by omega) (by omega) (by omega) (by omega)
    have m3 := mul_bd (a := p3) (d := dy) (by omega) (by omega) (by omega) (by omega)
    have e1 : IntKind.i64.wrap (x - bw / 2) = dx := by rw [hdx]; exact i64_in (by omega) (by omega)
    have e2 : IntKind.i64.wrap (y - bh / 2) = dy := by rw [hdy]; exact i64_in (by omega) (by omega)
    have q0 : IntKind.i64.wrap (wd / 2 + (p0 * dx + p1 * dy) / 256) = wd / 2 + (p0 * dx + p1 * dy) / 256 := i64_in (by omega) (by omega)
    have q1 : IntKind.i64.wrap (hg / 2 + (p2 * dx + p3 * dy) / 256) = hg / 2 + (p2 * dx + p3 * dy) / 256 := i64_in (by omega) (by omega)
    have tw : Int.tdiv wd 2 = wd / 2 := Int.tdiv_eq_ediv_of_nonneg w0
    have tg : Int.tdiv hg 2 = hg / 2 := Int.tdiv_eq_ediv_of_nonneg h0
    have HX := Lib.hid hdx
    have HY := Lib.hid hdy
    go_enter Try.func19, Try.ntmps19
    go_upto_region 10 with (go_at_call 18; ((with_reducible refine TU.out.mono ?_); rintro e w' ⟨rfl, rfl⟩))
    have f0 : IntKind.i64.wrap (p0 * dx) = p0 * dx := i64_in (by omega) (by omega)
    have f1 : IntKind.i64.wrap (p1 * dy) = p1 * dy := i64_in (by omega) (by omega)
    have f2 : IntKind.i64.wrap (p2 * dx) = p2 * dx := i64_in (by omega) (by omega)
    have f3 : IntKind.i64.wrap (p3 * dy) = p3 * dy := i64_in (by omega) (by omega)
    have g0 : IntKind.i64.wrap (p0 * dx + p1 * dy) = p0 * dx + p1 * dy := i64_in (by omega) (by omega)
    have g1 : IntKind.i64.wrap (p2 * dx + p3 * dy) = p2 * dx + p3 * dy := i64_in (by omega) (by omega)
    clear hdx hdy e1 e2 m0 m1 m2 m3 eT
    go_upto_region 12 with (first | (go_at_call 28; ((with_reducible refine N00.out.mono ?_); rintro e w' ⟨rfl, q, rfl⟩)) | (go_at_call 28; ((with_reducible refine (N1.out _).mono ?_); rintro e w' ⟨rfl, q, rfl⟩)) | (go_at_call 28; ((with_reducible refine (N2.out _).mono ?_); rintro e w' ⟨rfl, q, rfl⟩)) | (go_at_call 28; ((with_reducible refine (N3.out _).mono ?_); rintro e w' ⟨rfl, q, rfl⟩)))
    go_quiet (fail)
    go_wp2_with fail
    go_ret2
    exact ⟨by rw [SX2.out, SY2.out]; rfl, _, World.drewN_drewN _ _ _⟩
end
end Go.Proofs.Ythbpcenobaloaaa.Ne
