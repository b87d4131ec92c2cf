/- The document's fields that mean the same everywhere, walked. -/
import Derived.Test.YtlpjadpjjcpfgaaRy
import Derived.Test.YtlpjadpjjcpfgaaRb
import Derived.Deep.DeepCutAuto
namespace Go.Proofs.Ytlpjadpjjcpfgaa.Rz
set_option linter.unusedVariables false
set_option linter.unusedSimpArgs false
open Go.RowKit Go.Proofs.Ytlpjadpjjcpfgaa.Bt Go.Proofs.Ytlpjadpjjcpfgaa.Wk Go.Proofs.Ytlpjadpjjcpfgaa.Ra Go.Proofs.Ytlpjadpjjcpfgaa.Rp Go.Proofs.Ytlpjadpjjcpfgaa.Rb Go.Proofs.Ytlpjadpjjcpfgaa.Rx Go.Proofs.Ytlpjadpjjcpfgaa.Ry

theorem fieldL_bd (x : Int) (c : UInt8) : ∀ (p : List UInt8) (a : Int) (k : Nat), 0 ≤ a → a < 2 ^ k → 0 ≤ fieldL x c p a ∧ fieldL x c p a < 2 ^ (k + p.length)
  | [], a, k, h0, h1 => ⟨h0, h1⟩
  | d :: r, a, k, h0, h1 => by
    unfold fieldL
    have b := bt01 x r.length
    have e : (2 : Int) ^ (k + 1) = 2 * 2 ^ k := by rw [Int.pow_succ, Int.mul_comm]
    have := fieldL_bd x c r (if d = c then 2 * a + bt x r.length else a) (k + 1) (by split <;> omega) (by split <;> omega)
    rw [show k + (d :: r).length = k + 1 + r.length by simp; omega]
    exact this
theorem F_bd (p : List UInt8) (x : Int) (c : UInt8) (h : p.length ≤ 32) : 0 ≤ F p x c ∧ F p x c < 4294967296 := by
  obtain ⟨a, b⟩ := fieldL_bd x c p 0 0 (by decide) (by decide)
  have := pow_le p.length h
  rw [Nat.zero_add] at b
  exact ⟨a, by unfold F; omega⟩
set_option maxRecDepth 100000 in
set_option maxHeartbeats 40000000 in
theorem common_any (k : Int) (s : ByteArray) (hs : s.size ≤ 32) (x : Int) (h0 : 0 ≤ x) (h1 : x < 4294967296) (w : World) :
    Calls Try.prog 18 #[.int .i64 k, .string s, .int .u32 x] w fun e w' => e = .returned (.agg #[.int .i64 (commonP k s.data.toList x).kd, .int .i64 (commonP k s.data.toList x).cond, .int .i64 (commonP k s.data.toList x).code, .bool (commonP k s.data.toList x).flags, .int .i64 (commonP k s.data.toList x).rd, .int .i64 (commonP k s.data.toList x).rn, .int .i64 (commonP k s.data.toList x).rs, .int .i64 (commonP k s.data.toList x).rm, .int .u32 (commonP k s.data.toList x).imm, .bool (commonP k s.data.toList x).hasImm, .int .i64 (commonP k s.data.toList x).shift, .int .i64 (commonP k s.data.toList x).amount, .bool (commonP k s.data.toList x).byReg, .bool (commonP k s.data.toList x).load, .bool (commonP k s.data.toList x).byte, .bool (commonP k s.data.toList x).signed, .bool (commonP k s.data.toList x).pre, .bool (commonP k s.data.toList x).up, .bool (commonP k s.data.toList x).back, .bool (commonP k s.data.toList x).user, .int .i64 (commonP k s.data.toList x).list, .bool (commonP k s.data.toList x).link, .bool (commonP k s.data.toList x).long, .bool (commonP k s.data.toList x).align]) ∧ Below w.heap.size w w' := by
  have H99 : Hid (∀ w, Calls Try.prog 19 #[.string s, .int .u32 x, .int .u8 99] w fun e w' => e = .returned (.int .i64 (F s.data.toList x 99)) ∧ w = w') := Lib.hid fun w => field_ref s 99 hs x h0 h1 w
  have H100 : Hid (∀ w, Calls Try.prog 19 #[.string s, .int .u32 x, .int .u8 100] w fun e w' => e = .returned (.int .i64 (F s.data.toList x 100)) ∧ w = w') := Lib.hid fun w => field_ref s 100 hs x h0 h1 w
  have H110 : Hid (∀ w, Calls Try.prog 19 #[.string s, .int .u32 x, .int .u8 110] w fun e w' => e = .returned (.int .i64 (F s.data.toList x 110)) ∧ w = w') := Lib.hid fun w => field_ref s 110 hs x h0 h1 w
  have H115 : Hid (∀ w, Calls Try.prog 19 #[.string s, .int .u32 x, .int .u8 115] w fun e w' => e = .returned (.int .i64 (F s.data.toList x 115)) ∧ w = w') := Lib.hid fun w => field_ref s 115 hs x h0 h1 w
  have H109 : Hid (∀ w, Calls Try.prog 19 #[.string s, .int .u32 x, .int .u8 109] w fun e w' => e = .returned (.int .i64 (F s.data.toList x 109)) ∧ w = w') := Lib.hid fun w => field_ref s 109 hs x h0 h1 w
  have H116 : Hid (∀ w, Calls Try.prog 19 #[.string s, .int .u32 x, .int .u8 116] w fun e w' => e = .returned (.int .i64 (F s.data.toList x 116)) ∧ w = w') := Lib.hid fun w => field_ref s 116 hs x h0 h1 w
  have H97 : Hid (∀ w, Calls Try.prog 19 #[.string s, .int .u32 x, .int .u8 97] w fun e w' => e = .returned (.int .i64 (F s.data.toList x 97)) ∧ w = w') := Lib.hid fun w => field_ref s 97 hs x h0 h1 w
  have H108 : Hid (∀ w, Calls Try.prog 19 #[.string s, .int .u32 x, .int .u8 108] w fun e w' => e = .returned (.int .i64 (F s.data.toList x 108)) ∧ w = w') := Lib.hid fun w => field_ref s 108 hs x h0 h1 w
  have H73 : Hid (∀ w, Calls Try.prog 19 #[.string s, .int .u32 x, .int .u8 73] w fun e w' => e = .returned (.int .i64 (F s.data.toList x 73)) ∧ w = w') := Lib.hid fun w => field_ref s 73 hs x h0 h1 w
  have H80 : Hid (∀ w, Calls Try.prog 20 #[.string s, .int .u32 x, .int .u8 80] w fun e w' => e = .returned (.bool (Rx.flag s.data.toList x 80)) ∧ w = w') := Lib.hid fun w => flag_ref s 80 hs x h0 h1 w
  have H85 : Hid (∀ w, Calls Try.prog 20 #[.string s, .int .u32 x, .int .u8 85] w fun e w' => e = .returned (.bool (Rx.flag s.data.toList x 85)) ∧ w = w') := Lib.hid fun w => flag_ref s 85 hs x h0 h1 w
  have H66 : Hid (∀ w, Calls Try.prog 20 #[.string s, .int .u32 x, .int .u8 66] w fun e w' => e = .returned (.bool (Rx.flag s.data.toList x 66)) ∧ w = w') := Lib.hid fun w => flag_ref s 66 hs x h0 h1 w
  have H76 : Hid (∀ w, Calls Try.prog 20 #[.string s, .int .u32 x, .int .u8 76] w fun e w' => e = .returned (.bool (Rx.flag s.data.toList x 76)) ∧ w = w') := Lib.hid fun w => flag_ref s 76 hs x h0 h1 w
  have H70 : Hid (∀ w, Calls Try.prog 20 #[.string s, .int .u32 x, .int .u8 70] w fun e w' => e = .returned (.bool (Rx.flag s.data.toList x 70)) ∧ w = w') := Lib.hid fun w => flag_ref s 70 hs x h0 h1 w
  have H65 : Hid (∀ w, Calls Try.prog 20 #[.string s, .int .u32 x, .int .u8 65] w fun e w' => e = .returned (.bool (Rx.flag s.data.toList x 65)) ∧ w = w') := Lib.hid fun w => flag_ref s 65 hs x h0 h1 w
  have H83 : Hid (∀ w, Calls Try.prog 20 #[.string s, .int .u32 x, .int .u8 83] w fun e w' => e = .returned (.bool (Rx.flag s.data.toList x 83)) ∧ w = w') := Lib.hid fun w => flag_ref s 83 hs x h0 h1 w
  have H81 : Hid (∀ w, Calls Try.prog 20 #[.string s, .int .u32 x, .int .u8 81] w fun e w' => e = .returned (.bool (Rx.flag s.data.toList x 81)) ∧ w = w') := Lib.hid fun w => flag_ref s 81 hs x h0 h1 w
  have H75 : Hid (∀ w, Calls Try.prog 20 #[.string s, .int .u32 x, .int .u8 75] w fun e w' => e = .returned (.bool (Rx.flag s.data.toList x 75)) ∧ w = w') := Lib.hid fun w => flag_ref s 75 hs x h0 h1 w
  obtain ⟨i0, i1⟩ := F_bd s.data.toList x 73 (by simpa using hs)
  unfold commonP
  dsimp only
  generalize F s.data.toList x 99 = a99 at *
  generalize F s.data.toList x 100 = a100 at *
  generalize F s.data.toList x 110 = a110 at *
  generalize F s.data.toList x 115 = a115 at *
  generalize F s.data.toList x 109 = a109 at *
  generalize F s.data.toList x 116 = a116 at *
  generalize F s.data.toList x 97 = a97 at *
  generalize F s.data.toList x 108 = a108 at *
  generalize F s.data.toList x 73 = a73 at *
  generalize Rx.flag s.data.toList x 80 = b80 at *
  generalize Rx.flag s.data.toList x 85 = b85 at *
  generalize Rx.flag s.data.toList x 66 = b66 at *
  generalize Rx.flag s.data.toList x 76 = b76 at *
  generalize Rx.flag s.data.toList x 70 = b70 at *
  generalize Rx.flag s.data.toList x 65 = b65 at *
  generalize Rx.flag s.data.toList x 83 = b83 at *
  generalize Rx.flag s.data.toList x 81 = b81 at *
  generalize Rx.flag s.data.toList x 75 = b75 at *
  go_enter Try.func18, Try.ntmps18
  go_upto_region 1 with fail
  have A1 := alloc_new w (.cells #[.int .i64 0, .int .i64 0, .int .i64 0, .bool false, .int .i64 0, .int .i64 0, .int .i64 0, .int .i64 0, .int .u32 0, .bool false, .int .i64 0, .int .i64 0, .bool false, .bool false, .bool false, .bool false, .bool false, .bool false, .bool false, .bool false, .int .i64 0, .bool false, .bool false, .bool false] 25)
  have hB : Below w.heap.size w (w.alloc (.cells #[.int .i64 0, .int .i64 0, .int .i64 0, .bool false, .int .i64 0, .int .i64 0, .int .i64 0, .int .i64 0, .int .u32 0, .bool false, .int .i64 0, .int .i64 0, .bool false, .bool false, .bool false, .bool false, .bool false, .bool false, .bool false, .bool false, .int .i64 0, .bool false, .bool false, .bool false] 25)) := (Below.refl _ _).alloc (Nat.le_refl _) _
  have hz : (w.alloc (.cells #[.int .i64 0, .int .i64 0, .int .i64 0, .bool false, .int .i64 0, .int .i64 0, .int .i64 0, .int .i64 0, .int .u32 0, .bool false, .int .i64 0, .int .i64 0, .bool false, .bool false, .bool false, .bool false, .bool false, .bool false, .bool false, .bool false, .int .i64 0, .bool false, .bool false, .bool false] 25)).heap.size = w.heap.size + 1 := by simp
  generalize w.alloc (.cells #[.int .i64 0, .int .i64 0, .int .i64 0, .bool false, .int .i64 0, .int .i64 0, .int .i64 0, .int .i64 0, .int .u32 0, .bool false, .int .i64 0, .int .i64 0, .bool false, .bool false, .bool false, .bool false, .bool false, .bool false, .bool false, .bool false, .int .i64 0, .bool false, .bool false, .bool false] 25) = W0 at *
  have A1H0 := Lib.hid A1
  have hBH0 := Lib.hid hB
  have HBB := Lib.hid hz
  clear A1 hB hz
  go_upto_region 2 with (refine wpList_store_row rfl 25 (.tmp 7) (.tmp 9) rfl W0.heap.size _ rfl rfl 25 _ (alloc_new _ _) info25 rfl (by simp [Value.oneCell']) ?_; rw [Rg.alloc_setRow])
  have A1 : (W0.alloc (.cells #[.int .i64 k, .int .i64 0, .int .i64 0, .bool false, .int .i64 0, .int .i64 0, .int .i64 0, .int .i64 0, .int .u32 0, .bool false, .int .i64 0, .int .i64 0, .bool false, .bool false, .bool false, .bool false, .bool false, .bool false, .bool false, .bool false, .int .i64 0, .bool false, .bool false, .bool false] 25)).heap[w.heap.size]? = some (.cells #[.int .i64 0, .int .i64 0, .int .i64 0, .bool false, .int .i64 0, .int .i64 0, .int .i64 0, .int .i64 0, .int .u32 0, .bool false, .int .i64 0, .int .i64 0, .bool false, .bool false, .bool false, .bool false, .bool false, .bool false, .bool false, .bool false, .int .i64 0, .bool false, .bool false, .bool false] 25) := alloc_old _ A1H0.out
  have A2 : (W0.alloc (.cells #[.int .i64 k, .int .i64 0, .int .i64 0, .bool false, .int .i64 0, .int .i64 0, .int .i64 0, .int .i64 0, .int .u32 0, .bool false, .int .i64 0, .int .i64 0, .bool false, .bool false, .bool false, .bool false, .bool false, .bool false, .bool false, .bool false, .int .i64 0, .bool false, .bool false, .bool false] 25)).heap[W0.heap.size]? = some (.cells #[.int .i64 k, .int .i64 0, .int .i64 0, .bool false, .int .i64 0, .int .i64 0, .int .i64 0, .int .i64 0, .int .u32 0, .bool false, .int .i64 0, .int .i64 0, .bool false, .bool false, .bool false, .bool false, .bool false, .bool false, .bool false, .bool false, .int .i64 0, .bool false, .bool false, .bool false] 25) := alloc_new _ _
  have hB : Below w.heap.size w (W0.alloc (.cells #[.int .i64 k, .int .i64 0, .int .i64 0, .bool false, .int .i64 0, .int .i64 0, .int .i64 0, .int .i64 0, .int .u32 0, .bool false, .int .i64 0, .int .i64 0, .bool false, .bool false, .bool false, .bool false, .bool false, .bool false, .bool false, .bool false, .int .i64 0, .bool false, .bool false, .bool false] 25)) := hBH0.out.alloc hBH0.out.size _
  generalize (W0.alloc (.cells #[.int .i64 k, .int .i64 0, .int .i64 0, .bool false, .int .i64 0, .int .i64 0, .int .i64 0, .int .i64 0, .int .u32 0, .bool false, .int .i64 0, .int .i64 0, .bool false, .bool false, .bool false, .bool false, .bool false, .bool false, .bool false, .bool false, .int .i64 0, .bool false, .bool false, .bool false] 25)) = W at *
  have A1H := Lib.hid A1
  have A2H := Lib.hid A2
  have hBH := Lib.hid hB
  have sz := sizeAt A2
  clear A1 A2 hB A1H0 hBH0
  generalize W0.heap.size = b at *
  have C : W.cell? ⟨b, 1, none⟩ = some (.int .i64 0) := cellsAt A2H.out 1
  have Fz := freeAt A2H.out
  go_wp2_with fail
  refine (H99.out _).mono ?_
  rintro e w' ⟨rfl, rfl⟩
  go_wp2_with fail
  have A1H1 := Lib.hid (set_ne (b := w.heap.size) (c := b) (j := 1) (.int .i64 a99) (by have := HBB.out; omega) A1H.out)
  have A2H1 : Hid ((W.setCell ⟨b, 1, none⟩ (.int .i64 a99)).heap[b]? = some (.cells #[.int .i64 k, .int .i64 a99, .int .i64 0, .bool false, .int .i64 0, .int .i64 0, .int .i64 0, .int .i64 0, .int .u32 0, .bool false, .int .i64 0, .int .i64 0, .bool false, .bool false, .bool false, .bool false, .bool false, .bool false, .bool false, .bool false, .int .i64 0, .bool false, .bool false, .bool false] 25)) := Lib.hid (set_at (j := 1) (.int .i64 a99) A2H.out)
  have hBH1 := Lib.hid (hBH.out.setCell (p := ⟨b, 1, none⟩) (by have := HBB.out; simp; omega) (.int .i64 a99))
  clear A1H A2H hBH C Fz
  have sz1 : b < (W.setCell ⟨b, 1, none⟩ (.int .i64 a99)).heap.size := sizeAt A2H1.out
  generalize W.setCell ⟨b, 1, none⟩ (.int .i64 a99) = W1 at *
  have C : W1.cell? ⟨b, 4, none⟩ = some (.int .i64 0) := cellsAt A2H1.out 4
  have Fz := freeAt A2H1.out
  refine (H100.out _).mono ?_
  rintro e w' ⟨rfl, rfl⟩
  go_wp2_with fail
  have A1H2 := Lib.hid (set_ne (b := w.heap.size) (c := b) (j := 4) (.int .i64 a100) (by have := HBB.out; omega) A1H1.out)
  have A2H2 : Hid ((W1.setCell ⟨b, 4, none⟩ (.int .i64 a100)).heap[b]? = some (.cells #[.int .i64 k, .int .i64 a99, .int .i64 0, .bool false, .int .i64 a100, .int .i64 0, .int .i64 0, .int .i64 0, .int .u32 0, .bool false, .int .i64 0, .int .i64 0, .bool false, .bool false, .bool false, .bool false, .bool false, .bool false, .bool false, .bool false, .int .i64 0, .bool false, .bool false, .bool false] 25)) := Lib.hid (set_at (j := 4) (.int .i64 a100) A2H1.out)
  have hBH2 := Lib.hid (hBH1.out.setCell (p := ⟨b, 4, none⟩) (by have := HBB.out; simp; omega) (.int .i64 a100))
  clear A1H1 A2H1 hBH1 C Fz
  have sz2 : b < (W1.setCell ⟨b, 4, none⟩ (.int .i64 a100)).heap.size := sizeAt A2H2.out
  generalize W1.setCell ⟨b, 4, none⟩ (.int .i64 a100) = W2 at *
  have C : W2.cell? ⟨b, 5, none⟩ = some (.int .i64 0) := cellsAt A2H2.out 5
  have Fz := freeAt A2H2.out
  refine (H110.out _).mono ?_
  rintro e w' ⟨rfl, rfl⟩
  go_wp2_with fail
  have A1H3 := Lib.hid (set_ne (b := w.heap.size) (c := b) (j := 5) (.int .i64 a110) (by have := HBB.out; omega) A1H2.out)
  have A2H3 : Hid ((W2.setCell ⟨b, 5, none⟩ (.int .i64 a110)).heap[b]? = some (.cells #[.int .i64 k, .int .i64 a99, .int .i64 0, .bool false, .int .i64 a100, .int .i64 a110, .int .i64 0, .int .i64 0, .int .u32 0, .bool false, .int .i64 0, .int .i64 0, .bool false, .bool false, .bool false, .bool false, .bool false, .bool false, .bool false, .bool false, .int .i64 0, .bool false, .bool false, .bool false] 25)) := Lib.hid (set_at (j := 5) (.int .i64 a110) A2H2.out)
  have hBH3 := Lib.hid (hBH2.out.setCell (p := ⟨b, 5, none⟩) (by have := HBB.out; simp; omega) (.int .i64 a110))
  clear A1H2 A2H2 hBH2 C Fz
  have sz3 : b < (W2.setCell ⟨b, 5, none⟩ (.int .i64 a110)).heap.size := sizeAt A2H3.out
  generalize W2.setCell ⟨b, 5, none⟩ (.int .i64 a110) = W3 at *
  have C : W3.cell? ⟨b, 6, none⟩ = some (.int .i64 0) := cellsAt A2H3.out 6
  have Fz := freeAt A2H3.out
  refine (H115.out _).mono ?_
  rintro e w' ⟨rfl, rfl⟩
  go_wp2_with fail
  have A1H4 := Lib.hid (set_ne (b := w.heap.size) (c := b) (j := 6) (.int .i64 a115) (by have := HBB.out; omega) A1H3.out)
  have A2H4 : Hid ((W3.setCell ⟨b, 6, none⟩ (.int .i64 a115)).heap[b]? = some (.cells #[.int .i64 k, .int .i64 a99, .int .i64 0, .bool false, .int .i64 a100, .int .i64 a110, .int .i64 a115, .int .i64 0, .int .u32 0, .bool false, .int .i64 0, .int .i64 0, .bool false, .bool false, .bool false, .bool false, .bool false, .bool false, .bool false, .bool false, .int .i64 0, .bool false, .bool false, .bool false] 25)) := Lib.hid (set_at (j := 6) (.int .i64 a115) A2H3.out)
  have hBH4 := Lib.hid (hBH3.out.setCell (p := ⟨b, 6, none⟩) (by have := HBB.out; simp; omega) (.int .i64 a115))
  clear A1H3 A2H3 hBH3 C Fz
  have sz4 : b < (W3.setCell ⟨b, 6, none⟩ (.int .i64 a115)).heap.size := sizeAt A2H4.out
  generalize W3.setCell ⟨b, 6, none⟩ (.int .i64 a115) = W4 at *
  clear H99 H100 H110 H115
  as_aux_lemma =>
  have C : W4.cell? ⟨b, 7, none⟩ = some (.int .i64 0) := cellsAt A2H4.out 7
  have Fz := freeAt A2H4.out
  refine (H109.out _).mono ?_
  rintro e w' ⟨rfl, rfl⟩
  go_wp2_with fail
  have A1H5 := Lib.hid (set_ne (b := w.heap.size) (c := b) (j := 7) (.int .i64 a109) (by have := HBB.out; omega) A1H4.out)
  have A2H5 : Hid ((W4.setCell ⟨b, 7, none⟩ (.int .i64 a109)).heap[b]? = some (.cells #[.int .i64 k, .int .i64 a99, .int .i64 0, .bool false, .int .i64 a100, .int .i64 a110, .int .i64 a115, .int .i64 a109, .int .u32 0, .bool false, .int .i64 0, .int .i64 0, .bool false, .bool false, .bool false, .bool false, .bool false, .bool false, .bool false, .bool false, .int .i64 0, .bool false, .bool false, .bool false] 25)) := Lib.hid (set_at (j := 7) (.int .i64 a109) A2H4.out)
  have hBH5 := Lib.hid (hBH4.out.setCell (p := ⟨b, 7, none⟩) (by have := HBB.out; simp; omega) (.int .i64 a109))
  clear A1H4 A2H4 hBH4 C Fz
  have sz5 : b < (W4.setCell ⟨b, 7, none⟩ (.int .i64 a109)).heap.size := sizeAt A2H5.out
  generalize W4.setCell ⟨b, 7, none⟩ (.int .i64 a109) = W5 at *
  have C : W5.cell? ⟨b, 16, none⟩ = some (.bool false) := cellsAt A2H5.out 16
  have Fz := freeAt A2H5.out
  refine (H80.out _).mono ?_
  rintro e w' ⟨rfl, rfl⟩
  go_wp2_with fail
  have A1H6 := Lib.hid (set_ne (b := w.heap.size) (c := b) (j := 16) (.bool b80) (by have := HBB.out; omega) A1H5.out)
  have A2H6 : Hid ((W5.setCell ⟨b, 16, none⟩ (.bool b80)).heap[b]? = some (.cells #[.int .i64 k, .int .i64 a99, .int .i64 0, .bool false, .int .i64 a100, .int .i64 a110, .int .i64 a115, .int .i64 a109, .int .u32 0, .bool false, .int .i64 0, .int .i64 0, .bool false, .bool false, .bool false, .bool false, .bool b80, .bool false, .bool false, .bool false, .int .i64 0, .bool false, .bool false, .bool false] 25)) := Lib.hid (set_at (j := 16) (.bool b80) A2H5.out)
  have hBH6 := Lib.hid (hBH5.out.setCell (p := ⟨b, 16, none⟩) (by have := HBB.out; simp; omega) (.bool b80))
  clear A1H5 A2H5 hBH5 C Fz
  have sz6 : b < (W5.setCell ⟨b, 16, none⟩ (.bool b80)).heap.size := sizeAt A2H6.out
  generalize W5.setCell ⟨b, 16, none⟩ (.bool b80) = W6 at *
  have C : W6.cell? ⟨b, 17, none⟩ = some (.bool false) := cellsAt A2H6.out 17
  have Fz := freeAt A2H6.out
  refine (H85.out _).mono ?_
  rintro e w' ⟨rfl, rfl⟩
  go_wp2_with fail
  have A1H7 := Lib.hid (set_ne (b := w.heap.size) (c := b) (j := 17) (.bool b85) (by have := HBB.out; omega) A1H6.out)
  have A2H7 : Hid ((W6.setCell ⟨b, 17, none⟩ (.bool b85)).heap[b]? = some (.cells #[.int .i64 k, .int .i64 a99, .int .i64 0, .bool false, .int .i64 a100, .int .i64 a110, .int .i64 a115, .int .i64 a109, .int .u32 0, .bool false, .int .i64 0, .int .i64 0, .bool false, .bool false, .bool false, .bool false, .bool b80, .bool b85, .bool false, .bool false, .int .i64 0, .bool false, .bool false, .bool false] 25)) := Lib.hid (set_at (j := 17) (.bool b85) A2H6.out)
  have hBH7 := Lib.hid (hBH6.out.setCell (p := ⟨b, 17, none⟩) (by have := HBB.out; simp; omega) (.bool b85))
  clear A1H6 A2H6 hBH6 C Fz
  have sz7 : b < (W6.setCell ⟨b, 17, none⟩ (.bool b85)).heap.size := sizeAt A2H7.out
  generalize W6.setCell ⟨b, 17, none⟩ (.bool b85) = W7 at *
  have C : W7.cell? ⟨b, 14, none⟩ = some (.bool false) := cellsAt A2H7.out 14
  have Fz := freeAt A2H7.out
  refine (H66.out _).mono ?_
  rintro e w' ⟨rfl, rfl⟩
  go_wp2_with fail
  have A1H8 := Lib.hid (set_ne (b := w.heap.size) (c := b) (j := 14) (.bool b66) (by have := HBB.out; omega) A1H7.out)
  have A2H8 : Hid ((W7.setCell ⟨b, 14, none⟩ (.bool b66)).heap[b]? = some (.cells #[.int .i64 k, .int .i64 a99, .int .i64 0, .bool false, .int .i64 a100, .int .i64 a110, .int .i64 a115, .int .i64 a109, .int .u32 0, .bool false, .int .i64 0, .int .i64 0, .bool false, .bool false, .bool b66, .bool false, .bool b80, .bool b85, .bool false, .bool false, .int .i64 0, .bool false, .bool false, .bool false] 25)) := Lib.hid (set_at (j := 14) (.bool b66) A2H7.out)
  have hBH8 := Lib.hid (hBH7.out.setCell (p := ⟨b, 14, none⟩) (by have := HBB.out; simp; omega) (.bool b66))
  clear A1H7 A2H7 hBH7 C Fz
  have sz8 : b < (W7.setCell ⟨b, 14, none⟩ (.bool b66)).heap.size := sizeAt A2H8.out
  generalize W7.setCell ⟨b, 14, none⟩ (.bool b66) = W8 at *
  clear H109 H80 H85 H66
  as_aux_lemma =>
  have C : W8.cell? ⟨b, 13, none⟩ = some (.bool false) := cellsAt A2H8.out 13
  have Fz := freeAt A2H8.out
  refine (H76.out _).mono ?_
  rintro e w' ⟨rfl, rfl⟩
  go_wp2_with fail
  have A1H9 := Lib.hid (set_ne (b := w.heap.size) (c := b) (j := 13) (.bool b76) (by have := HBB.out; omega) A1H8.out)
  have A2H9 : Hid ((W8.setCell ⟨b, 13, none⟩ (.bool b76)).heap[b]? = some (.cells #[.int .i64 k, .int .i64 a99, .int .i64 0, .bool false, .int .i64 a100, .int .i64 a110, .int .i64 a115, .int .i64 a109, .int .u32 0, .bool false, .int .i64 0, .int .i64 0, .bool false, .bool b76, .bool b66, .bool false, .bool b80, .bool b85, .bool false, .bool false, .int .i64 0, .bool false, .bool false, .bool false] 25)) := Lib.hid (set_at (j := 13) (.bool b76) A2H8.out)
  have hBH9 := Lib.hid (hBH8.out.setCell (p := ⟨b, 13, none⟩) (by have := HBB.out; simp; omega) (.bool b76))
  clear A1H8 A2H8 hBH8 C Fz
  have sz9 : b < (W8.setCell ⟨b, 13, none⟩ (.bool b76)).heap.size := sizeAt A2H9.out
  generalize W8.setCell ⟨b, 13, none⟩ (.bool b76) = W9 at *
  have C : W9.cell? ⟨b, 3, none⟩ = some (.bool false) := cellsAt A2H9.out 3
  have Fz := freeAt A2H9.out
  refine (H70.out _).mono ?_
  rintro e w' ⟨rfl, rfl⟩
  go_wp2_with fail
  have A1H10 := Lib.hid (set_ne (b := w.heap.size) (c := b) (j := 3) (.bool b70) (by have := HBB.out; omega) A1H9.out)
  have A2H10 : Hid ((W9.setCell ⟨b, 3, none⟩ (.bool b70)).heap[b]? = some (.cells #[.int .i64 k, .int .i64 a99, .int .i64 0, .bool b70, .int .i64 a100, .int .i64 a110, .int .i64 a115, .int .i64 a109, .int .u32 0, .bool false, .int .i64 0, .int .i64 0, .bool false, .bool b76, .bool b66, .bool false, .bool b80, .bool b85, .bool false, .bool false, .int .i64 0, .bool false, .bool false, .bool false] 25)) := Lib.hid (set_at (j := 3) (.bool b70) A2H9.out)
  have hBH10 := Lib.hid (hBH9.out.setCell (p := ⟨b, 3, none⟩) (by have := HBB.out; simp; omega) (.bool b70))
  clear A1H9 A2H9 hBH9 C Fz
  have sz10 : b < (W9.setCell ⟨b, 3, none⟩ (.bool b70)).heap.size := sizeAt A2H10.out
  generalize W9.setCell ⟨b, 3, none⟩ (.bool b70) = W10 at *
  have C : W10.cell? ⟨b, 22, none⟩ = some (.bool false) := cellsAt A2H10.out 22
  have Fz := freeAt A2H10.out
  refine (H65.out _).mono ?_
  rintro e w' ⟨rfl, rfl⟩
  go_wp2_with fail
  have A1H11 := Lib.hid (set_ne (b := w.heap.size) (c := b) (j := 22) (.bool b65) (by have := HBB.out; omega) A1H10.out)
  have A2H11 : Hid ((W10.setCell ⟨b, 22, none⟩ (.bool b65)).heap[b]? = some (.cells #[.int .i64 k, .int .i64 a99, .int .i64 0, .bool b70, .int .i64 a100, .int .i64 a110, .int .i64 a115, .int .i64 a109, .int .u32 0, .bool false, .int .i64 0, .int .i64 0, .bool false, .bool b76, .bool b66, .bool false, .bool b80, .bool b85, .bool false, .bool false, .int .i64 0, .bool false, .bool b65, .bool false] 25)) := Lib.hid (set_at (j := 22) (.bool b65) A2H10.out)
  have hBH11 := Lib.hid (hBH10.out.setCell (p := ⟨b, 22, none⟩) (by have := HBB.out; simp; omega) (.bool b65))
  clear A1H10 A2H10 hBH10 C Fz
  have sz11 : b < (W10.setCell ⟨b, 22, none⟩ (.bool b65)).heap.size := sizeAt A2H11.out
  generalize W10.setCell ⟨b, 22, none⟩ (.bool b65) = W11 at *
  have C : W11.cell? ⟨b, 15, none⟩ = some (.bool false) := cellsAt A2H11.out 15
  have Fz := freeAt A2H11.out
  refine (H83.out _).mono ?_
  rintro e w' ⟨rfl, rfl⟩
  go_wp2_with fail
  have A1H12 := Lib.hid (set_ne (b := w.heap.size) (c := b) (j := 15) (.bool b83) (by have := HBB.out; omega) A1H11.out)
  have A2H12 : Hid ((W11.setCell ⟨b, 15, none⟩ (.bool b83)).heap[b]? = some (.cells #[.int .i64 k, .int .i64 a99, .int .i64 0, .bool b70, .int .i64 a100, .int .i64 a110, .int .i64 a115, .int .i64 a109, .int .u32 0, .bool false, .int .i64 0, .int .i64 0, .bool false, .bool b76, .bool b66, .bool b83, .bool b80, .bool b85, .bool false, .bool false, .int .i64 0, .bool false, .bool b65, .bool false] 25)) := Lib.hid (set_at (j := 15) (.bool b83) A2H11.out)
  have hBH12 := Lib.hid (hBH11.out.setCell (p := ⟨b, 15, none⟩) (by have := HBB.out; simp; omega) (.bool b83))
  clear A1H11 A2H11 hBH11 C Fz
  have sz12 : b < (W11.setCell ⟨b, 15, none⟩ (.bool b83)).heap.size := sizeAt A2H12.out
  generalize W11.setCell ⟨b, 15, none⟩ (.bool b83) = W12 at *
  clear H76 H70 H65 H83
  as_aux_lemma =>
  have C : W12.cell? ⟨b, 19, none⟩ = some (.bool false) := cellsAt A2H12.out 19
  have Fz := freeAt A2H12.out
  refine (H81.out _).mono ?_
  rintro e w' ⟨rfl, rfl⟩
  go_wp2_with fail
  have A1H13 := Lib.hid (set_ne (b := w.heap.size) (c := b) (j := 19) (.bool b81) (by have := HBB.out; omega) A1H12.out)
  have A2H13 : Hid ((W12.setCell ⟨b, 19, none⟩ (.bool b81)).heap[b]? = some (.cells #[.int .i64 k, .int .i64 a99, .int .i64 0, .bool b70, .int .i64 a100, .int .i64 a110, .int .i64 a115, .int .i64 a109, .int .u32 0, .bool false, .int .i64 0, .int .i64 0, .bool false, .bool b76, .bool b66, .bool b83, .bool b80, .bool b85, .bool false, .bool b81, .int .i64 0, .bool false, .bool b65, .bool false] 25)) := Lib.hid (set_at (j := 19) (.bool b81) A2H12.out)
  have hBH13 := Lib.hid (hBH12.out.setCell (p := ⟨b, 19, none⟩) (by have := HBB.out; simp; omega) (.bool b81))
  clear A1H12 A2H12 hBH12 C Fz
  have sz13 : b < (W12.setCell ⟨b, 19, none⟩ (.bool b81)).heap.size := sizeAt A2H13.out
  generalize W12.setCell ⟨b, 19, none⟩ (.bool b81) = W13 at *
  have C : W13.cell? ⟨b, 21, none⟩ = some (.bool false) := cellsAt A2H13.out 21
  have Fz := freeAt A2H13.out
  refine (H75.out _).mono ?_
  rintro e w' ⟨rfl, rfl⟩
  go_wp2_with fail
  have A1H14 := Lib.hid (set_ne (b := w.heap.size) (c := b) (j := 21) (.bool b75) (by have := HBB.out; omega) A1H13.out)
  have A2H14 : Hid ((W13.setCell ⟨b, 21, none⟩ (.bool b75)).heap[b]? = some (.cells #[.int .i64 k, .int .i64 a99, .int .i64 0, .bool b70, .int .i64 a100, .int .i64 a110, .int .i64 a115, .int .i64 a109, .int .u32 0, .bool false, .int .i64 0, .int .i64 0, .bool false, .bool b76, .bool b66, .bool b83, .bool b80, .bool b85, .bool false, .bool b81, .int .i64 0, .bool b75, .bool b65, .bool false] 25)) := Lib.hid (set_at (j := 21) (.bool b75) A2H13.out)
  have hBH14 := Lib.hid (hBH13.out.setCell (p := ⟨b, 21, none⟩) (by have := HBB.out; simp; omega) (.bool b75))
  clear A1H13 A2H13 hBH13 C Fz
  have sz14 : b < (W13.setCell ⟨b, 21, none⟩ (.bool b75)).heap.size := sizeAt A2H14.out
  generalize W13.setCell ⟨b, 21, none⟩ (.bool b75) = W14 at *
  have C : W14.cell? ⟨b, 10, none⟩ = some (.int .i64 0) := cellsAt A2H14.out 10
  have Fz := freeAt A2H14.out
  refine (H116.out _).mono ?_
  rintro e w' ⟨rfl, rfl⟩
  go_wp2_with fail
  have A1H15 := Lib.hid (set_ne (b := w.heap.size) (c := b) (j := 10) (.int .i64 a116) (by have := HBB.out; omega) A1H14.out)
  have A2H15 : Hid ((W14.setCell ⟨b, 10, none⟩ (.int .i64 a116)).heap[b]? = some (.cells #[.int .i64 k, .int .i64 a99, .int .i64 0, .bool b70, .int .i64 a100, .int .i64 a110, .int .i64 a115, .int .i64 a109, .int .u32 0, .bool false, .int .i64 a116, .int .i64 0, .bool false, .bool b76, .bool b66, .bool b83, .bool b80, .bool b85, .bool false, .bool b81, .int .i64 0, .bool b75, .bool b65, .bool false] 25)) := Lib.hid (set_at (j := 10) (.int .i64 a116) A2H14.out)
  have hBH15 := Lib.hid (hBH14.out.setCell (p := ⟨b, 10, none⟩) (by have := HBB.out; simp; omega) (.int .i64 a116))
  clear A1H14 A2H14 hBH14 C Fz
  have sz15 : b < (W14.setCell ⟨b, 10, none⟩ (.int .i64 a116)).heap.size := sizeAt A2H15.out
  generalize W14.setCell ⟨b, 10, none⟩ (.int .i64 a116) = W15 at *
  clear H81 H75 H116
  as_aux_lemma =>
  have C : W15.cell? ⟨b, 11, none⟩ = some (.int .i64 0) := cellsAt A2H15.out 11
  have Fz := freeAt A2H15.out
  refine (H97.out _).mono ?_
  rintro e w' ⟨rfl, rfl⟩
  go_wp2_with fail
  have A1H16 := Lib.hid (set_ne (b := w.heap.size) (c := b) (j := 11) (.int .i64 a97) (by have := HBB.out; omega) A1H15.out)
  have A2H16 : Hid ((W15.setCell ⟨b, 11, none⟩ (.int .i64 a97)).heap[b]? = some (.cells #[.int .i64 k, .int .i64 a99, .int .i64 0, .bool b70, .int .i64 a100, .int .i64 a110, .int .i64 a115, .int .i64 a109, .int .u32 0, .bool false, .int .i64 a116, .int .i64 a97, .bool false, .bool b76, .bool b66, .bool b83, .bool b80, .bool b85, .bool false, .bool b81, .int .i64 0, .bool b75, .bool b65, .bool false] 25)) := Lib.hid (set_at (j := 11) (.int .i64 a97) A2H15.out)
  have hBH16 := Lib.hid (hBH15.out.setCell (p := ⟨b, 11, none⟩) (by have := HBB.out; simp; omega) (.int .i64 a97))
  clear A1H15 A2H15 hBH15 C Fz
  have sz16 : b < (W15.setCell ⟨b, 11, none⟩ (.int .i64 a97)).heap.size := sizeAt A2H16.out
  generalize W15.setCell ⟨b, 11, none⟩ (.int .i64 a97) = W16 at *
  have C : W16.cell? ⟨b, 20, none⟩ = some (.int .i64 0) := cellsAt A2H16.out 20
  have Fz := freeAt A2H16.out
  refine (H108.out _).mono ?_
  rintro e w' ⟨rfl, rfl⟩
  go_wp2_with fail
  have A1H17 := Lib.hid (set_ne (b := w.heap.size) (c := b) (j := 20) (.int .i64 a108) (by have := HBB.out; omega) A1H16.out)
  have A2H17 : Hid ((W16.setCell ⟨b, 20, none⟩ (.int .i64 a108)).heap[b]? = some (.cells #[.int .i64 k, .int .i64 a99, .int .i64 0, .bool b70, .int .i64 a100, .int .i64 a110, .int .i64 a115, .int .i64 a109, .int .u32 0, .bool false, .int .i64 a116, .int .i64 a97, .bool false, .bool b76, .bool b66, .bool b83, .bool b80, .bool b85, .bool false, .bool b81, .int .i64 a108, .bool b75, .bool b65, .bool false] 25)) := Lib.hid (set_at (j := 20) (.int .i64 a108) A2H16.out)
  have hBH17 := Lib.hid (hBH16.out.setCell (p := ⟨b, 20, none⟩) (by have := HBB.out; simp; omega) (.int .i64 a108))
  clear A1H16 A2H16 hBH16 C Fz
  have sz17 : b < (W16.setCell ⟨b, 20, none⟩ (.int .i64 a108)).heap.size := sizeAt A2H17.out
  generalize W16.setCell ⟨b, 20, none⟩ (.int .i64 a108) = W17 at *
  have C : W17.cell? ⟨b, 8, none⟩ = some (.int .u32 0) := cellsAt A2H17.out 8
  have Fz := freeAt A2H17.out
  refine (H73.out _).mono ?_
  rintro e w' ⟨rfl, rfl⟩
  go_upto_region 20 with fail
  have A1H18 := Lib.hid (set_ne (b := w.heap.size) (c := b) (j := 8) (.int .u32 a73) (by have := HBB.out; omega) A1H17.out)
  have A2H18 : Hid ((W17.setCell ⟨b, 8, none⟩ (.int .u32 a73)).heap[b]? = some (.cells #[.int .i64 k, .int .i64 a99, .int .i64 0, .bool b70, .int .i64 a100, .int .i64 a110, .int .i64 a115, .int .i64 a109, .int .u32 a73, .bool false, .int .i64 a116, .int .i64 a97, .bool false, .bool b76, .bool b66, .bool b83, .bool b80, .bool b85, .bool false, .bool b81, .int .i64 a108, .bool b75, .bool b65, .bool false] 25)) := Lib.hid (set_at (j := 8) (.int .u32 a73) A2H17.out)
  have hBH18 := Lib.hid (hBH17.out.setCell (p := ⟨b, 8, none⟩) (by have := HBB.out; simp; omega) (.int .u32 a73))
  clear A1H17 A2H17 hBH17 C Fz
  have sz18 : b < (W17.setCell ⟨b, 8, none⟩ (.int .u32 a73)).heap.size := sizeAt A2H18.out
  generalize W17.setCell ⟨b, 8, none⟩ (.int .u32 a73) = W18 at *
  have S1 := sizeAt A1H18.out
  go_wp2_with (first | (refine wpList_load_row rfl 25 (.tmp 7) rfl b rfl 25 _ (0, 0) _ A2H18.out Try.underlying25 rfl info25 ?_) | (refine wpList_store_row rfl 25 (.tmp 6) (.tmp 83) rfl (w.heap.size) _ rfl rfl 25 _ A1H18.out info25 rfl (by simp [Value.oneCell']) ?_))
  exact bodyPost_ret (results_cell_row rfl _ _ w.heap.size 25 _ _ _ rfl (setRow_heap _ _ _ _ _ _ A1H18.out) Try.underlying25 rfl info25) rfl ⟨rfl, below_only hBH18.out (Only.setRow (Only.refl A1H18.out)) (by omega) hBH18.out.size⟩
end Go.Proofs.Ytlpjadpjjcpfgaa.Rz
