/- ArmFields, walked, shape by shape. -/
import Derived.Test.YtlpjadpjjcpfgaaRi
import Derived.Deep.DeepCutAuto
namespace Go.Proofs.Ytlpjadpjjcpfgaa.Rm
set_option linter.unusedVariables false
set_option linter.unusedSimpArgs false
open Go.RowKit Go.Proofs.Ytlpjadpjjcpfgaa.Ri Go.Proofs.Ytlpjadpjjcpfgaa.Bt Go.Proofs.Ytlpjadpjjcpfgaa.Wk Go.Proofs.Ytlpjadpjjcpfgaa.Ra Go.Proofs.Ytlpjadpjjcpfgaa.Rp Go.Proofs.Ytlpjadpjjcpfgaa.Rb Go.Proofs.Ytlpjadpjjcpfgaa.Rf Go.Proofs.Ytlpjadpjjcpfgaa.Rl

set_option maxRecDepth 100000 in
set_option maxHeartbeats 40000000 in
theorem fields_imm (x : Int) (x0 : 0 ≤ x) (x1 : x < 4294967296) (kd cond code rd rn imm amount list : Int) (flags load byte signed pre up back user link long : Bool) (kd0 : 0 ≤ kd) (kd1 : kd ≤ 12) (cond0 : 0 ≤ cond) (cond1 : cond ≤ 15) (code0 : 0 ≤ code) (code1 : code ≤ 15) (rd0 : 0 ≤ rd) (rd1 : rd ≤ 15) (rn0 : 0 ≤ rn) (rn1 : rn ≤ 15) (amount0 : 0 ≤ amount) (amount1 : amount ≤ 31) (list0 : 0 ≤ list) (list1 : list ≤ 65535) (hk : (kd != 0) = true)
    (D : Hid (∀ w, Calls Try.prog 8 #[.int .u32 x] w fun e w' => e = .returned (.agg #[.int .i64 kd, .int .i64 cond, .int .i64 code, .bool flags, .int .i64 rd, .int .i64 rn, .int .i64 0, .int .i64 0, .int .u32 imm, .bool true, .int .i64 0, .int .i64 amount, .bool false, .bool load, .bool byte, .bool signed, .bool pre, .bool up, .bool back, .bool user, .int .i64 list, .bool link, .bool long, .bool false]) ∧ Below w.heap.size w w')) (w : World) :
    Calls Try.prog 5 #[.int .u32 x] w fun e w' => e = .returned (.bool true) ∧ Below w.heap.size w w' := by
  have Q0 : In15 cond ∧ In15 code ∧ In15 rd ∧ In15 rn ∧ In15 0 ∧ In15 0 := by unfold In15; omega
  have QH := Lib.hid Q0
  clear Q0
  have p_kd : decide (kd < 0) = false := decide_eq_false (by omega)
  have r_kd : decide (12 < kd) = false := decide_eq_false (by omega)
  have p_amount : decide (amount < 0) = false := decide_eq_false (by omega)
  have r_amount : decide (31 < amount) = false := decide_eq_false (by omega)
  have p_list : decide (list < 0) = false := decide_eq_false (by omega)
  have r_list : decide (65535 < list) = false := decide_eq_false (by omega)
  go_enter Try.func5, Try.ntmps5
  go_wp2_with fail
  refine (awake_any _).mono ?_
  rintro e w0 ⟨rfl, hb0⟩
  go_wp2_with fail
  refine (D.out _).mono ?_
  rintro e w1 ⟨rfl, hb1⟩
  have hb := below_then hb0 hb1 hb0.size
  clear hb0 hb1
  go_upto_region 4 with (refine wpList_store_row rfl 25 (.tmp 3) (.tmp 9) rfl (w1.heap.size) _ rfl rfl 25 _ (alloc_new _ _) info25 rfl (by simp [Value.oneCell']) ?_; rw [Rg.alloc_setRow])
  have A := alloc_new w1 (.cells #[.int .i64 kd, .int .i64 cond, .int .i64 code, .bool flags, .int .i64 rd, .int .i64 rn, .int .i64 0, .int .i64 0, .int .u32 imm, .bool true, .int .i64 0, .int .i64 amount, .bool false, .bool load, .bool byte, .bool signed, .bool pre, .bool up, .bool back, .bool user, .int .i64 list, .bool link, .bool long, .bool false] 25)
  have hB := hb.alloc hb.size (.cells #[.int .i64 kd, .int .i64 cond, .int .i64 code, .bool flags, .int .i64 rd, .int .i64 rn, .int .i64 0, .int .i64 0, .int .u32 imm, .bool true, .int .i64 0, .int .i64 amount, .bool false, .bool load, .bool byte, .bool signed, .bool pre, .bool up, .bool back, .bool user, .int .i64 list, .bool link, .bool long, .bool false] 25)
  generalize w1.alloc (.cells #[.int .i64 kd, .int .i64 cond, .int .i64 code, .bool flags, .int .i64 rd, .int .i64 rn, .int .i64 0, .int .i64 0, .int .u32 imm, .bool true, .int .i64 0, .int .i64 amount, .bool false, .bool load, .bool byte, .bool signed, .bool pre, .bool up, .bool back, .bool user, .int .i64 list, .bool link, .bool long, .bool false] 25) = W at *
  generalize w1.heap.size = b at *
  have sb := sizeAt A
  have C := cellsAt A
  have AH := Lib.hid A
  have BH := Lib.hid hB
  clear A hB hb
  go_wp2
  have A2 := Lib.hid (alloc_old (.cells #[.int .i64 cond, .int .i64 code, .int .i64 rd, .int .i64 rn, .int .i64 0, .int .i64 0] 3) AH.out)
  have S2 := Lib.hid (alloc_new W (.cells #[.int .i64 cond, .int .i64 code, .int .i64 rd, .int .i64 rn, .int .i64 0, .int .i64 0] 3))
  have B2 := Lib.hid (BH.out.alloc BH.out.size (.cells #[.int .i64 cond, .int .i64 code, .int .i64 rd, .int .i64 rn, .int .i64 0, .int .i64 0] 3))
  clear C AH BH sb
  generalize W.alloc (.cells #[.int .i64 cond, .int .i64 code, .int .i64 rd, .int .i64 rn, .int .i64 0, .int .i64 0] 3) = W2 at *
  generalize W.heap.size = b2 at *
  go_loop [24] (fun i => ∃ k : Nat, k ≤ 6 ∧ i = .int .i64 k) (fun i => 6 - (intOf i).toNat)
  case atStart => exact ⟨0, by omega, rfl⟩
  case round =>
    obtain ⟨k, hk6, rfl⟩ := hrel
    by_cases hlt : k < 6
    · obtain ⟨y, cy, y0, y1⟩ := six_at QH.out.1 QH.out.2.1 QH.out.2.2.1 QH.out.2.2.2.1 QH.out.2.2.2.2.1 QH.out.2.2.2.2.2 S2.out k hlt
      have t : decide ((k : Int) < 6) = true := by simp; omega
      have ty : decide (y < 0) = false := decide_eq_false (by omega)
      have tz : decide (15 < y) = false := decide_eq_false (by omega)
      go_wp2
      go_round
      case rel => exact ⟨k + 1, by omega, by go_num⟩
      case measure => simp [intOf]; omega
    · have t : decide ((k : Int) < 6) = false := by simp; omega
      have C := cellsAt A2.out
      go_upto_region 14 with fail
      go_wp2
      go_ret
      refine ⟨?_, ?_⟩
      · rfl
      · exact B2.out
set_option maxRecDepth 100000 in
set_option maxHeartbeats 40000000 in
theorem fields_reg (x : Int) (x0 : 0 ≤ x) (x1 : x < 4294967296) (cond code rd rn rs rm shift amount list : Int) (flags load byte signed pre up back user link long : Bool) (cond0 : 0 ≤ cond) (cond1 : cond ≤ 15) (code0 : 0 ≤ code) (code1 : code ≤ 15) (rd0 : 0 ≤ rd) (rd1 : rd ≤ 15) (rn0 : 0 ≤ rn) (rn1 : rn ≤ 15) (rs0 : 0 ≤ rs) (rs1 : rs ≤ 15) (rm0 : 0 ≤ rm) (rm1 : rm ≤ 15) (shift0 : 0 ≤ shift) (shift1 : shift ≤ 3) (amount0 : 0 ≤ amount) (amount1 : amount ≤ 31) (list0 : 0 ≤ list) (list1 : list ≤ 65535)
    (D : Hid (∀ w, Calls Try.prog 8 #[.int .u32 x] w fun e w' => e = .returned (.agg #[.int .i64 1, .int .i64 cond, .int .i64 code, .bool flags, .int .i64 rd, .int .i64 rn, .int .i64 rs, .int .i64 rm, .int .u32 0, .bool false, .int .i64 shift, .int .i64 amount, .bool true, .bool load, .bool byte, .bool signed, .bool pre, .bool up, .bool back, .bool user, .int .i64 list, .bool link, .bool long, .bool false]) ∧ Below w.heap.size w w')) (w : World) :
    Calls Try.prog 5 #[.int .u32 x] w fun e w' => e = .returned (.bool true) ∧ Below w.heap.size w w' := by
  have Q0 : In15 cond ∧ In15 code ∧ In15 rd ∧ In15 rn ∧ In15 rs ∧ In15 rm := by unfold In15; omega
  have QH := Lib.hid Q0
  clear Q0
  have p_shift : decide (shift < 0) = false := decide_eq_false (by omega)
  have r_shift : decide (3 < shift) = false := decide_eq_false (by omega)
  have p_amount : decide (amount < 0) = false := decide_eq_false (by omega)
  have r_amount : decide (31 < amount) = false := decide_eq_false (by omega)
  have p_list : decide (list < 0) = false := decide_eq_false (by omega)
  have r_list : decide (65535 < list) = false := decide_eq_false (by omega)
  go_enter Try.func5, Try.ntmps5
  go_wp2_with fail
  refine (awake_any _).mono ?_
  rintro e w0 ⟨rfl, hb0⟩
  go_wp2_with fail
  refine (D.out _).mono ?_
  rintro e w1 ⟨rfl, hb1⟩
  have hb := below_then hb0 hb1 hb0.size
  clear hb0 hb1
  go_upto_region 4 with (refine wpList_store_row rfl 25 (.tmp 3) (.tmp 9) rfl (w1.heap.size) _ rfl rfl 25 _ (alloc_new _ _) info25 rfl (by simp [Value.oneCell']) ?_; rw [Rg.alloc_setRow])
  have A := alloc_new w1 (.cells #[.int .i64 1, .int .i64 cond, .int .i64 code, .bool flags, .int .i64 rd, .int .i64 rn, .int .i64 rs, .int .i64 rm, .int .u32 0, .bool false, .int .i64 shift, .int .i64 amount, .bool true, .bool load, .bool byte, .bool signed, .bool pre, .bool up, .bool back, .bool user, .int .i64 list, .bool link, .bool long, .bool false] 25)
  have hB := hb.alloc hb.size (.cells #[.int .i64 1, .int .i64 cond, .int .i64 code, .bool flags, .int .i64 rd, .int .i64 rn, .int .i64 rs, .int .i64 rm, .int .u32 0, .bool false, .int .i64 shift, .int .i64 amount, .bool true, .bool load, .bool byte, .bool signed, .bool pre, .bool up, .bool back, .bool user, .int .i64 list, .bool link, .bool long, .bool false] 25)
  generalize w1.alloc (.cells #[.int .i64 1, .int .i64 cond, .int .i64 code, .bool flags, .int .i64 rd, .int .i64 rn, .int .i64 rs, .int .i64 rm, .int .u32 0, .bool false, .int .i64 shift, .int .i64 amount, .bool true, .bool load, .bool byte, .bool signed, .bool pre, .bool up, .bool back, .bool user, .int .i64 list, .bool link, .bool long, .bool false] 25) = W at *
  generalize w1.heap.size = b at *
  have sb := sizeAt A
  have C := cellsAt A
  have AH := Lib.hid A
  have BH := Lib.hid hB
  clear A hB hb
  go_wp2
  have A2 := Lib.hid (alloc_old (.cells #[.int .i64 cond, .int .i64 code, .int .i64 rd, .int .i64 rn, .int .i64 rs, .int .i64 rm] 3) AH.out)
  have S2 := Lib.hid (alloc_new W (.cells #[.int .i64 cond, .int .i64 code, .int .i64 rd, .int .i64 rn, .int .i64 rs, .int .i64 rm] 3))
  have B2 := Lib.hid (BH.out.alloc BH.out.size (.cells #[.int .i64 cond, .int .i64 code, .int .i64 rd, .int .i64 rn, .int .i64 rs, .int .i64 rm] 3))
  clear C AH BH sb
  generalize W.alloc (.cells #[.int .i64 cond, .int .i64 code, .int .i64 rd, .int .i64 rn, .int .i64 rs, .int .i64 rm] 3) = W2 at *
  generalize W.heap.size = b2 at *
  go_loop [24] (fun i => ∃ k : Nat, k ≤ 6 ∧ i = .int .i64 k) (fun i => 6 - (intOf i).toNat)
  case atStart => exact ⟨0, by omega, rfl⟩
  case round =>
    obtain ⟨k, hk6, rfl⟩ := hrel
    by_cases hlt : k < 6
    · obtain ⟨y, cy, y0, y1⟩ := six_at QH.out.1 QH.out.2.1 QH.out.2.2.1 QH.out.2.2.2.1 QH.out.2.2.2.2.1 QH.out.2.2.2.2.2 S2.out k hlt
      have t : decide ((k : Int) < 6) = true := by simp; omega
      have ty : decide (y < 0) = false := decide_eq_false (by omega)
      have tz : decide (15 < y) = false := decide_eq_false (by omega)
      go_wp2
      go_round
      case rel => exact ⟨k + 1, by omega, by go_num⟩
      case measure => simp [intOf]; omega
    · have t : decide ((k : Int) < 6) = false := by simp; omega
      have C := cellsAt A2.out
      go_upto_region 14 with fail
      go_wp2
      go_ret
      refine ⟨?_, ?_⟩
      · rfl
      · exact B2.out
set_option maxRecDepth 100000 in
set_option maxHeartbeats 40000000 in
theorem fields_nil (x : Int) (x0 : 0 ≤ x) (x1 : x < 4294967296) (kd cond code rd rn rs rm shift amount list : Int) (flags load byte signed pre up back user link long : Bool) (kd0 : 0 ≤ kd) (kd1 : kd ≤ 12) (cond0 : 0 ≤ cond) (cond1 : cond ≤ 15) (code0 : 0 ≤ code) (code1 : code ≤ 15) (rd0 : 0 ≤ rd) (rd1 : rd ≤ 15) (rn0 : 0 ≤ rn) (rn1 : rn ≤ 15) (rs0 : 0 ≤ rs) (rs1 : rs ≤ 15) (rm0 : 0 ≤ rm) (rm1 : rm ≤ 15) (shift0 : 0 ≤ shift) (shift1 : shift ≤ 3) (amount0 : 0 ≤ amount) (amount1 : amount ≤ 31) (list0 : 0 ≤ list) (list1 : list ≤ 65535) (hk : (kd != 0) = true)
    (D : Hid (∀ w, Calls Try.prog 8 #[.int .u32 x] w fun e w' => e = .returned (.agg #[.int .i64 kd, .int .i64 cond, .int .i64 code, .bool flags, .int .i64 rd, .int .i64 rn, .int .i64 rs, .int .i64 rm, .int .u32 0, .bool false, .int .i64 shift, .int .i64 amount, .bool false, .bool load, .bool byte, .bool signed, .bool pre, .bool up, .bool back, .bool user, .int .i64 list, .bool link, .bool long, .bool false]) ∧ Below w.heap.size w w')) (w : World) :
    Calls Try.prog 5 #[.int .u32 x] w fun e w' => e = .returned (.bool true) ∧ Below w.heap.size w w' := by
  have Q0 : In15 cond ∧ In15 code ∧ In15 rd ∧ In15 rn ∧ In15 rs ∧ In15 rm := by unfold In15; omega
  have QH := Lib.hid Q0
  clear Q0
  have p_kd : decide (kd < 0) = false := decide_eq_false (by omega)
  have r_kd : decide (12 < kd) = false := decide_eq_false (by omega)
  have p_shift : decide (shift < 0) = false := decide_eq_false (by omega)
  have r_shift : decide (3 < shift) = false := decide_eq_false (by omega)
  have p_amount : decide (amount < 0) = false := decide_eq_false (by omega)
  have r_amount : decide (31 < amount) = false := decide_eq_false (by omega)
  have p_list : decide (list < 0) = false := decide_eq_false (by omega)
  have r_list : decide (65535 < list) = false := decide_eq_false (by omega)
  go_enter Try.func5, Try.ntmps5
  go_wp2_with fail
  refine (awake_any _).mono ?_
  rintro e w0 ⟨rfl, hb0⟩
  go_wp2_with fail
  refine (D.out _).mono ?_
  rintro e w1 ⟨rfl, hb1⟩
  have hb := below_then hb0 hb1 hb0.size
  clear hb0 hb1
  go_upto_region 4 with (refine wpList_store_row rfl 25 (.tmp 3) (.tmp 9) rfl (w1.heap.size) _ rfl rfl 25 _ (alloc_new _ _) info25 rfl (by simp [Value.oneCell']) ?_; rw [Rg.alloc_setRow])
  have A := alloc_new w1 (.cells #[.int .i64 kd, .int .i64 cond, .int .i64 code, .bool flags, .int .i64 rd, .int .i64 rn, .int .i64 rs, .int .i64 rm, .int .u32 0, .bool false, .int .i64 shift, .int .i64 amount, .bool false, .bool load, .bool byte, .bool signed, .bool pre, .bool up, .bool back, .bool user, .int .i64 list, .bool link, .bool long, .bool false] 25)
  have hB := hb.alloc hb.size (.cells #[.int .i64 kd, .int .i64 cond, .int .i64 code, .bool flags, .int .i64 rd, .int .i64 rn, .int .i64 rs, .int .i64 rm, .int .u32 0, .bool false, .int .i64 shift, .int .i64 amount, .bool false, .bool load, .bool byte, .bool signed, .bool pre, .bool up, .bool back, .bool user, .int .i64 list, .bool link, .bool long, .bool false] 25)
  generalize w1.alloc (.cells #[.int .i64 kd, .int .i64 cond, .int .i64 code, .bool flags, .int .i64 rd, .int .i64 rn, .int .i64 rs, .int .i64 rm, .int .u32 0, .bool false, .int .i64 shift, .int .i64 amount, .bool false, .bool load, .bool byte, .bool signed, .bool pre, .bool up, .bool back, .bool user, .int .i64 list, .bool link, .bool long, .bool false] 25) = W at *
  generalize w1.heap.size = b at *
  have sb := sizeAt A
  have C := cellsAt A
  have AH := Lib.hid A
  have BH := Lib.hid hB
  clear A hB hb
  go_wp2
  have A2 := Lib.hid (alloc_old (.cells #[.int .i64 cond, .int .i64 code, .int .i64 rd, .int .i64 rn, .int .i64 rs, .int .i64 rm] 3) AH.out)
  have S2 := Lib.hid (alloc_new W (.cells #[.int .i64 cond, .int .i64 code, .int .i64 rd, .int .i64 rn, .int .i64 rs, .int .i64 rm] 3))
  have B2 := Lib.hid (BH.out.alloc BH.out.size (.cells #[.int .i64 cond, .int .i64 code, .int .i64 rd, .int .i64 rn, .int .i64 rs, .int .i64 rm] 3))
  clear C AH BH sb
  generalize W.alloc (.cells #[.int .i64 cond, .int .i64 code, .int .i64 rd, .int .i64 rn, .int .i64 rs, .int .i64 rm] 3) = W2 at *
  generalize W.heap.size = b2 at *
  go_loop [24] (fun i => ∃ k : Nat, k ≤ 6 ∧ i = .int .i64 k) (fun i => 6 - (intOf i).toNat)
  case atStart => exact ⟨0, by omega, rfl⟩
  case round =>
    obtain ⟨k, hk6, rfl⟩ := hrel
    by_cases hlt : k < 6
    · obtain ⟨y, cy, y0, y1⟩ := six_at QH.out.1 QH.out.2.1 QH.out.2.2.1 QH.out.2.2.2.1 QH.out.2.2.2.2.1 QH.out.2.2.2.2.2 S2.out k hlt
      have t : decide ((k : Int) < 6) = true := by simp; omega
      have ty : decide (y < 0) = false := decide_eq_false (by omega)
      have tz : decide (15 < y) = false := decide_eq_false (by omega)
      go_wp2
      go_round
      case rel => exact ⟨k + 1, by omega, by go_num⟩
      case measure => simp [intOf]; omega
    · have t : decide ((k : Int) < 6) = false := by simp; omega
      have C := cellsAt A2.out
      go_upto_region 14 with fail
      go_wp2
      go_ret
      refine ⟨?_, ?_⟩
      · rfl
      · exact B2.out
end Go.Proofs.Ytlpjadpjjcpfgaa.Rm
