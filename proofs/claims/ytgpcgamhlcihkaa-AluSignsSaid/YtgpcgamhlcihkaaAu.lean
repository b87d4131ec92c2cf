/- Products, walked. -/
import Derived.Test.YtgpcgamhlcihkaaAl
namespace Go.Proofs.Ytgpcgamhlcihkaa.Aw
set_option linter.unusedVariables false
set_option linter.unusedSimpArgs false
open Go.RowKit Go.Proofs.Ytgpcgamhlcihkaa.Bt Go.Proofs.Ytgpcgamhlcihkaa.Am
open Go.Proofs.Ytgpcgamhlcihkaa.Wk (alloc_new alloc_old keep sizeAt cellsAt freeAt below_then)

/-- Flags of a double word. -/
def fl8 (y : Int) (c v : Bool) : Fl := ⟨decide (9223372036854775808 ≤ y), decide (y = 0), c, v⟩
theorem top4 {y : Int} (y0 : 0 ≤ y) (y1 : y < 4294967296) : (y / 2147483648 == 1) = decide (2147483648 ≤ y) := by rw [beq_eq_decide]; simp only [decide_eq_decide]; omega
theorem top8 {y : Int} (y0 : 0 ≤ y) (y1 : y < 18446744073709551616) : (y / 9223372036854775808 == 1) = decide (9223372036854775808 ≤ y) := by rw [beq_eq_decide]; simp only [decide_eq_decide]; omega
theorem below_two (w : World) (o p : Obj) : Below w.heap.size w ((w.alloc o).alloc p).drew := below_d1 (((Below.refl _ _).alloc (Nat.le_refl _) _).alloc (by simp) _)

set_option maxHeartbeats 1000000 in
theorem mul_any (a b c Y : Int) (n z fc v : Bool) (w : World) (a0 : 0 ≤ a) (a1 : a < 4294967296) (b0 : 0 ≤ b) (b1 : b < 4294967296) (c0 : 0 ≤ c) (c1 : c < 4294967296) (hY : (a * b + c) % 4294967296 = Y) :
    Calls Try.prog 15 #[.int .u32 a, .int .u32 b, .int .u32 c, .agg #[.bool n, .bool z, .bool fc, .bool v]] w fun e w' => e = .returned (.tuple #[.int .u32 Y, flv (fl4 Y fc v)]) ∧ Below w.heap.size w w' := by
  have e : (a * b % 4294967296 + c) % 4294967296 = Y := by rw [← hY]; generalize a * b = p; omega
  have y0 : 0 ≤ Y := by omega
  have y1 : Y < 4294967296 := by omega
  have T := Lib.hid (top4 y0 y1)
  go_enter Try.func15, Try.ntmps15
  go_wp2
  go_region
  go_wp2
  refine bodyPost_ret (v := .tuple #[.int .u32 Y, .agg #[.bool (Y / 2147483648 == 1), .bool (Y == 0), .bool fc, .bool v]]) (by simp [results, Try.results15, go_sem, hY]) rfl ⟨ret_fl rfl T.out (beq_eq_decide _ _) rfl rfl, below_two _ _ _⟩
set_option maxHeartbeats 1000000 in
theorem rmul_any (a b c Y : Int) (n z fc v : Bool) (w : World) (a0 : 0 ≤ a) (a1 : a < 4294967296) (b0 : 0 ≤ b) (b1 : b < 4294967296) (c0 : 0 ≤ c) (c1 : c < 4294967296) (hY : (a * b + c) % 4294967296 = Y) :
    Calls Try.prog 18 #[.int .u32 a, .int .u32 b, .int .u32 c, .agg #[.bool n, .bool z, .bool fc, .bool v]] w fun e w' => e = .returned (.tuple #[.int .u32 Y, flv (fl4 Y fc v)]) ∧ Below w.heap.size w w' := by
  have e : IntKind.u64.wrap (IntKind.u64.wrap (a * b) + c) % 4294967296 = Y := by rw [← hY, wrap_u64, wrap_u64]; generalize a * b = p; omega
  have y0 : 0 ≤ Y := by omega
  have y1 : Y < 4294967296 := by omega
  clear hY
  go_enter Try.func18, Try.ntmps18
  go_wp2
  go_region
  go_wp2
  refine bodyPost_ret (v := .tuple #[.int .u32 Y, .agg #[.bool (decide (2147483648 ≤ Y)), .bool (Y == 0), .bool fc, .bool v]]) (by simp [results, Try.results18, go_sem, e]) rfl ⟨ret_fl rfl rfl (beq_eq_decide _ _) rfl rfl, below_two _ _ _⟩
/-- The product that is asked for. -/
def prodS (a b : Int) (s : Bool) : Int := if s then sg a * sg b else a * b
theorem wrap_wrap (x : Int) : IntKind.u64.wrap (wrap64 x) = x % 18446744073709551616 := by rw [wrap_u64]; unfold wrap64; omega
set_option maxHeartbeats 1000000 in
set_option maxRecDepth 100000 in
theorem mull_any (a b c Y : Int) (s n z fc v : Bool) (w : World) (a0 : 0 ≤ a) (a1 : a < 4294967296) (b0 : 0 ≤ b) (b1 : b < 4294967296) (hY : (prodS a b s + c) % 18446744073709551616 = Y) :
    Calls Try.prog 14 #[.int .u32 a, .int .u32 b, .bool s, .int .u64 c, .agg #[.bool n, .bool z, .bool fc, .bool v]] w fun e w' => e = .returned (.tuple #[.int .u64 Y, flv (fl8 Y fc v)]) ∧ Below w.heap.size w w' := by
  have y0 : 0 ≤ Y := by omega
  have T := Lib.hid (top8 y0 (by omega))
  cases s
  · have e : IntKind.u64.wrap (IntKind.u64.wrap (a * b) + c) = Y := by
      rw [← hY, wrap_u64, wrap_u64]; simp only [prodS, Bool.false_eq_true, if_false]; generalize a * b = p; omega
    clear hY
    go_enter Try.func14, Try.ntmps14
    go_wp2
    go_region
    go_wp2
    refine bodyPost_ret (v := .tuple #[.int .u64 Y, .agg #[.bool (Y / 9223372036854775808 == 1), .bool (Y == 0), .bool fc, .bool v]]) (by simp [results, Try.results14, go_sem]) rfl ⟨ret_fl rfl T.out (beq_eq_decide _ _) rfl rfl, below_two _ _ _⟩
  · have e : IntKind.u64.wrap (IntKind.u64.wrap (wrap64 (wrap64 (wrap32 a) * wrap64 (wrap32 b))) + c) = Y := by
      rw [← hY, wrap32_sg a0 a1, wrap32_sg b0 b1, wrap_wrap, wrap_u64]; simp only [prodS, if_true]; generalize sg a * sg b = p; omega
    clear hY
    go_enter Try.func14, Try.ntmps14
    go_wp2
    go_region
    go_wp2
    refine bodyPost_ret (v := .tuple #[.int .u64 Y, .agg #[.bool (Y / 9223372036854775808 == 1), .bool (Y == 0), .bool fc, .bool v]]) (by simp [results, Try.results14, go_sem]) rfl ⟨ret_fl rfl T.out (beq_eq_decide _ _) rfl rfl, below_two _ _ _⟩
set_option maxHeartbeats 1000000 in
set_option maxRecDepth 100000 in
theorem rmull_any (a b c Y : Int) (s n z fc v : Bool) (w : World) (a0 : 0 ≤ a) (a1 : a < 4294967296) (b0 : 0 ≤ b) (b1 : b < 4294967296) (hY : (prodS a b s + c) % 18446744073709551616 = Y) :
    Calls Try.prog 19 #[.int .u32 a, .int .u32 b, .bool s, .int .u64 c, .agg #[.bool n, .bool z, .bool fc, .bool v]] w fun e w' => e = .returned (.tuple #[.int .u64 Y, flv (fl8 Y fc v)]) ∧ Below w.heap.size w w' := by
  have y0 : 0 ≤ Y := by omega
  cases s
  · have e : IntKind.u64.wrap (IntKind.u64.wrap (a * b) + c) = Y := by
      rw [← hY, wrap_u64, wrap_u64]; simp only [prodS, Bool.false_eq_true, if_false]; generalize a * b = p; omega
    clear hY
    go_enter Try.func19, Try.ntmps19
    go_wp2
    go_region
    go_wp2
    refine bodyPost_ret (v := .tuple #[.int .u64 Y, .agg #[.bool (decide (9223372036854775808 ≤ Y)), .bool (Y == 0), .bool fc, .bool v]]) (by simp [results, Try.results19, go_sem]) rfl ⟨ret_fl rfl rfl (beq_eq_decide _ _) rfl rfl, below_two _ _ _⟩
  · obtain ⟨p, hp⟩ : ∃ p, sg a = p := ⟨_, rfl⟩
    obtain ⟨q, hq⟩ : ∃ q, sg b = q := ⟨_, rfl⟩
    have RA := Lib.hid (fun w => by have := signed_any a w a0 a1; rw [hp] at this; exact this)
    have RB := Lib.hid (fun w => by have := signed_any b w b0 b1; rw [hq] at this; exact this)
    have e : IntKind.u64.wrap (IntKind.u64.wrap (wrap64 (p * q)) + c) = Y := by
      rw [← hY, wrap_wrap, wrap_u64]; simp only [prodS, if_true, hp, hq]; generalize p * q = p; omega
    clear hY hp hq
    go_enter Try.func19, Try.ntmps19
    go_wp2_with (first
      | (go_at_call 24; ((with_reducible refine (RA.out _).mono ?_); rintro e w' ⟨rfl, rfl⟩))
      | (go_at_call 24; ((with_reducible refine (RB.out _).mono ?_); rintro e w' ⟨rfl, rfl⟩)))
    go_region
    go_wp2
    refine bodyPost_ret (v := .tuple #[.int .u64 Y, .agg #[.bool (decide (9223372036854775808 ≤ Y)), .bool (Y == 0), .bool fc, .bool v]]) (by simp [results, Try.results19, go_sem]) rfl ⟨ret_fl rfl rfl (beq_eq_decide _ _) rfl rfl, below_two _ _ _⟩

/-! ### cycles -/
def cycG (x m : Int) : Int := m + (if x < 256 then 0 else if x < 65536 then 1 else if x < 16777216 then 2 else 3)
theorem cycG_step {x m : Int} (h : 256 ≤ x) (h1 : x < 4294967296) : cycG (x / 256) (m + 1) = cycG x m := by unfold cycG; (repeat' split) <;> omega
def cycS (b : Int) (s : Bool) : Int := if s = true ∧ 2147483648 ≤ b then cycG (4294967295 - b) 1 else cycG b 1
set_option maxHeartbeats 1000000 in
theorem cyc_c (b B : Int) (s : Bool) (w : World) (B0 : 0 ≤ B) (B1 : B < 4294967296)
    (h : (s = false ∧ B = b) ∨ (s = true ∧ (b / 2147483648 == 1) = false ∧ B = b) ∨ (s = true ∧ (b / 2147483648 == 1) = true ∧ Go.bits .xor .u32 IntKind.u32.max b = B)) :
    Calls Try.prog 20 #[.int .u32 b, .bool s] w fun e w' => e = .returned (.int .i64 (cycG B 1)) ∧ w = w' := by
  have C := Lib.hid (rfl : cycG B 1 = cycG B 1)
  obtain ⟨G, hG⟩ : ∃ G, cycG B 1 = G := ⟨_, rfl⟩
  have HG := Lib.hid hG
  rw [hG]
  clear hG C
  have h0 : 0 ≤ B / 256 := by omega
  have h1 : B / 256 < 16777216 := by omega
  rcases h with ⟨rfl, rfl⟩ | ⟨rfl, hb, rfl⟩ | ⟨rfl, hb, hB⟩
  all_goals
    go_enter Try.func20, Try.ntmps20
    go_wp2
    go_loop [0, 5] (fun x m => ∃ X M : Int, x = .int .u32 X ∧ m = .int .i64 M ∧ 0 ≤ X ∧ X < 16777216 ∧ 1 ≤ M ∧ M + X ≤ 16777217 ∧ M + (if X = 0 then 0 else if X < 256 then 1 else if X < 65536 then 2 else 3) = G) (fun x _ => (intOf x).toNat)
    case atStart => exact ⟨_, _, rfl, rfl, h0, h1, by omega, by omega, by rw [← HG.out]; unfold cycG; (repeat' split) <;> omega⟩
    case round =>
      obtain ⟨X, M, rfl, rfl, X0, X1, M0, M1, hM⟩ := hrel
      have HM := Lib.hid hM
      clear hM
      by_cases hx : X = 0
      · subst hx
        go_wp2
        go_ret
        exact ⟨ret_i (by have := HM.out; simp at this; exact this), rfl⟩
      · have hx' : (X != 0) = true := by simp [hx]
        go_wp2
        go_round
        case rel => exact ⟨X / 256, M + 1, rfl, rfl, by omega, by omega, by omega, by omega, by rw [← HM.out]; (repeat' split) <;> omega⟩
        case measure => simp [intOf]; omega
theorem cyc_any (b : Int) (s : Bool) (w : World) (b0 : 0 ≤ b) (b1 : b < 4294967296) : Calls Try.prog 20 #[.int .u32 b, .bool s] w fun e w' => e = .returned (.int .i64 (cycS b s)) ∧ w = w' := by
  unfold cycS
  have T := top4 b0 b1
  cases s
  · rw [if_neg (by simp)]; exact cyc_c b b false w b0 b1 (.inl ⟨rfl, rfl⟩)
  · by_cases c : 2147483648 ≤ b
    · rw [if_pos ⟨rfl, c⟩]; exact cyc_c b _ true w (by omega) (by omega) (.inr (.inr ⟨rfl, by rw [T]; simp [c], not_u32 b0 b1⟩))
    · rw [if_neg (by simp [c])]; exact cyc_c b b true w b0 b1 (.inr (.inl ⟨rfl, by rw [T]; simp; omega, rfl⟩))
set_option maxHeartbeats 1000000 in
theorem rcyc_c (b B : Int) (s : Bool) (w : World) (b0 : 0 ≤ b) (b1 : b < 4294967296) (B0 : 0 ≤ B) (B1 : B < 4294967296)
    (h : (s = false ∧ B = b) ∨ (s = true ∧ b < 2147483648 ∧ B = b) ∨ (s = true ∧ 2147483648 ≤ b ∧ B = 4294967295 - b)) :
    Calls Try.prog 21 #[.int .u32 b, .bool s] w fun e w' => e = .returned (.int .i64 (cycG B 1)) ∧ w = w' := by
  obtain ⟨G, hG⟩ : ∃ G, cycG B 1 = G := ⟨_, rfl⟩
  have HG := Lib.hid hG
  rw [hG]
  clear hG
  rcases h with ⟨rfl, rfl⟩ | ⟨rfl, hb, rfl⟩ | ⟨rfl, hb, rfl⟩
  all_goals
    go_enter Try.func21, Try.ntmps21
    go_wp2
    go_loop [0, 5] (fun x m => ∃ X M : Int, x = .int .u32 X ∧ m = .int .i64 M ∧ 0 ≤ X ∧ X < 4294967296 ∧ 1 ≤ M ∧ M + X ≤ 4294967297 ∧ cycG X M = G) (fun x _ => (intOf x).toNat)
    case atStart => exact ⟨_, _, rfl, rfl, by omega, by omega, by omega, by omega, HG.out⟩
    case round =>
      obtain ⟨X, M, rfl, rfl, X0, X1, M0, M1, hM⟩ := hrel
      have HM := Lib.hid hM
      clear hM
      by_cases hx : 256 ≤ X
      · go_wp2
        go_round
        case rel => exact ⟨X / 256, M + 1, rfl, rfl, by omega, by omega, by omega, by omega, by rw [cycG_step hx X1]; exact HM.out⟩
        case measure => simp [intOf]; omega
      · go_wp2
        go_ret
        exact ⟨ret_i (by have := HM.out; unfold cycG at this; rw [if_pos (by omega)] at this; omega), rfl⟩
theorem rcyc_any (b : Int) (s : Bool) (w : World) (b0 : 0 ≤ b) (b1 : b < 4294967296) : Calls Try.prog 21 #[.int .u32 b, .bool s] w fun e w' => e = .returned (.int .i64 (cycS b s)) ∧ w = w' := by
  unfold cycS
  cases s
  · rw [if_neg (by simp)]; exact rcyc_c b b false w b0 b1 b0 b1 (.inl ⟨rfl, rfl⟩)
  · by_cases c : 2147483648 ≤ b
    · rw [if_pos ⟨rfl, c⟩]; exact rcyc_c b _ true w b0 b1 (by omega) (by omega) (.inr (.inr ⟨rfl, c, rfl⟩))
    · rw [if_neg (by simp [c])]; exact rcyc_c b b true w b0 b1 b0 b1 (.inr (.inl ⟨rfl, by omega, rfl⟩))
end Go.Proofs.Ytgpcgamhlcihkaa.Aw
