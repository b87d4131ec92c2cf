/- The document's clock, walked: Next, Pass, Add. -/
import Derived.Test.YtkgjikdkidjpjaaUa
namespace Go.Proofs.Ytkgjikdkidjpjaa.Ub
set_option linter.unusedVariables false
set_option linter.unusedSimpArgs false
open Go.RowKit Go.Proofs.Ytkgjikdkidjpjaa.Wk Go.Proofs.Ytkgjikdkidjpjaa.Sp Go.Proofs.Ytkgjikdkidjpjaa.Sa Go.Proofs.Ytkgjikdkidjpjaa.Sb Go.Proofs.Ytkgjikdkidjpjaa.Sc Go.Proofs.Ytkgjikdkidjpjaa.Sd Go.Proofs.Ytkgjikdkidjpjaa.Sk Go.Proofs.Ytkgjikdkidjpjaa.Up Go.Proofs.Ytkgjikdkidjpjaa.Ua

/-- append of what lies at an address, none at all being welcome, at a step of a region that draws. -/
theorem step_append_any {P : Program} {w : World} {ops : Array Oper} {o : Oper} {a : Act} {K : Act → World → Prop} {Q : Exit → Act → World → Prop} {E : Prop} (hgd : o.guard = none) (s x : Operand) (t : TypeId)
    (ho : o.op = .call { callee := .builtin .append, args := #[s, x], argTypes := #[t, t] })
    (base : Nat) (e : TypeId) (i : TypeInfo) (z : Value) (size bytes : Nat) (ht : P.underlying t = some (.slice e)) (hi : P.info? e = some i) (hz : i.zero = some z)
    (hsize : i.size = size) (hby : i.bytes = bytes) (hzs : z.cells.size = size) (hsz : 0 < size)
    (v : Value) (n : Nat) (xs : List Value) (hs : a.eval s = v) (hown : w.ownsRow base e size v n xs)
    (ad : Addr) (m c : Nat) (news : List Value) (hx : a.eval x = .slice (some ad) m c) (hl : news.length = m * size) (hnews : ∀ j u, news[j]? = some u → w.cell? (ad.add j) = some u) (h1 : ∀ u ∈ news, u.oneCell' = true)
    (h63 : n + m ≤ maxLen) (hbytes : (n + m) * bytes ≤ 140737488355328) (hbase : base ≤ w.heap.size) (H : Nat) (hH : w.heap.size = H)
    (h : ∀ v' w', w'.ownsRow base e size v' (n + m) (xs ++ news) → w.grownBy w' v.ownBlock → (v'.ownBlock = v.ownBlock ∨ v'.ownBlock = some H) → K (a.put o.dst v') w') :
    if Region.wanted o (yielded ops a.tmps) = true then Oper.wp P o a w K Q else E := by
  have hw : Region.wanted o (yielded ops a.tmps) = true := by simp [Region.wanted, hgd]
  rw [if_pos hw]
  obtain ⟨v', w', hr, h2, h3, _, h5⟩ := run_append_own_at (P := P) w base t o.type e i z size bytes ht hi hz hsize hby hzs hsz v n xs hown ad m c news hl hnews h1 h63 hbytes hbase
  unfold Oper.wp execOp
  simp only [ho, resolve, invoke, builtin, Sem.run_bind, Sem.run_pure, Result.andThen_ok, List.map_toArray, List.map_cons, List.map_nil, hs, hx, hr]
  exact h v' w' h2 h3 (by rw [← hH]; exact h5)
theorem rows_form {w : World} {base : Nat} {e : TypeId} {size : Nat} {v : Value} {n : Nat} {xs : List Value} (h : w.ownsRow base e size v n xs) : ∃ a c, v = .slice a n c := by
  rcases h.2 with ⟨rfl, rfl⟩ | ⟨g, cap, cur, rfl, _⟩
  · exact ⟨_, _, rfl⟩
  · exact ⟨_, _, rfl⟩
theorem info28 : (Try.prog.info? 28).map (fun i => (i.zero, i.size, i.bytes)) = some (some (.agg #[.int .i64 0, .int .i64 0]), 2, 16) := by kernel_rfl
theorem bl2 {w w' : World} (h : Below w.heap.size w w') (o : Obj) : Below w.heap.size w (w'.alloc o) := h.alloc h.size o
/-! ### Next -/
theorem mnext_none {w : World} {B mb : Nat} {now : Int} {v : Value} (h : RepM w B mb now v []) : Calls Try.prog 21 #[.pointer (some ⟨mb, 0, none⟩)] w fun e w' => e = .returned (.tuple #[.int .i64 0, .bool false]) ∧ Below w.heap.size w w' := by
  have F := first_any h
  rw [show firstGo ([] : List Ev) ([] : List Ev).length = -1 from rfl] at F
  have FH := Lib.hid F
  clear F h
  go_enter Try.func21, Try.ntmps21
  go_wp2_with fail
  refine FH.out.mono ?_
  rintro e w1 ⟨rfl, hb⟩
  have HB := Lib.hid hb
  clear hb
  go_wp2_with fail
  go_ret2
  exact ⟨rfl, HB.out⟩
theorem mnext_some {w : World} {B mb : Nat} {now : Int} {v : Value} {E : List Ev} (h : RepM w B mb now v E) (j : Nat) (hj : j < E.length) (hf : firstGo E E.length = j) :
    Calls Try.prog 21 #[.pointer (some ⟨mb, 0, none⟩)] w fun e w' => e = .returned (.tuple #[.int .i64 (at2 E j).1, .bool true]) ∧ Below w.heap.size w w' := by
  have F := first_any h
  rw [hf] at F
  have FH := Lib.hid F
  have HH := Lib.hid h
  have t : decide ((j : Int) < 0) = false := decide_eq_false (by omega)
  have e16 := h.len
  clear F h hf
  go_enter Try.func21, Try.ntmps21
  go_wp2_with fail
  refine FH.out.mono ?_
  rintro e w1 ⟨rfl, hb⟩
  have R := HH.out.below hb
  obtain ⟨g, cap, cur, rfl, hB, hg, hn, hm, hs, ht⟩ := own2_some R.own (by omega)
  have a0 := (own2_cell hg ht hj).1
  have C : w1.cell? ⟨mb, 1, none⟩ = some (.slice (some ⟨g, 0, none⟩) E.length cap) := cellsAt R.blk 1
  have HB := Lib.hid hb
  have jl : (j : Int) < (E.length : Int) := by omega
  have j0 : (0 : Int) ≤ (j : Int) := by omega
  clear hb R hg hn hm hs ht hB
  go_wp2_with fail
  go_ret2
  exact ⟨rfl, HB.out⟩
/-! ### Pass -/
theorem mpass_bad {w : World} {B mb : Nat} {now : Int} {v : Value} {E : List Ev} (h : RepM w B mb now v E) (b0 : 0 ≤ now) (b1 : now ≤ 1099511627776) (n : Int) (hn : n < 0 ∨ 1099511627776 - now < n) :
    Calls Try.prog 17 #[.pointer (some ⟨mb, 0, none⟩), .int .i64 n] w fun e w' => e = .returned (.int .i64 1) ∧ w = w' := by
  have C : w.cell? ⟨mb, 0, none⟩ = some (.int .i64 now) := cellsAt h.blk 0
  clear h
  by_cases h0 : n < 0
  · have t : decide (n < 0) = true := by simpa using h0
    go_enter Try.func17, Try.ntmps17
    go_wp2
    go_ret
    exact ⟨rfl, rfl⟩
  · have t : decide (n < 0) = false := by simpa using h0
    have h1 : 1099511627776 - now < n := by omega
    have t2 : decide (1099511627776 - now < n) = true := by simpa using h1
    go_enter Try.func17, Try.ntmps17
    go_wp2
    go_ret
    exact ⟨rfl, rfl⟩
theorem mpass_ok {w : World} {B mb : Nat} {now : Int} {v : Value} {E : List Ev} (h : RepM w B mb now v E) (b0 : 0 ≤ now) (b1 : now ≤ 1099511627776) (n : Int) (h0 : 0 ≤ n) (h1 : n ≤ 1099511627776 - now) :
    Calls Try.prog 17 #[.pointer (some ⟨mb, 0, none⟩), .int .i64 n] w fun e w' => e = .returned (.int .i64 0) ∧ RepM w' B mb (now + n) v E ∧ StepM w mb v w' v := by
  have C : w.cell? ⟨mb, 0, none⟩ = some (.int .i64 now) := cellsAt h.blk 0
  have F := freeAt h.blk 0
  have t : decide (n < 0) = false := by simpa using h0
  have t2 : decide (1099511627776 - now < n) = false := by simpa using h1
  have O := (Only.refl h.blk).set (j := 0) (.int .i64 (now + n))
  have S : RepM (w.setCell ⟨mb, 0, none⟩ (.int .i64 (now + n))) B mb (now + n) v E ∧ StepM w mb v (w.setCell ⟨mb, 0, none⟩ (.int .i64 (now + n))) v :=
    ⟨⟨O.at_, Fr.own2 (Fr.of_only O) h.own (fun g e k => h.ne (by rw [e, k])), h.ne, h.le, h.len⟩, ⟨(Fr.of_only O).mono fun k e _ => .inl e, fun g h => .inl h⟩⟩
  have SH := Lib.hid S
  clear h O S
  go_enter Try.func17, Try.ntmps17
  go_wp2
  go_ret
  exact ⟨rfl, SH.out⟩
/-! ### Add -/
theorem madd_bad (mb : Nat) (a k : Int) (hx : bad a k) (w : World) : Calls Try.prog 16 #[.pointer (some ⟨mb, 0, none⟩), .agg #[.int .i64 a, .int .i64 k]] w fun e w' => e = .returned (.int .i64 1) ∧ Below w.heap.size w w' := by
  by_cases h0 : a < 0
  · have t : decide (a < 0) = true := by simpa using h0
    clear hx
    go_enter Try.func16, Try.ntmps16
    go_wp2
    go_ret
    exact ⟨rfl, bl _ _⟩
  · have t : decide (a < 0) = false := by simpa using h0
    by_cases h1 : 2199023255552 < a
    · have t1 : decide (2199023255552 < a) = true := by simpa using h1
      clear hx
      go_enter Try.func16, Try.ntmps16
      go_wp2
      go_ret
      exact ⟨rfl, bl _ _⟩
    · have t1 : decide (2199023255552 < a) = false := by simpa using h1
      have h2 : k < 0 := by unfold bad at hx; omega
      have t2 : decide (k < 0) = true := by simpa using h2
      clear hx
      go_enter Try.func16, Try.ntmps16
      go_wp2
      go_ret
      exact ⟨rfl, bl _ _⟩
theorem madd_full {w : World} {B mb : Nat} {now : Int} {v : Value} {E : List Ev} (h : RepM w B mb now v E) (a k : Int) (hx : ¬ bad a k) (hl : 16 ≤ E.length) :
    Calls Try.prog 16 #[.pointer (some ⟨mb, 0, none⟩), .agg #[.int .i64 a, .int .i64 k]] w fun e w' => e = .returned (.int .i64 70) ∧ Below w.heap.size w w' := by
  obtain ⟨q, c, rfl⟩ := slice2_form h.own
  have C : w.cell? ⟨mb, 1, none⟩ = some (.slice q E.length c) := cellsAt h.blk 1
  have sz := sizeAt h.blk
  have b' := h.len
  obtain ⟨t0, t1, t2⟩ := not_bad hx
  have t3 : decide ((16 : Int) ≤ (E.length : Int)) = true := by simp; omega
  clear h hx
  go_enter Try.func16, Try.ntmps16
  go_wp2
  go_ret
  exact ⟨rfl, bl _ _⟩
def MEnd (w : World) (B mb : Nat) (now : Int) (v : Value) (E : List Ev) (w' : World) : Prop := ∃ v', RepM w' B mb now v' E ∧ StepM w mb v w' v'
/-- A list that was made anew is laid into the clock. -/
theorem lay_close {w w1 : World} {B mb : Nat} {now : Int} {v v' : Value} {E E' : List Ev} (R : RepM w B mb now v E) (hF : Fr (Foot mb v) w w1) (hb : w1.heap[mb]? = some (.cells #[.int .i64 now, v] 43 (0, 0)))
    (hown : own2 w1 B v' E') (hv : ∀ g, v'.ownBlock = some g → v.ownBlock = some g ∨ w.heap.size ≤ g) (hl : E'.length ≤ 16) : RepM (w1.setCell ⟨mb, 1, none⟩ v') B mb now v' E' ∧ StepM w mb v (w1.setCell ⟨mb, 1, none⟩ v') v' := by
  have hs := sizeAt R.blk
  have O := (Only.refl hb).set (j := 1) v'
  have ne : v'.ownBlock ≠ some mb := by
    intro e
    rcases hv mb e with q | q
    · exact R.ne q
    · omega
  exact ⟨⟨O.at_, Fr.own2 (Fr.of_only O) hown (fun g e k => ne (by rw [e, k])), ne, R.le, hl⟩, ⟨hF.trans (Fr.of_only O) fun k e _ => .inl e, hv⟩⟩
set_option maxHeartbeats 8000000 in
theorem madd_ok {w : World} {B mb : Nat} {now : Int} {v : Value} {E : List Ev} (h : RepM w B mb now v E) (a k : Int) (hx : ¬ bad a k) (hl : E.length < 16) :
    Calls Try.prog 16 #[.pointer (some ⟨mb, 0, none⟩), .agg #[.int .i64 a, .int .i64 k]] w fun e w' => e = .returned (.int .i64 0) ∧ MEnd w B mb now v (E ++ [(a, k)]) w' := by
  obtain ⟨i0, hi, hz0, hz1, hz2⟩ := info_parts info28
  have R1 := h.below (bl w (.cells #[.int .i64 a, .int .i64 k] 28))
  have RX := Lib.hid h
  obtain ⟨q, c, hq⟩ := slice2_form h.own
  have b' := h.len
  obtain ⟨t0, t1, t2⟩ := not_bad hx
  have t3 : decide ((16 : Int) ≤ (E.length : Int)) = false := decide_eq_false (by omega)
  have A1 := alloc_new w (.cells #[.int .i64 a, .int .i64 k] 28)
  have F1 : Fr (Foot mb v) w (w.alloc (.cells #[.int .i64 a, .int .i64 k] 28)) := Fr.of_below (bl _ _)
  have Z : w.heap.size < (w.alloc (.cells #[.int .i64 a, .int .i64 k] 28)).heap.size := by simp
  have sm : mb < w.heap.size := h.lt
  have C0 : w.cell? ⟨mb, 1, none⟩ = some (.slice q E.length c) := by rw [← hq]; exact cellsAt h.blk 1
  clear h hx
  subst hq
  have sz0 := sm
  go_enter Try.func16, Try.ntmps16
  go_wp2
  clear C0
  generalize hW : w.alloc (.cells #[.int .i64 a, .int .i64 k] 28) = W at *
  have HW := Lib.hid hW
  clear hW
  have C : W.cell? ⟨mb, 1, none⟩ = some (.slice q E.length c) := cellsAt R1.blk 1
  have Fz := freeAt R1.blk 1
  have sz := sizeAt R1.blk
  have K0 := cellsAt A1 0
  have K1 := cellsAt A1 1
  have hO : (W.alloc (.cells #[.int .i64 a, .int .i64 k] 28)).ownsRow B 28 2 (.slice q E.length c) E.length (flat2 E) := R1.own.alloc _
  have hN := alloc_new W (.cells #[.int .i64 a, .int .i64 k] 28)
  have hlt : B ≤ W.heap.size := by have := R1.le; omega
  have A2 := alloc_old (.cells #[.int .i64 a, .int .i64 k] 28) R1.blk
  have P1 := Lib.hid (cellsAt (drew_heap A2) 1)
  have P2 := Lib.hid (freeAt (drew_heap A2) 1)
  have O := Lib.hid hO
  have N := Lib.hid hN
  have R := Lib.hid R1
  have Z0 := Lib.hid hz0
  have Z1 := Lib.hid hz1
  have Z2 := Lib.hid hz2
  have HI := Lib.hid hi
  have mx : E.length + 1 ≤ maxLen := by unfold maxLen; omega
  have MX := Lib.hid mx
  have F1H := Lib.hid F1
  clear R1 A1 A2 hO hN hz0 hz1 hz2 hi mx F1
  go_region_law (refine step_append_any (by rfl) _ _ _ (by rfl) B 28 i0 _ 2 16 Try.underlying36 HI.out Z0.out Z1.out Z2.out rfl (by decide) (.slice q E.length c) E.length (flat2 E) (by rfl) (by exact O.out) ⟨W.heap.size, 0, none⟩ 1 1 [.int .i64 a, .int .i64 k] (by rfl) rfl (World.news_of_block (by exact N.out)) (by simp [Value.oneCell']) MX.out (by omega) (by simp; omega) (W.heap.size + 1) (by simp) ?_; intro v' w1 hown1 hgrow hat; obtain ⟨q', c', rfl⟩ := rows_form hown1; have S1 := (hgrow.cell_far ⟨mb, 1, none⟩ (by simp; omega) (fun e => R.out.ne e.symm)).trans P1.out; have S2 := (hgrow.frozen_far ⟨mb, 1, none⟩ (by simp; omega) (fun e => R.out.ne e.symm)).trans P2.out)
  all_goals
    go_wp2
    go_ret
    refine ⟨rfl, ?_⟩
    have f2 : Fr (fun k => some k = (Value.slice q E.length c).ownBlock) W w1 := (Fr.of_below (S := fun k => some k = (Value.slice q E.length c).ownBlock) (below_d1 (bl W _))).trans (Fr.of_grown hgrow) fun k hk _ => hk
    refine ⟨_, lay_close (E := E) RX.out (F1H.out.trans f2 fun k hk _ => .inr hk.symm) ?_ ?_ ?_ ?_⟩
    · exact own_grown (B := 0) (sb := mb) (now := now) (turn := 0) (l := []) hgrow R.out.ne (drew_heap (alloc_old _ R.out.blk))
    · unfold own2
      rw [flat2_append, List.length_append]
      exact hown1
    · intro g hg
      rcases hat with e | e
      · rw [hg] at e; exact .inl e.symm
      · rw [hg] at e; cases e; right; omega
    · simp; omega
end Go.Proofs.Ytkgjikdkidjpjaa.Ub
