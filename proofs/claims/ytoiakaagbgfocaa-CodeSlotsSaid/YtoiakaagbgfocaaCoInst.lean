/- Package code: a judge's inst: its contract, one instruction's kind at a time. -/
import Derived.Test.YtoiakaagbgfocaaCoSlot
import Derived.Test.YtoiakaagbgfocaaPCx7
namespace Go.Proofs.Ytoiakaagbgfocaa.PC
open Go.RowKit Go.Proofs.YtoiakaagbgfocaaW.PrintWords Go.Proofs.YtoiakaagbgfocaaW.PrintLast Go.Proofs.YtoiakaagbgfocaaW.PrintMore
set_option linter.unusedVariables false
set_option linter.unusedSimpArgs false

theorem C_of {W : World} {g t : Nat} {l : List Int} {cs : Array Value} (h : Blk W g cs t) (hl : l.length ≤ 1000000) (hcs : ∀ (i : Nat) (x : Int), l[i]? = some x → cs[i]? = some (.int .i64 x)) : Kd.C (Kd.int .i64) W (some ⟨g, 0, none⟩) l.length l := by
  refine ⟨rfl, by have : maxLen = 9223372036854775807 := rfl; omega, fun _ => ⟨⟨g, 0, none⟩, rfl, fun j e hj => ⟨[.int .i64 e], rfl, rfl, fun i u hu => ?_⟩⟩⟩
  match i, hu with
  | 0, hu =>
    simp at hu
    subst hu
    have h1 := h.cell j
    rw [hcs j e hj] at h1
    have h2 : (Kd.int IntKind.i64).sz = 1 := rfl
    by_cases h0 : j = 0
    · subst h0
      simpa [Addr.add, h2] using h1
    · simpa [Addr.add, h2, h0] using h1
  | i + 1, hu => simp at hu
theorem C1_of {W : World} {g t : Nat} {a : Int} (h : Blk W g #[.int .i64 a] t) : Kd.C (Kd.int .i64) W (some ⟨g, 0, none⟩) 1 [a] :=
  C_of (l := [a]) h (by simp) (fun i x hx => by
    match i, hx with
    | 0, hx => simp at hx; simp [hx]
    | i + 1, hx => simp at hx)
theorem C2_of {W : World} {g t : Nat} {a b : Int} (h : Blk W g #[.int .i64 a, .int .i64 b] t) : Kd.C (Kd.int .i64) W (some ⟨g, 0, none⟩) 2 [a, b] :=
  C_of (l := [a, b]) h (by simp) (fun i x hx => by
    match i, hx with
    | 0, hx => simp at hx; simp [hx]
    | 1, hx => simp at hx; simp [hx]
    | i + 2, hx => simp at hx)
theorem C3_of {W : World} {g t : Nat} {a b c : Int} (h : Blk W g #[.int .i64 a, .int .i64 b, .int .i64 c] t) : Kd.C (Kd.int .i64) W (some ⟨g, 0, none⟩) 3 [a, b, c] :=
  C_of (l := [a, b, c]) h (by simp) (fun i x hx => by
    match i, hx with
    | 0, hx => simp at hx; simp [hx]
    | 1, hx => simp at hx; simp [hx]
    | 2, hx => simp at hx; simp [hx]
    | i + 3, hx => simp at hx)
/-- within bounds -/
def inB (n lo hi : Int) : Bool := decide (lo ≤ n) && decide (n ≤ hi)
theorem within_b (n lo hi : Int) (w : World) : Calls Try.prog 53 #[.int .i64 n, .int .i64 lo, .int .i64 hi] w fun e w' => e = .returned (.bool (inB n lo hi)) ∧ Below w.heap.size w w' := by
  refine (code_within_int64.calls n lo hi (inB n lo hi) w ?_).mono fun e w' h => ⟨h.1, h.2.below⟩
  unfold code_within_int64.f inB
  by_cases h0 : lo ≤ n
  · rw [if_pos h0, decide_eq_true h0]
    rfl
  · rw [if_neg h0, decide_eq_false h0]
    rfl
theorem within_c (n lo hi : Int) (w : World) : Calls Try.prog 23 #[.int .i64 n, .int .i64 lo, .int .i64 hi] w fun e w' => e = .returned (.bool (inB n lo hi)) ∧ Below w.heap.size w w' := by
  refine (code_within_int.calls n lo hi (inB n lo hi) w ?_).mono fun e w' h => ⟨h.1, h.2.below⟩
  unfold code_within_int.f inB
  by_cases h0 : lo ≤ n
  · rw [if_pos h0, decide_eq_true h0]
    rfl
  · rw [if_neg h0, decide_eq_false h0]
    rfl
/-- is it a place of the code -/
def Jd.placeB (j : Jd) (n : Int) : Bool := inB n 0 (wrap64 ((j.xs.length : Int) - 1))
theorem Jd.place_calls (j : Jd) (a : Int) (w : World) (h : j.In w) : Calls Try.prog 55 #[j.val, .int .i64 a] w fun e w' => e = .returned (.bool (j.placeB a)) ∧ Below w.heap.size w w' := by
  refine code_judge_place.calls j.A0 j.c0 j.g j.A1 j.c1 j.cs j.m j.s j.p j.r j.A6 j.c6 j.xs j.A7 j.c7 j.ps a _ w h.h0 h.b0 h.h1 h.b1 h.h6 h.b6 h.h7 h.b7 ?_
  unfold code_judge_place.f code_within_int64.f Jd.placeB inB
  by_cases h0 : 0 ≤ a
  · rw [if_pos h0, decide_eq_true h0]
    rfl
  · rw [if_neg h0, decide_eq_false h0]
    rfl
theorem w64_b (n lo hi : Int) : code_within_int64.f n lo hi = some (inB n lo hi) := by
  unfold code_within_int64.f inB
  by_cases h0 : lo ≤ n
  · rw [if_pos h0, decide_eq_true h0]
    rfl
  · rw [if_neg h0, decide_eq_false h0]
    rfl
theorem wi_b (n lo hi : Int) : code_within_int.f n lo hi = some (inB n lo hi) := w64_b n lo hi
theorem row_f (j : Jd) (a n : Int) : code_judge_row.f j.g j.cs j.m j.s j.p j.r j.xs j.ps a n = some (j.rowB a n) := by
  unfold code_judge_row.f
  rw [w64_b]
  unfold inB Jd.rowB
  cases decide (0 ≤ a) <;> cases decide (a ≤ wrap64 (j.s - 1)) <;> rfl
/-- are a call's numbers right -/
def Jd.callB (j : Jd) (op a b c : Int) : Bool := inB a 0 (wrap64 ((j.cs.length : Int) - 1)) && (inB (rd_T40 j.cs a).f1 0 j.s && (j.rowB b (rd_T40 j.cs a).f1 && (inB (if op = 21 then 1 else (rd_T40 j.cs a).f2) 1 64 && j.rowB c (if op = 21 then 1 else (rd_T40 j.cs a).f2))))
theorem Jd.call_f (j : Jd) (op a b c : Int) (hcs : j.cs.length ≤ 1000000) : code_judge_call.f 2 j.g j.cs j.m j.s j.p j.r j.xs j.ps op a b c = some (j.callB op a b c) := by
  unfold code_judge_call.f Jd.callB
  simp only [code_judge_call.j0, w64_b, wi_b, row_f, Option.bind_some]
  cases h0 : inB a 0 (wrap64 ((j.cs.length : Int) - 1)) with
  | false => simp
  | true =>
    simp only [inB, Bool.and_eq_true, decide_eq_true_eq] at h0
    have w1 : wrap64 ((j.cs.length : Int) - 1) = (j.cs.length : Int) - 1 := by unfold wrap64; omega
    rw [if_pos rfl, if_pos h0.1, if_pos (by omega)]
    by_cases h21 : op = 21
    · simp only [h21, if_true]
      cases inB (rd_T40 j.cs a).f1 0 j.s <;> cases j.rowB b (rd_T40 j.cs a).f1 <;> cases inB 1 1 64 <;> cases j.rowB c 1 <;> rfl
    · simp only [h21, if_false]
      cases inB (rd_T40 j.cs a).f1 0 j.s <;> cases j.rowB b (rd_T40 j.cs a).f1 <;> cases inB (rd_T40 j.cs a).f2 1 64 <;> cases j.rowB c (rd_T40 j.cs a).f2 <;> rfl
theorem Jd.call_calls (j : Jd) (op a b c : Int) (w : World) (h : j.In w) (hcs : j.cs.length ≤ 1000000) : Calls Try.prog 56 #[j.val, .agg #[.int .i64 op, .int .i64 a, .int .i64 b, .int .i64 c]] w fun e w' => e = .returned (.bool (j.callB op a b c)) ∧ Below w.heap.size w w' :=
  code_judge_call.calls 2 j.A0 j.c0 j.g j.A1 j.c1 j.cs j.m j.s j.p j.r j.A6 j.c6 j.xs j.A7 j.c7 j.ps op a b c _ w h.h0 h.b0 h.h1 h.b1 h.h6 h.b6 h.h7 h.b7 (j.call_f op a b c hcs)
/-- what a judge's inst has laid at its first call -/
structure In3 (j : Jd) (op a b c : Int) (w W : World) : Prop where mk ::
  (b1 : Blk W w.heap.size j.cells 58) (b2 : Blk W (w.heap.size + 1) #[.int .i64 op, .int .i64 a, .int .i64 b, .int .i64 c] 42) (bel : Below w.heap.size w W)
namespace In3
variable {j : Jd} {op a b c : Int} {w W W' : World}
theorem new (j : Jd) (op a b c : Int) (w : World) : In3 j op a b c w ((w.alloc (.cells j.cells 58)).alloc (.cells #[.int .i64 op, .int .i64 a, .int .i64 b, .int .i64 c] 42)) :=
  ⟨(Blk.new w j.cells 58).alloc _, Blk.new' (by simp) _ _, below_alloc (below_alloc (Below.refl _ _) _) _⟩
theorem alloc (h : In3 j op a b c w W) (o : Obj) : In3 j op a b c w (W.alloc o) := ⟨h.b1.alloc o, h.b2.alloc o, below_alloc h.bel o⟩
theorem below (h : In3 j op a b c w W) (hb : Below W.heap.size W W') : In3 j op a b c w W' := ⟨h.b1.below hb, h.b2.below hb, below_step h.bel hb⟩
end In3
set_option maxHeartbeats 4000000 in
set_option maxRecDepth 100000 in
theorem inst_1 (j : Jd) (a b c : Int) (w : World) (h : j.In w) : Calls Try.prog 40 #[j.val, .agg #[.int .i64 1, .int .i64 a, .int .i64 b, .int .i64 c]] w fun e w' => e = .returned (.bool (([a].all fun x => j.rowB x 1) && (c == 0))) ∧ Below w.heap.size w w' := by
  have HJ := Lib.hid h
  clear h
  go_enter Try.func40, Try.ntmps40
  go_wp2_with fail
  refine at_world (fun W => In3 j 1 a b c w W ∧ Aside0 (Kd.C (Kd.int .i64) W (some ⟨w.heap.size + 1 + 1, 0, none⟩) 1 [a])) ⟨(In3.new j 1 a b c w).alloc _, ⟨C1_of (Blk.new' (by simp) _ _)⟩⟩ ?_
  rintro W0 ⟨HB, HC⟩
  refine (slot_calls j _ _ [a] (by simp) W0 (HJ.out.below rfl HB.bel) HC.out).mono ?_
  clear HC
  rintro e w0 ⟨rfl, hb⟩
  replace HB := HB.below hb
  clear hb
  obtain ⟨e0, e1, e2, e3, e4, e5, e6, e7⟩ := HB.b1.cells8
  obtain ⟨⟨d0, d1, d2, d3⟩, _⟩ := HB.b2.cells4
  cases ht0 : ([a].all fun x => j.rowB x 1) with
  | false =>
    go_wp2_with fail
    go_ret
    exact ⟨by simp [ht0], HB.bel⟩
  | true =>
    go_wp2_with fail
    go_ret
    exact ⟨by simp [ht0], HB.bel⟩
set_option maxHeartbeats 4000000 in
set_option maxRecDepth 100000 in
theorem inst_2 (j : Jd) (a b c : Int) (w : World) (h : j.In w) : Calls Try.prog 40 #[j.val, .agg #[.int .i64 2, .int .i64 a, .int .i64 b, .int .i64 c]] w fun e w' => e = .returned (.bool ([a, b, c].all fun x => j.rowB x 1)) ∧ Below w.heap.size w w' := by
  have HJ := Lib.hid h
  clear h
  go_enter Try.func40, Try.ntmps40
  go_wp2_with fail
  refine at_world (fun W => In3 j 2 a b c w W ∧ Aside0 (Kd.C (Kd.int .i64) W (some ⟨w.heap.size + 1 + 1, 0, none⟩) 3 [a, b, c])) ⟨(In3.new j 2 a b c w).alloc _, ⟨C3_of (Blk.new' (by simp) _ _)⟩⟩ ?_
  rintro W0 ⟨HB, HC⟩
  refine (slot_calls j _ _ [a, b, c] (by simp) W0 (HJ.out.below rfl HB.bel) HC.out).mono ?_
  clear HC
  rintro e w0 ⟨rfl, hb⟩
  replace HB := HB.below hb
  clear hb
  obtain ⟨e0, e1, e2, e3, e4, e5, e6, e7⟩ := HB.b1.cells8
  obtain ⟨⟨d0, d1, d2, d3⟩, _⟩ := HB.b2.cells4
  cases ht0 : ([a, b, c].all fun x => j.rowB x 1) with
  | false =>
    go_wp2_with fail
    go_ret
    exact ⟨by simp [ht0], HB.bel⟩
  | true =>
    go_wp2_with fail
    go_ret
    exact ⟨by simp [ht0], HB.bel⟩
set_option maxHeartbeats 4000000 in
set_option maxRecDepth 100000 in
theorem inst_3 (j : Jd) (a b c : Int) (w : World) (h : j.In w) : Calls Try.prog 40 #[j.val, .agg #[.int .i64 3, .int .i64 a, .int .i64 b, .int .i64 c]] w fun e w' => e = .returned (.bool ([a, b, c].all fun x => j.rowB x 1)) ∧ Below w.heap.size w w' := by
  have HJ := Lib.hid h
  clear h
  go_enter Try.func40, Try.ntmps40
  go_wp2_with fail
  refine at_world (fun W => In3 j 3 a b c w W ∧ Aside0 (Kd.C (Kd.int .i64) W (some ⟨w.heap.size + 1 + 1, 0, none⟩) 3 [a, b, c])) ⟨(In3.new j 3 a b c w).alloc _, ⟨C3_of (Blk.new' (by simp) _ _)⟩⟩ ?_
  rintro W0 ⟨HB, HC⟩
  refine (slot_calls j _ _ [a, b, c] (by simp) W0 (HJ.out.below rfl HB.bel) HC.out).mono ?_
  clear HC
  rintro e w0 ⟨rfl, hb⟩
  replace HB := HB.below hb
  clear hb
  obtain ⟨e0, e1, e2, e3, e4, e5, e6, e7⟩ := HB.b1.cells8
  obtain ⟨⟨d0, d1, d2, d3⟩, _⟩ := HB.b2.cells4
  cases ht0 : ([a, b, c].all fun x => j.rowB x 1) with
  | false =>
    go_wp2_with fail
    go_ret
    exact ⟨by simp [ht0], HB.bel⟩
  | true =>
    go_wp2_with fail
    go_ret
    exact ⟨by simp [ht0], HB.bel⟩
set_option maxHeartbeats 4000000 in
set_option maxRecDepth 100000 in
theorem inst_4 (j : Jd) (a b c : Int) (w : World) (h : j.In w) : Calls Try.prog 40 #[j.val, .agg #[.int .i64 4, .int .i64 a, .int .i64 b, .int .i64 c]] w fun e w' => e = .returned (.bool ([a, b, c].all fun x => j.rowB x 1)) ∧ Below w.heap.size w w' := by
  have HJ := Lib.hid h
  clear h
  go_enter Try.func40, Try.ntmps40
  go_wp2_with fail
  refine at_world (fun W => In3 j 4 a b c w W ∧ Aside0 (Kd.C (Kd.int .i64) W (some ⟨w.heap.size + 1 + 1, 0, none⟩) 3 [a, b, c])) ⟨(In3.new j 4 a b c w).alloc _, ⟨C3_of (Blk.new' (by simp) _ _)⟩⟩ ?_
  rintro W0 ⟨HB, HC⟩
  refine (slot_calls j _ _ [a, b, c] (by simp) W0 (HJ.out.below rfl HB.bel) HC.out).mono ?_
  clear HC
  rintro e w0 ⟨rfl, hb⟩
  replace HB := HB.below hb
  clear hb
  obtain ⟨e0, e1, e2, e3, e4, e5, e6, e7⟩ := HB.b1.cells8
  obtain ⟨⟨d0, d1, d2, d3⟩, _⟩ := HB.b2.cells4
  cases ht0 : ([a, b, c].all fun x => j.rowB x 1) with
  | false =>
    go_wp2_with fail
    go_ret
    exact ⟨by simp [ht0], HB.bel⟩
  | true =>
    go_wp2_with fail
    go_ret
    exact ⟨by simp [ht0], HB.bel⟩
set_option maxHeartbeats 4000000 in
set_option maxRecDepth 100000 in
theorem inst_5 (j : Jd) (a b c : Int) (w : World) (h : j.In w) : Calls Try.prog 40 #[j.val, .agg #[.int .i64 5, .int .i64 a, .int .i64 b, .int .i64 c]] w fun e w' => e = .returned (.bool ((inB c 1 64) && ((j.rowB a c) && (j.rowB b c)))) ∧ Below w.heap.size w w' := by
  have HJ := Lib.hid h
  clear h
  go_enter Try.func40, Try.ntmps40
  go_wp2_with fail
  refine at_world (fun W => In3 j 5 a b c w W) (In3.new j 5 a b c w) ?_
  rintro W0 HB
  refine (within_b c 1 64 _).mono ?_
  rintro e w0 ⟨rfl, hb⟩
  replace HB := HB.below hb
  clear hb
  obtain ⟨e0, e1, e2, e3, e4, e5, e6, e7⟩ := HB.b1.cells8
  obtain ⟨⟨d0, d1, d2, d3⟩, _⟩ := HB.b2.cells4
  cases ht0 : (inB c 1 64) with
  | false =>
    go_wp2_with fail
    go_ret
    exact ⟨by simp [ht0], HB.bel⟩
  | true =>
    go_wp2_with fail
    refine (j.row_calls a c _ (HJ.out.below rfl HB.bel)).mono ?_
    rintro e w1 ⟨rfl, hb⟩
    replace HB := HB.below hb
    clear hb
    clear e0 e1 e2 e3 e4 e5 e6 e7 d0 d1 d2 d3
    obtain ⟨e0, e1, e2, e3, e4, e5, e6, e7⟩ := HB.b1.cells8
    obtain ⟨⟨d0, d1, d2, d3⟩, _⟩ := HB.b2.cells4
    cases ht1 : (j.rowB a c) with
    | false =>
      go_wp2_with fail
      go_ret
      exact ⟨by simp [ht1, ht0], HB.bel⟩
    | true =>
      go_wp2_with fail
      refine (j.row_calls b c _ (HJ.out.below rfl HB.bel)).mono ?_
      rintro e w2 ⟨rfl, hb⟩
      replace HB := HB.below hb
      clear hb
      clear e0 e1 e2 e3 e4 e5 e6 e7 d0 d1 d2 d3
      obtain ⟨e0, e1, e2, e3, e4, e5, e6, e7⟩ := HB.b1.cells8
      obtain ⟨⟨d0, d1, d2, d3⟩, _⟩ := HB.b2.cells4
      cases ht2 : (j.rowB b c) with
      | false =>
        go_wp2_with fail
        go_ret
        exact ⟨by simp [ht2, ht1, ht0], HB.bel⟩
      | true =>
        go_wp2_with fail
        go_ret
        exact ⟨by simp [ht2, ht1, ht0], HB.bel⟩
set_option maxHeartbeats 4000000 in
set_option maxRecDepth 100000 in
theorem inst_6 (j : Jd) (a b c : Int) (w : World) (h : j.In w) : Calls Try.prog 40 #[j.val, .agg #[.int .i64 6, .int .i64 a, .int .i64 b, .int .i64 c]] w fun e w' => e = .returned (.bool ((inB c 1 64) && ((j.rowB a c) && (j.rowB b c)))) ∧ Below w.heap.size w w' := by
  have HJ := Lib.hid h
  clear h
  go_enter Try.func40, Try.ntmps40
  go_wp2_with fail
  refine at_world (fun W => In3 j 6 a b c w W) (In3.new j 6 a b c w) ?_
  rintro W0 HB
  refine (within_b c 1 64 _).mono ?_
  rintro e w0 ⟨rfl, hb⟩
  replace HB := HB.below hb
  clear hb
  obtain ⟨e0, e1, e2, e3, e4, e5, e6, e7⟩ := HB.b1.cells8
  obtain ⟨⟨d0, d1, d2, d3⟩, _⟩ := HB.b2.cells4
  cases ht0 : (inB c 1 64) with
  | false =>
    go_wp2_with fail
    go_ret
    exact ⟨by simp [ht0], HB.bel⟩
  | true =>
    go_wp2_with fail
    refine (j.row_calls a c _ (HJ.out.below rfl HB.bel)).mono ?_
    rintro e w1 ⟨rfl, hb⟩
    replace HB := HB.below hb
    clear hb
    clear e0 e1 e2 e3 e4 e5 e6 e7 d0 d1 d2 d3
    obtain ⟨e0, e1, e2, e3, e4, e5, e6, e7⟩ := HB.b1.cells8
    obtain ⟨⟨d0, d1, d2, d3⟩, _⟩ := HB.b2.cells4
    cases ht1 : (j.rowB a c) with
    | false =>
      go_wp2_with fail
      go_ret
      exact ⟨by simp [ht1, ht0], HB.bel⟩
    | true =>
      go_wp2_with fail
      refine (j.row_calls b c _ (HJ.out.below rfl HB.bel)).mono ?_
      rintro e w2 ⟨rfl, hb⟩
      replace HB := HB.below hb
      clear hb
      clear e0 e1 e2 e3 e4 e5 e6 e7 d0 d1 d2 d3
      obtain ⟨e0, e1, e2, e3, e4, e5, e6, e7⟩ := HB.b1.cells8
      obtain ⟨⟨d0, d1, d2, d3⟩, _⟩ := HB.b2.cells4
      cases ht2 : (j.rowB b c) with
      | false =>
        go_wp2_with fail
        go_ret
        exact ⟨by simp [ht2, ht1, ht0], HB.bel⟩
      | true =>
        go_wp2_with fail
        go_ret
        exact ⟨by simp [ht2, ht1, ht0], HB.bel⟩
set_option maxHeartbeats 4000000 in
set_option maxRecDepth 100000 in
theorem inst_7 (j : Jd) (a b c : Int) (w : World) (h : j.In w) : Calls Try.prog 40 #[j.val, .agg #[.int .i64 7, .int .i64 a, .int .i64 b, .int .i64 c]] w fun e w' => e = .returned (.bool ((inB c 1 64) && ((j.rowB a c) && ([b].all fun x => j.rowB x 1)))) ∧ Below w.heap.size w w' := by
  have HJ := Lib.hid h
  clear h
  go_enter Try.func40, Try.ntmps40
  go_wp2_with fail
  refine at_world (fun W => In3 j 7 a b c w W) (In3.new j 7 a b c w) ?_
  rintro W0 HB
  refine (within_b c 1 64 _).mono ?_
  rintro e w0 ⟨rfl, hb⟩
  replace HB := HB.below hb
  clear hb
  obtain ⟨e0, e1, e2, e3, e4, e5, e6, e7⟩ := HB.b1.cells8
  obtain ⟨⟨d0, d1, d2, d3⟩, _⟩ := HB.b2.cells4
  cases ht0 : (inB c 1 64) with
  | false =>
    go_wp2_with fail
    go_ret
    exact ⟨by simp [ht0], HB.bel⟩
  | true =>
    go_wp2_with fail
    refine (j.row_calls a c _ (HJ.out.below rfl HB.bel)).mono ?_
    rintro e w1 ⟨rfl, hb⟩
    replace HB := HB.below hb
    clear hb
    clear e0 e1 e2 e3 e4 e5 e6 e7 d0 d1 d2 d3
    obtain ⟨e0, e1, e2, e3, e4, e5, e6, e7⟩ := HB.b1.cells8
    obtain ⟨⟨d0, d1, d2, d3⟩, _⟩ := HB.b2.cells4
    cases ht1 : (j.rowB a c) with
    | false =>
      go_wp2_with fail
      go_ret
      exact ⟨by simp [ht1, ht0], HB.bel⟩
    | true =>
      go_wp2_with fail
      refine at_world (fun W => In3 j 7 a b c w W ∧ Aside0 (Kd.C (Kd.int .i64) W (some ⟨w1.heap.size, 0, none⟩) 1 [b])) ⟨HB.alloc _, ⟨C1_of (Blk.new _ _ _)⟩⟩ ?_
      clear HB e0 e1 e2 e3 e4 e5 e6 e7 d0 d1 d2 d3
      rintro W2 ⟨HB, HC⟩
      refine (slot_calls j _ _ [b] (by simp) W2 (HJ.out.below rfl HB.bel) HC.out).mono ?_
      clear HC
      rintro e w2 ⟨rfl, hb⟩
      replace HB := HB.below hb
      clear hb
      obtain ⟨e0, e1, e2, e3, e4, e5, e6, e7⟩ := HB.b1.cells8
      obtain ⟨⟨d0, d1, d2, d3⟩, _⟩ := HB.b2.cells4
      cases ht2 : ([b].all fun x => j.rowB x 1) with
      | false =>
        go_wp2_with fail
        go_ret
        exact ⟨by simp [ht2, ht1, ht0], HB.bel⟩
      | true =>
        go_wp2_with fail
        go_ret
        exact ⟨by simp [ht2, ht1, ht0], HB.bel⟩
set_option maxHeartbeats 4000000 in
set_option maxRecDepth 100000 in
theorem inst_8 (j : Jd) (a b c : Int) (w : World) (h : j.In w) : Calls Try.prog 40 #[j.val, .agg #[.int .i64 8, .int .i64 a, .int .i64 b, .int .i64 c]] w fun e w' => e = .returned (.bool ((inB c 1 64) && ((j.rowB a c) && ([b].all fun x => j.rowB x 1)))) ∧ Below w.heap.size w w' := by
  have HJ := Lib.hid h
  clear h
  go_enter Try.func40, Try.ntmps40
  go_wp2_with fail
  refine at_world (fun W => In3 j 8 a b c w W) (In3.new j 8 a b c w) ?_
  rintro W0 HB
  refine (within_b c 1 64 _).mono ?_
  rintro e w0 ⟨rfl, hb⟩
  replace HB := HB.below hb
  clear hb
  obtain ⟨e0, e1, e2, e3, e4, e5, e6, e7⟩ := HB.b1.cells8
  obtain ⟨⟨d0, d1, d2, d3⟩, _⟩ := HB.b2.cells4
  cases ht0 : (inB c 1 64) with
  | false =>
    go_wp2_with fail
    go_ret
    exact ⟨by simp [ht0], HB.bel⟩
  | true =>
    go_wp2_with fail
    refine (j.row_calls a c _ (HJ.out.below rfl HB.bel)).mono ?_
    rintro e w1 ⟨rfl, hb⟩
    replace HB := HB.below hb
    clear hb
    clear e0 e1 e2 e3 e4 e5 e6 e7 d0 d1 d2 d3
    obtain ⟨e0, e1, e2, e3, e4, e5, e6, e7⟩ := HB.b1.cells8
    obtain ⟨⟨d0, d1, d2, d3⟩, _⟩ := HB.b2.cells4
    cases ht1 : (j.rowB a c) with
    | false =>
      go_wp2_with fail
      go_ret
      exact ⟨by simp [ht1, ht0], HB.bel⟩
    | true =>
      go_wp2_with fail
      refine at_world (fun W => In3 j 8 a b c w W ∧ Aside0 (Kd.C (Kd.int .i64) W (some ⟨w1.heap.size, 0, none⟩) 1 [b])) ⟨HB.alloc _, ⟨C1_of (Blk.new _ _ _)⟩⟩ ?_
      clear HB e0 e1 e2 e3 e4 e5 e6 e7 d0 d1 d2 d3
      rintro W2 ⟨HB, HC⟩
      refine (slot_calls j _ _ [b] (by simp) W2 (HJ.out.below rfl HB.bel) HC.out).mono ?_
      clear HC
      rintro e w2 ⟨rfl, hb⟩
      replace HB := HB.below hb
      clear hb
      obtain ⟨e0, e1, e2, e3, e4, e5, e6, e7⟩ := HB.b1.cells8
      obtain ⟨⟨d0, d1, d2, d3⟩, _⟩ := HB.b2.cells4
      cases ht2 : ([b].all fun x => j.rowB x 1) with
      | false =>
        go_wp2_with fail
        go_ret
        exact ⟨by simp [ht2, ht1, ht0], HB.bel⟩
      | true =>
        go_wp2_with fail
        go_ret
        exact ⟨by simp [ht2, ht1, ht0], HB.bel⟩
set_option maxHeartbeats 4000000 in
set_option maxRecDepth 100000 in
theorem inst_9 (j : Jd) (a b c : Int) (w : World) (h : j.In w) : Calls Try.prog 40 #[j.val, .agg #[.int .i64 9, .int .i64 a, .int .i64 b, .int .i64 c]] w fun e w' => e = .returned (.bool ((inB c 1 64) && ((j.rowB a c) && ([b].all fun x => j.rowB x 1)))) ∧ Below w.heap.size w w' := by
  have HJ := Lib.hid h
  clear h
  go_enter Try.func40, Try.ntmps40
  go_wp2_with fail
  refine at_world (fun W => In3 j 9 a b c w W) (In3.new j 9 a b c w) ?_
  rintro W0 HB
  refine (within_b c 1 64 _).mono ?_
  rintro e w0 ⟨rfl, hb⟩
  replace HB := HB.below hb
  clear hb
  obtain ⟨e0, e1, e2, e3, e4, e5, e6, e7⟩ := HB.b1.cells8
  obtain ⟨⟨d0, d1, d2, d3⟩, _⟩ := HB.b2.cells4
  cases ht0 : (inB c 1 64) with
  | false =>
    go_wp2_with fail
    go_ret
    exact ⟨by simp [ht0], HB.bel⟩
  | true =>
    go_wp2_with fail
    refine (j.row_calls a c _ (HJ.out.below rfl HB.bel)).mono ?_
    rintro e w1 ⟨rfl, hb⟩
    replace HB := HB.below hb
    clear hb
    clear e0 e1 e2 e3 e4 e5 e6 e7 d0 d1 d2 d3
    obtain ⟨e0, e1, e2, e3, e4, e5, e6, e7⟩ := HB.b1.cells8
    obtain ⟨⟨d0, d1, d2, d3⟩, _⟩ := HB.b2.cells4
    cases ht1 : (j.rowB a c) with
    | false =>
      go_wp2_with fail
      go_ret
      exact ⟨by simp [ht1, ht0], HB.bel⟩
    | true =>
      go_wp2_with fail
      refine at_world (fun W => In3 j 9 a b c w W ∧ Aside0 (Kd.C (Kd.int .i64) W (some ⟨w1.heap.size, 0, none⟩) 1 [b])) ⟨HB.alloc _, ⟨C1_of (Blk.new _ _ _)⟩⟩ ?_
      clear HB e0 e1 e2 e3 e4 e5 e6 e7 d0 d1 d2 d3
      rintro W2 ⟨HB, HC⟩
      refine (slot_calls j _ _ [b] (by simp) W2 (HJ.out.below rfl HB.bel) HC.out).mono ?_
      clear HC
      rintro e w2 ⟨rfl, hb⟩
      replace HB := HB.below hb
      clear hb
      obtain ⟨e0, e1, e2, e3, e4, e5, e6, e7⟩ := HB.b1.cells8
      obtain ⟨⟨d0, d1, d2, d3⟩, _⟩ := HB.b2.cells4
      cases ht2 : ([b].all fun x => j.rowB x 1) with
      | false =>
        go_wp2_with fail
        go_ret
        exact ⟨by simp [ht2, ht1, ht0], HB.bel⟩
      | true =>
        go_wp2_with fail
        go_ret
        exact ⟨by simp [ht2, ht1, ht0], HB.bel⟩
set_option maxHeartbeats 4000000 in
set_option maxRecDepth 100000 in
theorem inst_10 (j : Jd) (a b c : Int) (w : World) (h : j.In w) : Calls Try.prog 40 #[j.val, .agg #[.int .i64 10, .int .i64 a, .int .i64 b, .int .i64 c]] w fun e w' => e = .returned (.bool (([a, b].all fun x => j.rowB x 1) && (c == 0))) ∧ Below w.heap.size w w' := by
  have HJ := Lib.hid h
  clear h
  go_enter Try.func40, Try.ntmps40
  go_wp2_with fail
  refine at_world (fun W => In3 j 10 a b c w W ∧ Aside0 (Kd.C (Kd.int .i64) W (some ⟨w.heap.size + 1 + 1, 0, none⟩) 2 [a, b])) ⟨(In3.new j 10 a b c w).alloc _, ⟨C2_of (Blk.new' (by simp) _ _)⟩⟩ ?_
  rintro W0 ⟨HB, HC⟩
  refine (slot_calls j _ _ [a, b] (by simp) W0 (HJ.out.below rfl HB.bel) HC.out).mono ?_
  clear HC
  rintro e w0 ⟨rfl, hb⟩
  replace HB := HB.below hb
  clear hb
  obtain ⟨e0, e1, e2, e3, e4, e5, e6, e7⟩ := HB.b1.cells8
  obtain ⟨⟨d0, d1, d2, d3⟩, _⟩ := HB.b2.cells4
  cases ht0 : ([a, b].all fun x => j.rowB x 1) with
  | false =>
    go_wp2_with fail
    go_ret
    exact ⟨by simp [ht0], HB.bel⟩
  | true =>
    go_wp2_with fail
    go_ret
    exact ⟨by simp [ht0], HB.bel⟩
set_option maxHeartbeats 4000000 in
set_option maxRecDepth 100000 in
theorem inst_11 (j : Jd) (a b c : Int) (w : World) (h : j.In w) : Calls Try.prog 40 #[j.val, .agg #[.int .i64 11, .int .i64 a, .int .i64 b, .int .i64 c]] w fun e w' => e = .returned (.bool (([a, b].all fun x => j.rowB x 1) && (inB c 0 4094))) ∧ Below w.heap.size w w' := by
  have HJ := Lib.hid h
  clear h
  go_enter Try.func40, Try.ntmps40
  go_wp2_with fail
  refine at_world (fun W => In3 j 11 a b c w W ∧ Aside0 (Kd.C (Kd.int .i64) W (some ⟨w.heap.size + 1 + 1, 0, none⟩) 2 [a, b])) ⟨(In3.new j 11 a b c w).alloc _, ⟨C2_of (Blk.new' (by simp) _ _)⟩⟩ ?_
  rintro W0 ⟨HB, HC⟩
  refine (slot_calls j _ _ [a, b] (by simp) W0 (HJ.out.below rfl HB.bel) HC.out).mono ?_
  clear HC
  rintro e w0 ⟨rfl, hb⟩
  replace HB := HB.below hb
  clear hb
  obtain ⟨e0, e1, e2, e3, e4, e5, e6, e7⟩ := HB.b1.cells8
  obtain ⟨⟨d0, d1, d2, d3⟩, _⟩ := HB.b2.cells4
  cases ht0 : ([a, b].all fun x => j.rowB x 1) with
  | false =>
    go_wp2_with fail
    go_ret
    exact ⟨by simp [ht0], HB.bel⟩
  | true =>
    go_wp2_with fail
    refine (within_b c 0 4094 _).mono ?_
    rintro e w1 ⟨rfl, hb⟩
    replace HB := HB.below hb
    clear hb
    clear e0 e1 e2 e3 e4 e5 e6 e7 d0 d1 d2 d3
    obtain ⟨e0, e1, e2, e3, e4, e5, e6, e7⟩ := HB.b1.cells8
    obtain ⟨⟨d0, d1, d2, d3⟩, _⟩ := HB.b2.cells4
    cases ht1 : (inB c 0 4094) with
    | false =>
      go_wp2_with fail
      go_ret
      exact ⟨by simp [ht1, ht0], HB.bel⟩
    | true =>
      go_wp2_with fail
      go_ret
      exact ⟨by simp [ht1, ht0], HB.bel⟩
set_option maxHeartbeats 4000000 in
set_option maxRecDepth 100000 in
theorem inst_12 (j : Jd) (a b c : Int) (w : World) (h : j.In w) : Calls Try.prog 40 #[j.val, .agg #[.int .i64 12, .int .i64 a, .int .i64 b, .int .i64 c]] w fun e w' => e = .returned (.bool (([a].all fun x => j.rowB x 1) && ((inB b 1 64) && (c == 0)))) ∧ Below w.heap.size w w' := by
  have HJ := Lib.hid h
  clear h
  go_enter Try.func40, Try.ntmps40
  go_wp2_with fail
  refine at_world (fun W => In3 j 12 a b c w W ∧ Aside0 (Kd.C (Kd.int .i64) W (some ⟨w.heap.size + 1 + 1, 0, none⟩) 1 [a])) ⟨(In3.new j 12 a b c w).alloc _, ⟨C1_of (Blk.new' (by simp) _ _)⟩⟩ ?_
  rintro W0 ⟨HB, HC⟩
  refine (slot_calls j _ _ [a] (by simp) W0 (HJ.out.below rfl HB.bel) HC.out).mono ?_
  clear HC
  rintro e w0 ⟨rfl, hb⟩
  replace HB := HB.below hb
  clear hb
  obtain ⟨e0, e1, e2, e3, e4, e5, e6, e7⟩ := HB.b1.cells8
  obtain ⟨⟨d0, d1, d2, d3⟩, _⟩ := HB.b2.cells4
  cases ht0 : ([a].all fun x => j.rowB x 1) with
  | false =>
    go_wp2_with fail
    go_ret
    exact ⟨by simp [ht0], HB.bel⟩
  | true =>
    go_wp2_with fail
    refine (within_b b 1 64 _).mono ?_
    rintro e w1 ⟨rfl, hb⟩
    replace HB := HB.below hb
    clear hb
    clear e0 e1 e2 e3 e4 e5 e6 e7 d0 d1 d2 d3
    obtain ⟨e0, e1, e2, e3, e4, e5, e6, e7⟩ := HB.b1.cells8
    obtain ⟨⟨d0, d1, d2, d3⟩, _⟩ := HB.b2.cells4
    cases ht1 : (inB b 1 64) with
    | false =>
      go_wp2_with fail
      go_ret
      exact ⟨by simp [ht1, ht0], HB.bel⟩
    | true =>
      go_wp2_with fail
      go_ret
      exact ⟨by simp [ht1, ht0], HB.bel⟩
set_option maxHeartbeats 4000000 in
set_option maxRecDepth 100000 in
theorem inst_14 (j : Jd) (a b c : Int) (w : World) (h : j.In w) : Calls Try.prog 40 #[j.val, .agg #[.int .i64 14, .int .i64 a, .int .i64 b, .int .i64 c]] w fun e w' => e = .returned (.bool (([a].all fun x => j.rowB x 1) && ((inB b 0 (wrap64 ((j.g.length : Int) - 1))) && (c == 0)))) ∧ Below w.heap.size w w' := by
  have HJ := Lib.hid h
  clear h
  go_enter Try.func40, Try.ntmps40
  go_wp2_with fail
  refine at_world (fun W => In3 j 14 a b c w W ∧ Aside0 (Kd.C (Kd.int .i64) W (some ⟨w.heap.size + 1 + 1, 0, none⟩) 1 [a])) ⟨(In3.new j 14 a b c w).alloc _, ⟨C1_of (Blk.new' (by simp) _ _)⟩⟩ ?_
  rintro W0 ⟨HB, HC⟩
  refine (slot_calls j _ _ [a] (by simp) W0 (HJ.out.below rfl HB.bel) HC.out).mono ?_
  clear HC
  rintro e w0 ⟨rfl, hb⟩
  replace HB := HB.below hb
  clear hb
  obtain ⟨e0, e1, e2, e3, e4, e5, e6, e7⟩ := HB.b1.cells8
  obtain ⟨⟨d0, d1, d2, d3⟩, _⟩ := HB.b2.cells4
  cases ht0 : ([a].all fun x => j.rowB x 1) with
  | false =>
    go_wp2_with fail
    go_ret
    exact ⟨by simp [ht0], HB.bel⟩
  | true =>
    go_wp2_with fail
    refine (within_b b 0 (wrap64 ((j.g.length : Int) - 1)) _).mono ?_
    rintro e w1 ⟨rfl, hb⟩
    replace HB := HB.below hb
    clear hb
    clear e0 e1 e2 e3 e4 e5 e6 e7 d0 d1 d2 d3
    obtain ⟨e0, e1, e2, e3, e4, e5, e6, e7⟩ := HB.b1.cells8
    obtain ⟨⟨d0, d1, d2, d3⟩, _⟩ := HB.b2.cells4
    cases ht1 : (inB b 0 (wrap64 ((j.g.length : Int) - 1))) with
    | false =>
      go_wp2_with fail
      go_ret
      exact ⟨by simp [ht1, ht0], HB.bel⟩
    | true =>
      go_wp2_with fail
      go_ret
      exact ⟨by simp [ht1, ht0], HB.bel⟩
set_option maxHeartbeats 4000000 in
set_option maxRecDepth 100000 in
theorem inst_17 (j : Jd) (a b c : Int) (w : World) (h : j.In w) : Calls Try.prog 40 #[j.val, .agg #[.int .i64 17, .int .i64 a, .int .i64 b, .int .i64 c]] w fun e w' => e = .returned (.bool (([a].all fun x => j.rowB x 1) && ((j.placeB b) && (c == 0)))) ∧ Below w.heap.size w w' := by
  have HJ := Lib.hid h
  clear h
  go_enter Try.func40, Try.ntmps40
  go_wp2_with fail
  refine at_world (fun W => In3 j 17 a b c w W ∧ Aside0 (Kd.C (Kd.int .i64) W (some ⟨w.heap.size + 1 + 1, 0, none⟩) 1 [a])) ⟨(In3.new j 17 a b c w).alloc _, ⟨C1_of (Blk.new' (by simp) _ _)⟩⟩ ?_
  rintro W0 ⟨HB, HC⟩
  refine (slot_calls j _ _ [a] (by simp) W0 (HJ.out.below rfl HB.bel) HC.out).mono ?_
  clear HC
  rintro e w0 ⟨rfl, hb⟩
  replace HB := HB.below hb
  clear hb
  obtain ⟨e0, e1, e2, e3, e4, e5, e6, e7⟩ := HB.b1.cells8
  obtain ⟨⟨d0, d1, d2, d3⟩, _⟩ := HB.b2.cells4
  cases ht0 : ([a].all fun x => j.rowB x 1) with
  | false =>
    go_wp2_with fail
    go_ret
    exact ⟨by simp [ht0], HB.bel⟩
  | true =>
    go_wp2_with fail
    refine (j.place_calls b _ (HJ.out.below rfl HB.bel)).mono ?_
    rintro e w1 ⟨rfl, hb⟩
    replace HB := HB.below hb
    clear hb
    clear e0 e1 e2 e3 e4 e5 e6 e7 d0 d1 d2 d3
    obtain ⟨e0, e1, e2, e3, e4, e5, e6, e7⟩ := HB.b1.cells8
    obtain ⟨⟨d0, d1, d2, d3⟩, _⟩ := HB.b2.cells4
    cases ht1 : (j.placeB b) with
    | false =>
      go_wp2_with fail
      go_ret
      exact ⟨by simp [ht1, ht0], HB.bel⟩
    | true =>
      go_wp2_with fail
      go_ret
      exact ⟨by simp [ht1, ht0], HB.bel⟩
set_option maxHeartbeats 4000000 in
set_option maxRecDepth 100000 in
theorem inst_18 (j : Jd) (a b c : Int) (w : World) (h : j.In w) : Calls Try.prog 40 #[j.val, .agg #[.int .i64 18, .int .i64 a, .int .i64 b, .int .i64 c]] w fun e w' => e = .returned (.bool (([a].all fun x => j.rowB x 1) && (j.placeB c))) ∧ Below w.heap.size w w' := by
  have HJ := Lib.hid h
  clear h
  go_enter Try.func40, Try.ntmps40
  go_wp2_with fail
  refine at_world (fun W => In3 j 18 a b c w W ∧ Aside0 (Kd.C (Kd.int .i64) W (some ⟨w.heap.size + 1 + 1, 0, none⟩) 1 [a])) ⟨(In3.new j 18 a b c w).alloc _, ⟨C1_of (Blk.new' (by simp) _ _)⟩⟩ ?_
  rintro W0 ⟨HB, HC⟩
  refine (slot_calls j _ _ [a] (by simp) W0 (HJ.out.below rfl HB.bel) HC.out).mono ?_
  clear HC
  rintro e w0 ⟨rfl, hb⟩
  replace HB := HB.below hb
  clear hb
  obtain ⟨e0, e1, e2, e3, e4, e5, e6, e7⟩ := HB.b1.cells8
  obtain ⟨⟨d0, d1, d2, d3⟩, _⟩ := HB.b2.cells4
  cases ht0 : ([a].all fun x => j.rowB x 1) with
  | false =>
    go_wp2_with fail
    go_ret
    exact ⟨by simp [ht0], HB.bel⟩
  | true =>
    go_wp2_with fail
    refine (j.place_calls c _ (HJ.out.below rfl HB.bel)).mono ?_
    rintro e w1 ⟨rfl, hb⟩
    replace HB := HB.below hb
    clear hb
    clear e0 e1 e2 e3 e4 e5 e6 e7 d0 d1 d2 d3
    obtain ⟨e0, e1, e2, e3, e4, e5, e6, e7⟩ := HB.b1.cells8
    obtain ⟨⟨d0, d1, d2, d3⟩, _⟩ := HB.b2.cells4
    cases ht1 : (j.placeB c) with
    | false =>
      go_wp2_with fail
      go_ret
      exact ⟨by simp [ht1, ht0], HB.bel⟩
    | true =>
      go_wp2_with fail
      go_ret
      exact ⟨by simp [ht1, ht0], HB.bel⟩
set_option maxHeartbeats 4000000 in
set_option maxRecDepth 100000 in
theorem inst_20 (j : Jd) (a b c : Int) (hcs : j.cs.length ≤ 1000000) (w : World) (h : j.In w) : Calls Try.prog 40 #[j.val, .agg #[.int .i64 20, .int .i64 a, .int .i64 b, .int .i64 c]] w fun e w' => e = .returned (.bool (j.callB 20 a b c)) ∧ Below w.heap.size w w' := by
  have HJ := Lib.hid h
  clear h
  have HCS := Lib.hid hcs
  clear hcs
  go_enter Try.func40, Try.ntmps40
  go_wp2_with fail
  refine at_world (fun W => In3 j 20 a b c w W) (In3.new j 20 a b c w) ?_
  rintro W0 HB
  refine (j.call_calls 20 a b c _ (HJ.out.below rfl HB.bel) HCS.out).mono ?_
  rintro e w0 ⟨rfl, hb⟩
  replace HB := HB.below hb
  clear hb
  obtain ⟨e0, e1, e2, e3, e4, e5, e6, e7⟩ := HB.b1.cells8
  obtain ⟨⟨d0, d1, d2, d3⟩, _⟩ := HB.b2.cells4
  cases ht0 : (j.callB 20 a b c) with
  | false =>
    go_wp2_with fail
    go_ret
    exact ⟨by simp [ht0], HB.bel⟩
  | true =>
    go_wp2_with fail
    go_ret
    exact ⟨by simp [ht0], HB.bel⟩
set_option maxHeartbeats 4000000 in
set_option maxRecDepth 100000 in
theorem inst_21 (j : Jd) (a b c : Int) (hcs : j.cs.length ≤ 1000000) (w : World) (h : j.In w) : Calls Try.prog 40 #[j.val, .agg #[.int .i64 21, .int .i64 a, .int .i64 b, .int .i64 c]] w fun e w' => e = .returned (.bool (j.callB 21 a b c)) ∧ Below w.heap.size w w' := by
  have HJ := Lib.hid h
  clear h
  have HCS := Lib.hid hcs
  clear hcs
  go_enter Try.func40, Try.ntmps40
  go_wp2_with fail
  refine at_world (fun W => In3 j 21 a b c w W) (In3.new j 21 a b c w) ?_
  rintro W0 HB
  refine (j.call_calls 21 a b c _ (HJ.out.below rfl HB.bel) HCS.out).mono ?_
  rintro e w0 ⟨rfl, hb⟩
  replace HB := HB.below hb
  clear hb
  obtain ⟨e0, e1, e2, e3, e4, e5, e6, e7⟩ := HB.b1.cells8
  obtain ⟨⟨d0, d1, d2, d3⟩, _⟩ := HB.b2.cells4
  cases ht0 : (j.callB 21 a b c) with
  | false =>
    go_wp2_with fail
    go_ret
    exact ⟨by simp [ht0], HB.bel⟩
  | true =>
    go_wp2_with fail
    go_ret
    exact ⟨by simp [ht0], HB.bel⟩
set_option maxHeartbeats 4000000 in
set_option maxRecDepth 100000 in
theorem inst_13 (j : Jd) (a b c : Int) (w : World) (h : j.In w) : Calls Try.prog 40 #[j.val, .agg #[.int .i64 13, .int .i64 a, .int .i64 b, .int .i64 c]] w fun e w' => e = .returned (.bool ((b == 0) && ((c == 0) && ([a].all fun x => j.rowB x 1)))) ∧ Below w.heap.size w w' := by
  have HJ := Lib.hid h
  clear h
  cases hb0 : (b == 0) with
  | false =>
    have hb1 : (b != 0) = true := by simp [bne, hb0]
    go_enter Try.func40, Try.ntmps40
    go_wp2_with fail
    go_ret
    exact ⟨by simp, (In3.new j 13 a b c w).bel⟩
  | true =>
    have hb1 : (b != 0) = false := by simp [bne, hb0]
    cases hc0 : (c == 0) with
    | false =>
      have hc1 : (c != 0) = true := by simp [bne, hc0]
      go_enter Try.func40, Try.ntmps40
      go_wp2_with fail
      go_ret
      exact ⟨by simp, (In3.new j 13 a b c w).bel⟩
    | true =>
      have hc1 : (c != 0) = false := by simp [bne, hc0]
      go_enter Try.func40, Try.ntmps40
      go_wp2_with fail
      refine at_world (fun W => In3 j 13 a b c w W ∧ Aside0 (Kd.C (Kd.int .i64) W (some ⟨w.heap.size + 1 + 1, 0, none⟩) 1 [a])) ⟨(In3.new j 13 a b c w).alloc _, ⟨C1_of (Blk.new' (by simp) _ _)⟩⟩ ?_
      rintro W0 ⟨HB, HC⟩
      refine (slot_calls j _ _ [a] (by simp) W0 (HJ.out.below rfl HB.bel) HC.out).mono ?_
      clear HC
      rintro e w0 ⟨rfl, hb⟩
      replace HB := HB.below hb
      clear hb
      obtain ⟨e0, e1, e2, e3, e4, e5, e6, e7⟩ := HB.b1.cells8
      obtain ⟨⟨d0, d1, d2, d3⟩, _⟩ := HB.b2.cells4
      cases ht0 : ([a].all fun x => j.rowB x 1) with
      | false =>
        go_wp2_with fail
        go_ret
        exact ⟨by simp [ht0], HB.bel⟩
      | true =>
        go_wp2_with fail
        go_ret
        exact ⟨by simp [ht0], HB.bel⟩
set_option maxHeartbeats 4000000 in
set_option maxRecDepth 100000 in
theorem inst_15 (j : Jd) (a b c : Int) (w : World) (h : j.In w) : Calls Try.prog 40 #[j.val, .agg #[.int .i64 15, .int .i64 a, .int .i64 b, .int .i64 c]] w fun e w' => e = .returned (.bool ((b == 0) && ((c == 0) && ([a].all fun x => j.rowB x 1)))) ∧ Below w.heap.size w w' := by
  have HJ := Lib.hid h
  clear h
  cases hb0 : (b == 0) with
  | false =>
    have hb1 : (b != 0) = true := by simp [bne, hb0]
    go_enter Try.func40, Try.ntmps40
    go_wp2_with fail
    go_ret
    exact ⟨by simp, (In3.new j 15 a b c w).bel⟩
  | true =>
    have hb1 : (b != 0) = false := by simp [bne, hb0]
    cases hc0 : (c == 0) with
    | false =>
      have hc1 : (c != 0) = true := by simp [bne, hc0]
      go_enter Try.func40, Try.ntmps40
      go_wp2_with fail
      go_ret
      exact ⟨by simp, (In3.new j 15 a b c w).bel⟩
    | true =>
      have hc1 : (c != 0) = false := by simp [bne, hc0]
      go_enter Try.func40, Try.ntmps40
      go_wp2_with fail
      refine at_world (fun W => In3 j 15 a b c w W ∧ Aside0 (Kd.C (Kd.int .i64) W (some ⟨w.heap.size + 1 + 1, 0, none⟩) 1 [a])) ⟨(In3.new j 15 a b c w).alloc _, ⟨C1_of (Blk.new' (by simp) _ _)⟩⟩ ?_
      rintro W0 ⟨HB, HC⟩
      refine (slot_calls j _ _ [a] (by simp) W0 (HJ.out.below rfl HB.bel) HC.out).mono ?_
      clear HC
      rintro e w0 ⟨rfl, hb⟩
      replace HB := HB.below hb
      clear hb
      obtain ⟨e0, e1, e2, e3, e4, e5, e6, e7⟩ := HB.b1.cells8
      obtain ⟨⟨d0, d1, d2, d3⟩, _⟩ := HB.b2.cells4
      cases ht0 : ([a].all fun x => j.rowB x 1) with
      | false =>
        go_wp2_with fail
        go_ret
        exact ⟨by simp [ht0], HB.bel⟩
      | true =>
        go_wp2_with fail
        go_ret
        exact ⟨by simp [ht0], HB.bel⟩
set_option maxHeartbeats 4000000 in
set_option maxRecDepth 100000 in
theorem inst_16 (j : Jd) (a b c : Int) (w : World) (h : j.In w) : Calls Try.prog 40 #[j.val, .agg #[.int .i64 16, .int .i64 a, .int .i64 b, .int .i64 c]] w fun e w' => e = .returned (.bool ((b == 0) && ((c == 0) && (j.placeB a)))) ∧ Below w.heap.size w w' := by
  have HJ := Lib.hid h
  clear h
  cases hb0 : (b == 0) with
  | false =>
    have hb1 : (b != 0) = true := by simp [bne, hb0]
    go_enter Try.func40, Try.ntmps40
    go_wp2_with fail
    go_ret
    exact ⟨by simp, (In3.new j 16 a b c w).bel⟩
  | true =>
    have hb1 : (b != 0) = false := by simp [bne, hb0]
    cases hc0 : (c == 0) with
    | false =>
      have hc1 : (c != 0) = true := by simp [bne, hc0]
      go_enter Try.func40, Try.ntmps40
      go_wp2_with fail
      go_ret
      exact ⟨by simp, (In3.new j 16 a b c w).bel⟩
    | true =>
      have hc1 : (c != 0) = false := by simp [bne, hc0]
      go_enter Try.func40, Try.ntmps40
      go_wp2_with fail
      refine at_world (fun W => In3 j 16 a b c w W) (In3.new j 16 a b c w) ?_
      rintro W0 HB
      refine (j.place_calls a _ (HJ.out.below rfl HB.bel)).mono ?_
      rintro e w0 ⟨rfl, hb⟩
      replace HB := HB.below hb
      clear hb
      obtain ⟨e0, e1, e2, e3, e4, e5, e6, e7⟩ := HB.b1.cells8
      obtain ⟨⟨d0, d1, d2, d3⟩, _⟩ := HB.b2.cells4
      cases ht0 : (j.placeB a) with
      | false =>
        go_wp2_with fail
        go_ret
        exact ⟨by simp [ht0], HB.bel⟩
      | true =>
        go_wp2_with fail
        go_ret
        exact ⟨by simp [ht0], HB.bel⟩
set_option maxHeartbeats 4000000 in
set_option maxRecDepth 100000 in
theorem inst_19 (j : Jd) (a b c : Int) (w : World) (h : j.In w) : Calls Try.prog 40 #[j.val, .agg #[.int .i64 19, .int .i64 a, .int .i64 b, .int .i64 c]] w fun e w' => e = .returned (.bool ((b == 0) && ((c == 0) && (a == 0)))) ∧ Below w.heap.size w w' := by
  have HJ := Lib.hid h
  clear h
  cases hb0 : (b == 0) with
  | false =>
    have hb1 : (b != 0) = true := by simp [bne, hb0]
    go_enter Try.func40, Try.ntmps40
    go_wp2_with fail
    go_ret
    exact ⟨by simp, (In3.new j 19 a b c w).bel⟩
  | true =>
    have hb1 : (b != 0) = false := by simp [bne, hb0]
    cases hc0 : (c == 0) with
    | false =>
      have hc1 : (c != 0) = true := by simp [bne, hc0]
      go_enter Try.func40, Try.ntmps40
      go_wp2_with fail
      go_ret
      exact ⟨by simp, (In3.new j 19 a b c w).bel⟩
    | true =>
      have hc1 : (c != 0) = false := by simp [bne, hc0]
      go_enter Try.func40, Try.ntmps40
      go_wp2_with fail
      go_ret
      exact ⟨by simp, (In3.new j 19 a b c w).bel⟩
set_option maxHeartbeats 4000000 in
set_option maxRecDepth 100000 in
theorem inst_23 (j : Jd) (a b c : Int) (w : World) (h : j.In w) : Calls Try.prog 40 #[j.val, .agg #[.int .i64 23, .int .i64 a, .int .i64 b, .int .i64 c]] w fun e w' => e = .returned (.bool ((b == 0) && ((c == 0) && (a == 0)))) ∧ Below w.heap.size w w' := by
  have HJ := Lib.hid h
  clear h
  cases hb0 : (b == 0) with
  | false =>
    have hb1 : (b != 0) = true := by simp [bne, hb0]
    go_enter Try.func40, Try.ntmps40
    go_wp2_with fail
    go_ret
    exact ⟨by simp, (In3.new j 23 a b c w).bel⟩
  | true =>
    have hb1 : (b != 0) = false := by simp [bne, hb0]
    cases hc0 : (c == 0) with
    | false =>
      have hc1 : (c != 0) = true := by simp [bne, hc0]
      go_enter Try.func40, Try.ntmps40
      go_wp2_with fail
      go_ret
      exact ⟨by simp, (In3.new j 23 a b c w).bel⟩
    | true =>
      have hc1 : (c != 0) = false := by simp [bne, hc0]
      go_enter Try.func40, Try.ntmps40
      go_wp2_with fail
      go_ret
      exact ⟨by simp, (In3.new j 23 a b c w).bel⟩
set_option maxHeartbeats 4000000 in
set_option maxRecDepth 100000 in
theorem inst_22 (j : Jd) (a b c : Int) (w : World) (h : j.In w) : Calls Try.prog 40 #[j.val, .agg #[.int .i64 22, .int .i64 a, .int .i64 b, .int .i64 c]] w fun e w' => e = .returned (.bool ((b == 0) && ((c == 0) && ((inB j.r 1 64) && (j.rowB a j.r))))) ∧ Below w.heap.size w w' := by
  have HJ := Lib.hid h
  clear h
  cases hb0 : (b == 0) with
  | false =>
    have hb1 : (b != 0) = true := by simp [bne, hb0]
    go_enter Try.func40, Try.ntmps40
    go_wp2_with fail
    go_ret
    exact ⟨by simp, (In3.new j 22 a b c w).bel⟩
  | true =>
    have hb1 : (b != 0) = false := by simp [bne, hb0]
    cases hc0 : (c == 0) with
    | false =>
      have hc1 : (c != 0) = true := by simp [bne, hc0]
      go_enter Try.func40, Try.ntmps40
      go_wp2_with fail
      go_ret
      exact ⟨by simp, (In3.new j 22 a b c w).bel⟩
    | true =>
      have hc1 : (c != 0) = false := by simp [bne, hc0]
      go_enter Try.func40, Try.ntmps40
      go_wp2_with fail
      refine at_world (fun W => In3 j 22 a b c w W) (In3.new j 22 a b c w) ?_
      rintro W0 HB
      refine (within_c j.r 1 64 _).mono ?_
      rintro e w0 ⟨rfl, hb⟩
      replace HB := HB.below hb
      clear hb
      obtain ⟨e0, e1, e2, e3, e4, e5, e6, e7⟩ := HB.b1.cells8
      obtain ⟨⟨d0, d1, d2, d3⟩, _⟩ := HB.b2.cells4
      cases ht0 : (inB j.r 1 64) with
      | false =>
        go_wp2_with fail
        go_ret
        exact ⟨by simp [ht0], HB.bel⟩
      | true =>
        go_wp2_with fail
        refine (j.row_calls a j.r _ (HJ.out.below rfl HB.bel)).mono ?_
        rintro e w1 ⟨rfl, hb⟩
        replace HB := HB.below hb
        clear hb
        clear e0 e1 e2 e3 e4 e5 e6 e7 d0 d1 d2 d3
        obtain ⟨e0, e1, e2, e3, e4, e5, e6, e7⟩ := HB.b1.cells8
        obtain ⟨⟨d0, d1, d2, d3⟩, _⟩ := HB.b2.cells4
        cases ht1 : (j.rowB a j.r) with
        | false =>
          go_wp2_with fail
          go_ret
          exact ⟨by simp [ht1, ht0], HB.bel⟩
        | true =>
          go_wp2_with fail
          go_ret
          exact ⟨by simp [ht1, ht0], HB.bel⟩
set_option maxHeartbeats 4000000 in
set_option maxRecDepth 100000 in
theorem inst_else (j : Jd) (op a b c : Int) (w : World) (n1 : op ≠ 1) (n2 : op ≠ 2) (n3 : op ≠ 3) (n4 : op ≠ 4) (n5 : op ≠ 5) (n6 : op ≠ 6) (n7 : op ≠ 7) (n8 : op ≠ 8) (n9 : op ≠ 9) (n10 : op ≠ 10) (n11 : op ≠ 11) (n12 : op ≠ 12) (n13 : op ≠ 13) (n14 : op ≠ 14) (n15 : op ≠ 15) (n16 : op ≠ 16) (n17 : op ≠ 17) (n18 : op ≠ 18) (n19 : op ≠ 19) (n20 : op ≠ 20) (n21 : op ≠ 21) (n22 : op ≠ 22) (n23 : op ≠ 23) : Calls Try.prog 40 #[j.val, .agg #[.int .i64 op, .int .i64 a, .int .i64 b, .int .i64 c]] w fun e w' => e = .returned (.bool false) ∧ Below w.heap.size w w' := by
  have m1 : (op == 1) = false := by simpa using n1
  have m2 : (op == 2) = false := by simpa using n2
  have m3 : (op == 3) = false := by simpa using n3
  have m4 : (op == 4) = false := by simpa using n4
  have m5 : (op == 5) = false := by simpa using n5
  have m6 : (op == 6) = false := by simpa using n6
  have m7 : (op == 7) = false := by simpa using n7
  have m8 : (op == 8) = false := by simpa using n8
  have m9 : (op == 9) = false := by simpa using n9
  have m10 : (op == 10) = false := by simpa using n10
  have m11 : (op == 11) = false := by simpa using n11
  have m12 : (op == 12) = false := by simpa using n12
  have m13 : (op == 13) = false := by simpa using n13
  have m14 : (op == 14) = false := by simpa using n14
  have m15 : (op == 15) = false := by simpa using n15
  have m16 : (op == 16) = false := by simpa using n16
  have m17 : (op == 17) = false := by simpa using n17
  have m18 : (op == 18) = false := by simpa using n18
  have m19 : (op == 19) = false := by simpa using n19
  have m20 : (op == 20) = false := by simpa using n20
  have m21 : (op == 21) = false := by simpa using n21
  have m22 : (op == 22) = false := by simpa using n22
  have m23 : (op == 23) = false := by simpa using n23
  clear n1 n2 n3 n4 n5 n6 n7 n8 n9 n10 n11 n12 n13 n14 n15 n16 n17 n18 n19 n20 n21 n22 n23
  cases hb0 : (b == 0) with
  | false =>
    have hb1 : (b != 0) = true := by simp [bne, hb0]
    go_enter Try.func40, Try.ntmps40
    go_wp2_with fail
    go_ret
    exact ⟨by simp, (In3.new j op a b c w).bel⟩
  | true =>
    have hb1 : (b != 0) = false := by simp [bne, hb0]
    cases hc0 : (c == 0) with
    | false =>
      have hc1 : (c != 0) = true := by simp [bne, hc0]
      go_enter Try.func40, Try.ntmps40
      go_wp2_with fail
      go_ret
      exact ⟨by simp, (In3.new j op a b c w).bel⟩
    | true =>
      have hc1 : (c != 0) = false := by simp [bne, hc0]
      go_enter Try.func40, Try.ntmps40
      go_wp2_with fail
      go_ret
      exact ⟨by simp, (In3.new j op a b c w).bel⟩
/-- is an instruction right -/
def Jd.instB (j : Jd) (op a b c : Int) : Bool :=
  if op = 1 then (([a].all fun x => j.rowB x 1) && (c == 0)) else
  if op = 2 then ([a, b, c].all fun x => j.rowB x 1) else
  if op = 3 then ([a, b, c].all fun x => j.rowB x 1) else
  if op = 4 then ([a, b, c].all fun x => j.rowB x 1) else
  if op = 5 then ((inB c 1 64) && ((j.rowB a c) && (j.rowB b c))) else
  if op = 6 then ((inB c 1 64) && ((j.rowB a c) && (j.rowB b c))) else
  if op = 7 then ((inB c 1 64) && ((j.rowB a c) && ([b].all fun x => j.rowB x 1))) else
  if op = 8 then ((inB c 1 64) && ((j.rowB a c) && ([b].all fun x => j.rowB x 1))) else
  if op = 9 then ((inB c 1 64) && ((j.rowB a c) && ([b].all fun x => j.rowB x 1))) else
  if op = 10 then (([a, b].all fun x => j.rowB x 1) && (c == 0)) else
  if op = 11 then (([a, b].all fun x => j.rowB x 1) && (inB c 0 4094)) else
  if op = 12 then (([a].all fun x => j.rowB x 1) && ((inB b 1 64) && (c == 0))) else
  if op = 13 then ((b == 0) && ((c == 0) && ([a].all fun x => j.rowB x 1))) else
  if op = 14 then (([a].all fun x => j.rowB x 1) && ((inB b 0 (wrap64 ((j.g.length : Int) - 1))) && (c == 0))) else
  if op = 15 then ((b == 0) && ((c == 0) && ([a].all fun x => j.rowB x 1))) else
  if op = 16 then ((b == 0) && ((c == 0) && (j.placeB a))) else
  if op = 17 then (([a].all fun x => j.rowB x 1) && ((j.placeB b) && (c == 0))) else
  if op = 18 then (([a].all fun x => j.rowB x 1) && (j.placeB c)) else
  if op = 19 then ((b == 0) && ((c == 0) && (a == 0))) else
  if op = 20 then (j.callB 20 a b c) else
  if op = 21 then (j.callB 21 a b c) else
  if op = 22 then ((b == 0) && ((c == 0) && ((inB j.r 1 64) && (j.rowB a j.r)))) else
  if op = 23 then ((b == 0) && ((c == 0) && (a == 0))) else
  false
theorem inst_calls (j : Jd) (op a b c : Int) (w : World) (h : j.In w) (hcs : j.cs.length ≤ 1000000) : Calls Try.prog 40 #[j.val, .agg #[.int .i64 op, .int .i64 a, .int .i64 b, .int .i64 c]] w fun e w' => e = .returned (.bool (j.instB op a b c)) ∧ Below w.heap.size w w' := by
  by_cases n1 : op = 1
  · subst n1
    exact inst_1 j a b c w h
  by_cases n2 : op = 2
  · subst n2
    exact inst_2 j a b c w h
  by_cases n3 : op = 3
  · subst n3
    exact inst_3 j a b c w h
  by_cases n4 : op = 4
  · subst n4
    exact inst_4 j a b c w h
  by_cases n5 : op = 5
  · subst n5
    exact inst_5 j a b c w h
  by_cases n6 : op = 6
  · subst n6
    exact inst_6 j a b c w h
  by_cases n7 : op = 7
  · subst n7
    exact inst_7 j a b c w h
  by_cases n8 : op = 8
  · subst n8
    exact inst_8 j a b c w h
  by_cases n9 : op = 9
  · subst n9
    exact inst_9 j a b c w h
  by_cases n10 : op = 10
  · subst n10
    exact inst_10 j a b c w h
  by_cases n11 : op = 11
  · subst n11
    exact inst_11 j a b c w h
  by_cases n12 : op = 12
  · subst n12
    exact inst_12 j a b c w h
  by_cases n13 : op = 13
  · subst n13
    exact inst_13 j a b c w h
  by_cases n14 : op = 14
  · subst n14
    exact inst_14 j a b c w h
  by_cases n15 : op = 15
  · subst n15
    exact inst_15 j a b c w h
  by_cases n16 : op = 16
  · subst n16
    exact inst_16 j a b c w h
  by_cases n17 : op = 17
  · subst n17
    exact inst_17 j a b c w h
  by_cases n18 : op = 18
  · subst n18
    exact inst_18 j a b c w h
  by_cases n19 : op = 19
  · subst n19
    exact inst_19 j a b c w h
  by_cases n20 : op = 20
  · subst n20
    exact inst_20 j a b c hcs w h
  by_cases n21 : op = 21
  · subst n21
    exact inst_21 j a b c hcs w h
  by_cases n22 : op = 22
  · subst n22
    exact inst_22 j a b c w h
  by_cases n23 : op = 23
  · subst n23
    exact inst_23 j a b c w h
  have hf : j.instB op a b c = false := by
    unfold Jd.instB
    simp only [n1, n2, n3, n4, n5, n6, n7, n8, n9, n10, n11, n12, n13, n14, n15, n16, n17, n18, n19, n20, n21, n22, n23, if_false]
  rw [hf]
  exact inst_else j op a b c w n1 n2 n3 n4 n5 n6 n7 n8 n9 n10 n11 n12 n13 n14 n15 n16 n17 n18 n19 n20 n21 n22 n23
end Go.Proofs.Ytoiakaagbgfocaa.PC
