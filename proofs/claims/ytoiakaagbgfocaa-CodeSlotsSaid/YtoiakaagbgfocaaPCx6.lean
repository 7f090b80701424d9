-- PRINTED by print.py (a twelfth state) out of the translation. Not trusted: Lean checks it.
import Derived.Test.YtoiakaagbgfocaaPCx0
import Derived.Test.YtoiakaagbgfocaaPCx2
namespace Go.Proofs.Ytoiakaagbgfocaa.PC
open Go.RowKit Go.Proofs.YtoiakaagbgfocaaW.PrintWords Go.Proofs.YtoiakaagbgfocaaW.PrintLast Go.Proofs.YtoiakaagbgfocaaW.PrintMore
attribute [local go_sem] max2_int min2_int max_two min_two max_three min_three max_four min_four   -- for this text's walks alone
set_option linter.unusedVariables false
set_option linter.unusedSimpArgs false

/-! ### code_judge_row: function 54 -/
def code_judge_row.f (l0_0 : List (S48)) (l0_1 : List (S40)) (a0_2 : Int) (a0_3 : Int) (a0_4 : Int) (a0_5 : Int) (l0_6 : List (S42)) (l0_7 : List (S66)) (a1 : Int) (a2 : Int) : Option (Bool) := (code_within_int64.f a1 0 (wrap64 (a0_3 - 1))).bind fun t289 => (if t289 = true then (some (decide (a2 ≤ (wrap64 (a0_3 - a1))))) else (some false))
set_option maxHeartbeats 8000000 in
set_option maxRecDepth 100000 in
theorem code_judge_row.calls (A0_0 : Option Addr) (c0_0 : Nat) (l0_0 : List (S48)) (A0_1 : Option Addr) (c0_1 : Nat) (l0_1 : List (S40)) (a0_2 : Int) (a0_3 : Int) (a0_4 : Int) (a0_5 : Int) (A0_6 : Option Addr) (c0_6 : Nat) (l0_6 : List (S42)) (A0_7 : Option Addr) (c0_7 : Nat) (l0_7 : List (S66)) (a1 : Int) (a2 : Int) (r : Bool) (w : World) (hr0_0 : Kd.C k48 w A0_0 l0_0.length l0_0) (hc0_0 : l0_0.length ≤ c0_0) (hr0_1 : Kd.C k40 w A0_1 l0_1.length l0_1) (hc0_1 : l0_1.length ≤ c0_1) (hr0_6 : Kd.C k42 w A0_6 l0_6.length l0_6) (hc0_6 : l0_6.length ≤ c0_6) (hr0_7 : Kd.C k66 w A0_7 l0_7.length l0_7) (hc0_7 : l0_7.length ≤ c0_7) (h : code_judge_row.f l0_0 l0_1 a0_2 a0_3 a0_4 a0_5 l0_6 l0_7 a1 a2 = some r) :
    Calls Try.prog 54 #[.agg #[.slice A0_0 l0_0.length c0_0, .slice A0_1 l0_1.length c0_1, .int .i64 a0_2, .int .i64 a0_3, .int .i64 a0_4, .int .i64 a0_5, .slice A0_6 l0_6.length c0_6, .slice A0_7 l0_7.length c0_7], .int .i64 a1, .int .i64 a2] w fun e w' => e = .returned (.bool r) ∧ Below w.heap.size w w' := by
  have hu58 := Try.underlying58
  have HR0_0 := Aside0.mk hr0_0
  have HC0_0 := Aside0.mk hc0_0
  clear hr0_0 hc0_0
  have HR0_1 := Aside0.mk hr0_1
  have HC0_1 := Aside0.mk hc0_1
  clear hr0_1 hc0_1
  have HR0_6 := Aside0.mk hr0_6
  have HC0_6 := Aside0.mk hc0_6
  clear hr0_6 hc0_6
  have HR0_7 := Aside0.mk hr0_7
  have HC0_7 := Aside0.mk hc0_7
  clear hr0_7 hc0_7
  have HB := Aside0.mk (Below.refl w.heap.size w)
  have H : ((code_within_int64.f a1 0 (wrap64 (a0_3 - 1))).bind fun t289 => (if t289 = true then (some (decide (a2 ≤ (wrap64 (a0_3 - a1))))) else (some false))) = some r := h
  clear h
  replace H := Option.bind_eq_some_iff.mp H
  obtain ⟨t289, A40, H⟩ := H
  replace H : (if t289 = true then (some (decide (a2 ≤ (wrap64 (a0_3 - a1))))) else (some false)) = some r := H
  have A4 := Aside0.mk A40
  clear A40
  by_cases c5 : t289 = true
  · subst c5
    have H1 : (some (decide (a2 ≤ (wrap64 (a0_3 - a1))))) = some r := by rw [if_pos rfl] at H; exact H
    clear H
    have H := H1
    clear H1
    obtain rfl := Option.some.inj H
    go_enter Try.func54, Try.ntmps54
    go_wp2_with (first | ((with_reducible refine gate_dst (N := 3) rfl ?_); refine box_event ?hg (N := 3) ?hd (cs := #[.slice A0_0 l0_0.length c0_0, .slice A0_1 l0_1.length c0_1, .int .i64 a0_2, .int .i64 a0_3, .int .i64 a0_4, .int .i64 a0_5, .slice A0_6 l0_6.length c0_6, .slice A0_7 l0_7.length c0_7]) (t := 58) ?hr ?_; (case hd => rfl); (case hg => rfl); (case hr => first | (go_simp; done) | (go_simp; rfl)); intro gb288 hg w6 hbox hb; have n0_ := Aside0.mk (below_step (by repeat (first | (with_reducible first | exact HB.out | apply below_alloc | apply pw_below_drewN | apply below_drew1) | exact HB.out)) hb); have n1_ := Aside0.mk (hbox); have n2_ := Aside0.mk ((by rw [hg]; exact (below_size (by repeat (first | (with_reducible first | exact HB.out | apply below_alloc | apply pw_below_drewN | apply below_drew1) | exact HB.out))) : w.heap.size ≤ gb288)); have n3_ := Aside0.mk ((by rw [hg]; exact (below_size (by repeat (first | (with_reducible first | exact HB.out | apply below_alloc | apply pw_below_drewN | apply below_drew1) | exact HB.out))) : w.heap.size ≤ gb288)); clear HB; have HB := n0_; have BK288 := n1_; have GW288 := n2_; have GE288 := n3_; clear n0_ n1_ n2_ n3_; clear hb hbox hg; have hcz7_0 : w6.cell? ⟨gb288, 0, none⟩ = some (.slice A0_0 l0_0.length c0_0) := (blk_cell BK288.out 0).trans rfl; have hcz7_1 : w6.cell? ⟨gb288, 1, none⟩ = some (.slice A0_1 l0_1.length c0_1) := (blk_cell BK288.out 1).trans rfl; have hcz7_2 : w6.cell? ⟨gb288, 2, none⟩ = some (.int .i64 a0_2) := (blk_cell BK288.out 2).trans rfl; have hcz7_3 : w6.cell? ⟨gb288, 3, none⟩ = some (.int .i64 a0_3) := (blk_cell BK288.out 3).trans rfl; have hcz7_4 : w6.cell? ⟨gb288, 4, none⟩ = some (.int .i64 a0_4) := (blk_cell BK288.out 4).trans rfl; have hcz7_5 : w6.cell? ⟨gb288, 5, none⟩ = some (.int .i64 a0_5) := (blk_cell BK288.out 5).trans rfl; have hcz7_6 : w6.cell? ⟨gb288, 6, none⟩ = some (.slice A0_6 l0_6.length c0_6) := (blk_cell BK288.out 6).trans rfl; have hcz7_7 : w6.cell? ⟨gb288, 7, none⟩ = some (.slice A0_7 l0_7.length c0_7) := (blk_cell BK288.out 7).trans rfl; have hfz7_0 := blk_frozen BK288.out 0; have hfz7_1 := blk_frozen BK288.out 1; have hfz7_2 := blk_frozen BK288.out 2; have hfz7_3 := blk_frozen BK288.out 3; have hfz7_4 := blk_frozen BK288.out 4; have hfz7_5 := blk_frozen BK288.out 5; have hfz7_6 := blk_frozen BK288.out 6; have hfz7_7 := blk_frozen BK288.out 7) | ((with_reducible refine gate_callee (f := 53) rfl ?_); refine goesL_ (some 12) rfl rfl Try.func53 (by kernel_rfl) rfl #[.int .i64 a1, .int .i64 0, .int .i64 (wrap64 (a0_3 - 1))] rfl (by (try simp only [List.map_toArray, List.map_cons, List.map_nil]); first | done | rfl | (simp only [List.length_drop, List.length_take]; rfl)) ?_; (with_reducible refine (code_within_int64.calls a1 0 (wrap64 (a0_3 - 1)) true _ A4.out).mono ?_); rintro e w' ⟨rfl, ⟨nd, rfl⟩⟩; refine ⟨_, rfl, ?_⟩))
    go_ret
    exact ⟨by first | rfl | (simp [errW_none, errW_some] <;> rfl) | (simp [*, errW_none, errW_some] <;> rfl), by repeat (first | (with_reducible first | exact HB.out | apply below_alloc | apply pw_below_drewN | apply below_drew1 | refine below_set ?_ GE288.out) | exact HB.out)⟩
  · replace c5 := Bool.eq_false_iff.mpr c5
    subst c5
    have H1 : (some false) = some r := by rw [if_neg (show ¬ (false = true) by decide)] at H; exact H
    clear H
    have H := H1
    clear H1
    obtain rfl := Option.some.inj H
    go_enter Try.func54, Try.ntmps54
    go_wp2_with (first | ((with_reducible refine gate_dst (N := 3) rfl ?_); refine box_event ?hg (N := 3) ?hd (cs := #[.slice A0_0 l0_0.length c0_0, .slice A0_1 l0_1.length c0_1, .int .i64 a0_2, .int .i64 a0_3, .int .i64 a0_4, .int .i64 a0_5, .slice A0_6 l0_6.length c0_6, .slice A0_7 l0_7.length c0_7]) (t := 58) ?hr ?_; (case hd => rfl); (case hg => rfl); (case hr => first | (go_simp; done) | (go_simp; rfl)); intro gb288 hg w8 hbox hb; have n0_ := Aside0.mk (below_step (by repeat (first | (with_reducible first | exact HB.out | apply below_alloc | apply pw_below_drewN | apply below_drew1) | exact HB.out)) hb); have n1_ := Aside0.mk (hbox); have n2_ := Aside0.mk ((by rw [hg]; exact (below_size (by repeat (first | (with_reducible first | exact HB.out | apply below_alloc | apply pw_below_drewN | apply below_drew1) | exact HB.out))) : w.heap.size ≤ gb288)); have n3_ := Aside0.mk ((by rw [hg]; exact (below_size (by repeat (first | (with_reducible first | exact HB.out | apply below_alloc | apply pw_below_drewN | apply below_drew1) | exact HB.out))) : w.heap.size ≤ gb288)); clear HB; have HB := n0_; have BK288 := n1_; have GW288 := n2_; have GE288 := n3_; clear n0_ n1_ n2_ n3_; clear hb hbox hg; have hcz9_0 : w8.cell? ⟨gb288, 0, none⟩ = some (.slice A0_0 l0_0.length c0_0) := (blk_cell BK288.out 0).trans rfl; have hcz9_1 : w8.cell? ⟨gb288, 1, none⟩ = some (.slice A0_1 l0_1.length c0_1) := (blk_cell BK288.out 1).trans rfl; have hcz9_2 : w8.cell? ⟨gb288, 2, none⟩ = some (.int .i64 a0_2) := (blk_cell BK288.out 2).trans rfl; have hcz9_3 : w8.cell? ⟨gb288, 3, none⟩ = some (.int .i64 a0_3) := (blk_cell BK288.out 3).trans rfl; have hcz9_4 : w8.cell? ⟨gb288, 4, none⟩ = some (.int .i64 a0_4) := (blk_cell BK288.out 4).trans rfl; have hcz9_5 : w8.cell? ⟨gb288, 5, none⟩ = some (.int .i64 a0_5) := (blk_cell BK288.out 5).trans rfl; have hcz9_6 : w8.cell? ⟨gb288, 6, none⟩ = some (.slice A0_6 l0_6.length c0_6) := (blk_cell BK288.out 6).trans rfl; have hcz9_7 : w8.cell? ⟨gb288, 7, none⟩ = some (.slice A0_7 l0_7.length c0_7) := (blk_cell BK288.out 7).trans rfl; have hfz9_0 := blk_frozen BK288.out 0; have hfz9_1 := blk_frozen BK288.out 1; have hfz9_2 := blk_frozen BK288.out 2; have hfz9_3 := blk_frozen BK288.out 3; have hfz9_4 := blk_frozen BK288.out 4; have hfz9_5 := blk_frozen BK288.out 5; have hfz9_6 := blk_frozen BK288.out 6; have hfz9_7 := blk_frozen BK288.out 7) | ((with_reducible refine gate_callee (f := 53) rfl ?_); refine goesL_ (some 12) rfl rfl Try.func53 (by kernel_rfl) rfl #[.int .i64 a1, .int .i64 0, .int .i64 (wrap64 (a0_3 - 1))] rfl (by (try simp only [List.map_toArray, List.map_cons, List.map_nil]); first | done | rfl | (simp only [List.length_drop, List.length_take]; rfl)) ?_; (with_reducible refine (code_within_int64.calls a1 0 (wrap64 (a0_3 - 1)) false _ A4.out).mono ?_); rintro e w' ⟨rfl, ⟨nd, rfl⟩⟩; refine ⟨_, rfl, ?_⟩))
    go_ret
    exact ⟨by first | rfl | (simp [errW_none, errW_some] <;> rfl) | (simp [*, errW_none, errW_some] <;> rfl), by repeat (first | (with_reducible first | exact HB.out | apply below_alloc | apply pw_below_drewN | apply below_drew1 | refine below_set ?_ GE288.out) | exact HB.out)⟩

/-! ### code_judge_place: function 55 -/
def code_judge_place.f (l0_0 : List (S48)) (l0_1 : List (S40)) (a0_2 : Int) (a0_3 : Int) (a0_4 : Int) (a0_5 : Int) (l0_6 : List (S42)) (l0_7 : List (S66)) (a1 : Int) : Option (Bool) := (code_within_int64.f a1 0 (wrap64 ((l0_6.length : Int) - 1))).bind fun t291 => (some t291)
set_option maxHeartbeats 8000000 in
set_option maxRecDepth 100000 in
theorem code_judge_place.calls (A0_0 : Option Addr) (c0_0 : Nat) (l0_0 : List (S48)) (A0_1 : Option Addr) (c0_1 : Nat) (l0_1 : List (S40)) (a0_2 : Int) (a0_3 : Int) (a0_4 : Int) (a0_5 : Int) (A0_6 : Option Addr) (c0_6 : Nat) (l0_6 : List (S42)) (A0_7 : Option Addr) (c0_7 : Nat) (l0_7 : List (S66)) (a1 : Int) (r : Bool) (w : World) (hr0_0 : Kd.C k48 w A0_0 l0_0.length l0_0) (hc0_0 : l0_0.length ≤ c0_0) (hr0_1 : Kd.C k40 w A0_1 l0_1.length l0_1) (hc0_1 : l0_1.length ≤ c0_1) (hr0_6 : Kd.C k42 w A0_6 l0_6.length l0_6) (hc0_6 : l0_6.length ≤ c0_6) (hr0_7 : Kd.C k66 w A0_7 l0_7.length l0_7) (hc0_7 : l0_7.length ≤ c0_7) (h : code_judge_place.f l0_0 l0_1 a0_2 a0_3 a0_4 a0_5 l0_6 l0_7 a1 = some r) :
    Calls Try.prog 55 #[.agg #[.slice A0_0 l0_0.length c0_0, .slice A0_1 l0_1.length c0_1, .int .i64 a0_2, .int .i64 a0_3, .int .i64 a0_4, .int .i64 a0_5, .slice A0_6 l0_6.length c0_6, .slice A0_7 l0_7.length c0_7], .int .i64 a1] w fun e w' => e = .returned (.bool r) ∧ Below w.heap.size w w' := by
  have hu58 := Try.underlying58
  have HR0_0 := Aside0.mk hr0_0
  have HC0_0 := Aside0.mk hc0_0
  clear hr0_0 hc0_0
  have HR0_1 := Aside0.mk hr0_1
  have HC0_1 := Aside0.mk hc0_1
  clear hr0_1 hc0_1
  have HR0_6 := Aside0.mk hr0_6
  have HC0_6 := Aside0.mk hc0_6
  clear hr0_6 hc0_6
  have HR0_7 := Aside0.mk hr0_7
  have HC0_7 := Aside0.mk hc0_7
  clear hr0_7 hc0_7
  have HB := Aside0.mk (Below.refl w.heap.size w)
  have H : ((code_within_int64.f a1 0 (wrap64 ((l0_6.length : Int) - 1))).bind fun t291 => (some t291)) = some r := h
  clear h
  replace H := Option.bind_eq_some_iff.mp H
  obtain ⟨t291, A30, H⟩ := H
  replace H : (some t291) = some r := H
  have A3 := Aside0.mk A30
  clear A30
  obtain rfl := Option.some.inj H
  go_enter Try.func55, Try.ntmps55
  go_wp2_with (first | ((with_reducible refine gate_dst (N := 2) rfl ?_); refine box_event ?hg (N := 2) ?hd (cs := #[.slice A0_0 l0_0.length c0_0, .slice A0_1 l0_1.length c0_1, .int .i64 a0_2, .int .i64 a0_3, .int .i64 a0_4, .int .i64 a0_5, .slice A0_6 l0_6.length c0_6, .slice A0_7 l0_7.length c0_7]) (t := 58) ?hr ?_; (case hd => rfl); (case hg => rfl); (case hr => first | (go_simp; done) | (go_simp; rfl)); intro gb290 hg w4 hbox hb; have n0_ := Aside0.mk (below_step (by repeat (first | (with_reducible first | exact HB.out | apply below_alloc | apply pw_below_drewN | apply below_drew1) | exact HB.out)) hb); have n1_ := Aside0.mk (hbox); have n2_ := Aside0.mk ((by rw [hg]; exact (below_size (by repeat (first | (with_reducible first | exact HB.out | apply below_alloc | apply pw_below_drewN | apply below_drew1) | exact HB.out))) : w.heap.size ≤ gb290)); have n3_ := Aside0.mk ((by rw [hg]; exact (below_size (by repeat (first | (with_reducible first | exact HB.out | apply below_alloc | apply pw_below_drewN | apply below_drew1) | exact HB.out))) : w.heap.size ≤ gb290)); clear HB; have HB := n0_; have BK290 := n1_; have GW290 := n2_; have GE290 := n3_; clear n0_ n1_ n2_ n3_; clear hb hbox hg; have hcz5_0 : w4.cell? ⟨gb290, 0, none⟩ = some (.slice A0_0 l0_0.length c0_0) := (blk_cell BK290.out 0).trans rfl; have hcz5_1 : w4.cell? ⟨gb290, 1, none⟩ = some (.slice A0_1 l0_1.length c0_1) := (blk_cell BK290.out 1).trans rfl; have hcz5_2 : w4.cell? ⟨gb290, 2, none⟩ = some (.int .i64 a0_2) := (blk_cell BK290.out 2).trans rfl; have hcz5_3 : w4.cell? ⟨gb290, 3, none⟩ = some (.int .i64 a0_3) := (blk_cell BK290.out 3).trans rfl; have hcz5_4 : w4.cell? ⟨gb290, 4, none⟩ = some (.int .i64 a0_4) := (blk_cell BK290.out 4).trans rfl; have hcz5_5 : w4.cell? ⟨gb290, 5, none⟩ = some (.int .i64 a0_5) := (blk_cell BK290.out 5).trans rfl; have hcz5_6 : w4.cell? ⟨gb290, 6, none⟩ = some (.slice A0_6 l0_6.length c0_6) := (blk_cell BK290.out 6).trans rfl; have hcz5_7 : w4.cell? ⟨gb290, 7, none⟩ = some (.slice A0_7 l0_7.length c0_7) := (blk_cell BK290.out 7).trans rfl; have hfz5_0 := blk_frozen BK290.out 0; have hfz5_1 := blk_frozen BK290.out 1; have hfz5_2 := blk_frozen BK290.out 2; have hfz5_3 := blk_frozen BK290.out 3; have hfz5_4 := blk_frozen BK290.out 4; have hfz5_5 := blk_frozen BK290.out 5; have hfz5_6 := blk_frozen BK290.out 6; have hfz5_7 := blk_frozen BK290.out 7) | ((with_reducible refine gate_callee (f := 53) rfl ?_); refine goesL_ (some 11) rfl rfl Try.func53 (by kernel_rfl) rfl #[.int .i64 a1, .int .i64 0, .int .i64 (wrap64 ((l0_6.length : Int) - 1))] rfl (by (try simp only [List.map_toArray, List.map_cons, List.map_nil]); first | done | rfl | (simp only [List.length_drop, List.length_take]; rfl)) ?_; (with_reducible refine (code_within_int64.calls a1 0 (wrap64 ((l0_6.length : Int) - 1)) t291 _ A3.out).mono ?_); rintro e w' ⟨rfl, ⟨nd, rfl⟩⟩; refine ⟨_, rfl, ?_⟩))
  go_ret
  exact ⟨by first | rfl | (simp [errW_none, errW_some] <;> rfl) | (simp [*, errW_none, errW_some] <;> rfl), by repeat (first | (with_reducible first | exact HB.out | apply below_alloc | apply pw_below_drewN | apply below_drew1 | refine below_set ?_ GE290.out) | exact HB.out)⟩

end Go.Proofs.Ytoiakaagbgfocaa.PC
