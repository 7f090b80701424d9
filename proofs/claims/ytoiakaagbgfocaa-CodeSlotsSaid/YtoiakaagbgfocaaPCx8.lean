-- PRINTED by print.py (a twelfth state) out of the translation. Not trusted: Lean checks it.
import Derived.Test.YtoiakaagbgfocaaPCx0
import Derived.Test.YtoiakaagbgfocaaPCx1
import Derived.Test.YtoiakaagbgfocaaPCx2
namespace Go.Proofs.Ytoiakaagbgfocaa.PC
open Go.RowKit Go.Proofs.YtoiakaagbgfocaaW.PrintWords Go.Proofs.YtoiakaagbgfocaaW.PrintLast Go.Proofs.YtoiakaagbgfocaaW.PrintMore
attribute [local go_sem] max2_int min2_int max_two min_two max_three min_three max_four min_four   -- for this text's walks alone
set_option linter.unusedVariables false
set_option linter.unusedSimpArgs false

attribute [local go_sem high] eqA73
/-! ### code_part: function 37 -/
mutual
def code_part.j1 : Nat → Int → List (S48) → List (S40) → Int → Int → Int → Int → List (S73) → Int → Int → Option (Bool)
  | 0, _, _, _, _, _, _, _, _, _, _ => none
  | k + 1, x1, x306000, x306001, x306002, x307000, x307001, x307002, x307003, x308000, x308001 => if 0 ≤ x308001 then (if x308001 < (x306000.length : Int) then (if x308001 < x1 then ((code_within_int.f ((rd_T48 x306000 x308001).f1) 1 64).bind fun t310 => (if t310 = true then ((code_within_int.f x308000 0 (wrap64 (x307001 - ((rd_T48 x306000 x308001).f1)))).bind fun t311 => (some t311)) else (some false))) else (some false)) else (none)) else (none)
def code_part.j0 : Nat → Int → Bool → List (S48) → List (S40) → Int → Int → Int → Int → List (S73) → Int → Int → Option (Bool)
  | 0, _, _, _, _, _, _, _, _, _, _, _ => none
  | k + 1, x1, x10, x306000, x306001, x306002, x307000, x307001, x307002, x307003, x308000, x308001 => if x10 = true then (some true) else ((code_within_int.f x308001 0 (wrap64 ((x306000.length : Int) - 1))).bind fun t308 => (if t308 = true then (if x307000 = 1 then (some (x308000 == 0)) else (if x307000 = 3 then (if x308000 = 1 then (code_part.j1 k x1 x306000 x306001 x306002 x307000 x307001 x307002 x307003 x308000 x308001) else (some false)) else (code_part.j1 k x1 x306000 x306001 x306002 x307000 x307001 x307002 x307003 x308000 x308001))) else (some false)))
end
def code_part.f (k : Nat) (l0_0 : List (S48)) (l0_1 : List (S40)) (a0_2 : Int) (a1 : Int) (a2_0 : Int) (a2_1 : Int) (a2_2 : Int) (l2_3 : List (S73)) (a3_0 : Int) (a3_1 : Int) : Option (Bool) := if a2_0 = 3 then (code_part.j0 k a1 (a3_0 == 0 && (a3_1 == (-1))) l0_0 l0_1 a0_2 a2_0 a2_1 a2_2 l2_3 a3_0 a3_1) else (code_part.j0 k a1 false l0_0 l0_1 a0_2 a2_0 a2_1 a2_2 l2_3 a3_0 a3_1)
theorem code_part.mono_l : ∀ k, (∀ y0 y1 y2 y3 y4 y5 y6 y7 y8 y9, LeO (code_part.j1 k y0 y1 y2 y3 y4 y5 y6 y7 y8 y9) (code_part.j1 (k + 1) y0 y1 y2 y3 y4 y5 y6 y7 y8 y9)) ∧ (∀ y0 y1 y2 y3 y4 y5 y6 y7 y8 y9 y10, LeO (code_part.j0 k y0 y1 y2 y3 y4 y5 y6 y7 y8 y9 y10) (code_part.j0 (k + 1) y0 y1 y2 y3 y4 y5 y6 y7 y8 y9 y10))
  | 0 => ⟨fun _ _ _ _ _ _ _ _ _ _ r h => by simp [code_part.j1] at h, fun _ _ _ _ _ _ _ _ _ _ _ r h => by simp [code_part.j0] at h⟩
  | k + 1 => by
    obtain ⟨ih0, ih1⟩ := code_part.mono_l k
    refine ⟨?_, ?_⟩
    · intro y0 y1 y2 y3 y4 y5 y6 y7 y8 y9
      unfold code_part.j1
      repeat' first
      | (with_reducible exact ih0 _ _ _ _ _ _ _ _ _ _)
      | (with_reducible exact ih1 _ _ _ _ _ _ _ _ _ _ _)
      | (with_reducible exact LeO.refl _)
      | (with_reducible exact LeO.none _)
      | (with_reducible refine LeO.ite ?_ ?_)
      | (with_reducible refine LeO.bind ?_ (fun _ => ?_))
      | exact ih0 _ _ _ _ _ _ _ _ _ _
      | exact ih1 _ _ _ _ _ _ _ _ _ _ _
      | exact LeO.none _
      | refine LeO.ite ?_ ?_
      | refine LeO.bind ?_ (fun _ => ?_)
    · intro y0 y1 y2 y3 y4 y5 y6 y7 y8 y9 y10
      unfold code_part.j0
      repeat' first
      | (with_reducible exact ih0 _ _ _ _ _ _ _ _ _ _)
      | (with_reducible exact ih1 _ _ _ _ _ _ _ _ _ _ _)
      | (with_reducible exact LeO.refl _)
      | (with_reducible exact LeO.none _)
      | (with_reducible refine LeO.ite ?_ ?_)
      | (with_reducible refine LeO.bind ?_ (fun _ => ?_))
      | exact ih0 _ _ _ _ _ _ _ _ _ _
      | exact ih1 _ _ _ _ _ _ _ _ _ _ _
      | exact LeO.none _
      | refine LeO.ite ?_ ?_
      | refine LeO.bind ?_ (fun _ => ?_)
theorem code_part.mono : ∀ a0 a1 a2 a3 a4 a5 a6 a7 a8 a9 k, LeO (code_part.f k a0 a1 a2 a3 a4 a5 a6 a7 a8 a9) (code_part.f (k + 1) a0 a1 a2 a3 a4 a5 a6 a7 a8 a9) := by
  intro a0 a1 a2 a3 a4 a5 a6 a7 a8 a9 k
  obtain ⟨ih0, ih1⟩ := code_part.mono_l k
  unfold code_part.f
  repeat' first
      | (with_reducible exact ih0 _ _ _ _ _ _ _ _ _ _)
      | (with_reducible exact ih1 _ _ _ _ _ _ _ _ _ _ _)
      | (with_reducible exact LeO.refl _)
      | (with_reducible exact LeO.none _)
      | (with_reducible refine LeO.ite ?_ ?_)
      | (with_reducible refine LeO.bind ?_ (fun _ => ?_))
      | exact ih0 _ _ _ _ _ _ _ _ _ _
      | exact ih1 _ _ _ _ _ _ _ _ _ _ _
      | exact LeO.none _
      | refine LeO.ite ?_ ?_
      | refine LeO.bind ?_ (fun _ => ?_)
set_option maxHeartbeats 8000000 in
set_option maxRecDepth 100000 in
theorem code_part.calls (k : Nat) (A0_0 : Option Addr) (c0_0 : Nat) (l0_0 : List (S48)) (A0_1 : Option Addr) (c0_1 : Nat) (l0_1 : List (S40)) (a0_2 : Int) (a1 : Int) (a2_0 : Int) (a2_1 : Int) (a2_2 : Int) (A2_3 : Option Addr) (c2_3 : Nat) (l2_3 : List (S73)) (a3_0 : Int) (a3_1 : Int) (r : Bool) (w : World) (hr0_0 : Kd.C k48 w A0_0 l0_0.length l0_0) (hc0_0 : l0_0.length ≤ c0_0) (hr0_1 : Kd.C k40 w A0_1 l0_1.length l0_1) (hc0_1 : l0_1.length ≤ c0_1) (hr2_3 : Kd.C k73 w A2_3 l2_3.length l2_3) (hc2_3 : l2_3.length ≤ c2_3) (h : code_part.f k l0_0 l0_1 a0_2 a1 a2_0 a2_1 a2_2 l2_3 a3_0 a3_1 = some r) :
    Calls Try.prog 37 #[.agg #[.slice A0_0 l0_0.length c0_0, .slice A0_1 l0_1.length c0_1, .int .i64 a0_2], .int .i64 a1, .agg #[.int .i64 a2_0, .int .i64 a2_1, .int .i64 a2_2, .slice A2_3 l2_3.length c2_3], .agg #[.int .i64 a3_0, .int .i64 a3_1]] w fun e w' => e = .returned (.bool r) ∧ Below w.heap.size w w' := by
  have hu25 := Try.underlying25
  have hu48 := Try.underlying48
  have hu73 := Try.underlying73
  have HR0_0 := Aside0.mk hr0_0
  have HC0_0 := Aside0.mk hc0_0
  clear hr0_0 hc0_0
  have HR0_1 := Aside0.mk hr0_1
  have HC0_1 := Aside0.mk hc0_1
  clear hr0_1 hc0_1
  have HR2_3 := Aside0.mk hr2_3
  have HC2_3 := Aside0.mk hc2_3
  clear hr2_3 hc2_3
  have HB := Aside0.mk (Below.refl w.heap.size w)
  have H : (if a2_0 = 3 then (code_part.j0 k a1 (a3_0 == 0 && (a3_1 == (-1))) l0_0 l0_1 a0_2 a2_0 a2_1 a2_2 l2_3 a3_0 a3_1) else (code_part.j0 k a1 false l0_0 l0_1 a0_2 a2_0 a2_1 a2_2 l2_3 a3_0 a3_1)) = some r := h
  clear h
  have HC5 := Aside0.mk H
  clear H
  go_enter Try.func37, Try.ntmps37
  go_upto_block 0 with (first | ((with_reducible refine gate_dst (N := 4) rfl ?_); refine box_event ?hg (N := 4) ?hd (cs := #[.slice A0_0 l0_0.length c0_0, .slice A0_1 l0_1.length c0_1, .int .i64 a0_2]) (t := 25) ?hr ?_; (case hd => rfl); (case hg => rfl); (case hr => first | (go_simp; done) | (go_simp; rfl)); intro gb305 hg w6 hbox hb; have n0_ := Aside0.mk (below_step (by repeat (first | (with_reducible first | exact HB.out | apply below_alloc | apply pw_below_drewN | apply below_drew1) | exact HB.out)) hb); have n1_ := Aside0.mk (hbox); have n2_ := Aside0.mk ((by rw [hg]; exact (below_size (by repeat (first | (with_reducible first | exact HB.out | apply below_alloc | apply pw_below_drewN | apply below_drew1) | exact HB.out))) : w.heap.size ≤ gb305)); have n3_ := Aside0.mk ((by rw [hg]; exact (below_size (by repeat (first | (with_reducible first | exact HB.out | apply below_alloc | apply pw_below_drewN | apply below_drew1) | exact HB.out))) : w.heap.size ≤ gb305)); clear HB; have HB := n0_; have BK305 := n1_; have GW305 := n2_; have GE305 := n3_; clear n0_ n1_ n2_ n3_; clear hb hbox hg) | ((with_reducible refine gate_dst (N := 6) rfl ?_); refine box_event ?hg (N := 6) ?hd (cs := #[.int .i64 a2_0, .int .i64 a2_1, .int .i64 a2_2, .slice A2_3 l2_3.length c2_3]) (t := 48) ?hr ?_; (case hd => rfl); (case hg => rfl); (case hr => first | (go_simp; done) | (go_simp; rfl)); intro gb306 hg w7 hbox hb; have n0_ := Aside0.mk (blk_below (g := gb305) (o := .cells #[.slice A0_0 l0_0.length c0_0, .slice A0_1 l0_1.length c0_1, .int .i64 a0_2] 25 (0, 0)) (by (with_reducible repeat (first | refine blk_drewN ?_ _ | refine blk_drew ?_ | refine blk_alloc ?_ _)); exact BK305.out) hb); have n1_ := Aside0.mk (below_step (by repeat (first | (with_reducible first | exact HB.out | apply below_alloc | apply pw_below_drewN | apply below_drew1 | refine below_set ?_ GE305.out) | exact HB.out)) hb); have n2_ := Aside0.mk (hbox); have n3_ := Aside0.mk ((by rw [hg]; exact (below_size (by repeat (first | (with_reducible first | exact HB.out | apply below_alloc | apply pw_below_drewN | apply below_drew1 | refine below_set ?_ GE305.out) | exact HB.out))) : w.heap.size ≤ gb306)); have n4_ := Aside0.mk ((by rw [hg]; exact (below_size (by repeat (first | (with_reducible first | exact HB.out | apply below_alloc | apply pw_below_drewN | apply below_drew1 | refine below_set ?_ GE305.out) | exact HB.out))) : w.heap.size ≤ gb306)); have n5_ := Aside0.mk ((by rw [hg]; exact Nat.ne_of_lt (blk_lt (g := gb305) (o := .cells #[.slice A0_0 l0_0.length c0_0, .slice A0_1 l0_1.length c0_1, .int .i64 a0_2] 25 (0, 0)) (by (with_reducible repeat (first | refine blk_drewN ?_ _ | refine blk_drew ?_ | refine blk_alloc ?_ _)); exact BK305.out)) : gb305 ≠ gb306)); have n6_ := Aside0.mk ((by rw [hg]; exact Nat.ne_of_gt (blk_lt (g := gb305) (o := .cells #[.slice A0_0 l0_0.length c0_0, .slice A0_1 l0_1.length c0_1, .int .i64 a0_2] 25 (0, 0)) (by (with_reducible repeat (first | refine blk_drewN ?_ _ | refine blk_drew ?_ | refine blk_alloc ?_ _)); exact BK305.out)) : gb306 ≠ gb305)); clear BK305; clear HB; have BK305 := n0_; have HB := n1_; have BK306 := n2_; have GW306 := n3_; have GE306 := n4_; have NB305_306 := n5_; have NB306_305 := n6_; clear n0_ n1_ n2_ n3_ n4_ n5_ n6_; clear hb hbox hg) | ((with_reducible refine gate_dst (N := 7) rfl ?_); refine box_event ?hg (N := 7) ?hd (cs := #[.int .i64 a3_0, .int .i64 a3_1]) (t := 73) ?hr ?_; (case hd => rfl); (case hg => rfl); (case hr => first | (go_simp; done) | (go_simp; rfl)); intro gb307 hg w8 hbox hb; have n0_ := Aside0.mk (blk_below (g := gb305) (o := .cells #[.slice A0_0 l0_0.length c0_0, .slice A0_1 l0_1.length c0_1, .int .i64 a0_2] 25 (0, 0)) (by (with_reducible repeat (first | refine blk_drewN ?_ _ | refine blk_drew ?_ | refine blk_alloc ?_ _)); exact BK305.out) hb); have n1_ := Aside0.mk (blk_below (g := gb306) (o := .cells #[.int .i64 a2_0, .int .i64 a2_1, .int .i64 a2_2, .slice A2_3 l2_3.length c2_3] 48 (0, 0)) (by (with_reducible repeat (first | refine blk_drewN ?_ _ | refine blk_drew ?_ | refine blk_alloc ?_ _)); exact BK306.out) hb); have n2_ := Aside0.mk (below_step (by repeat (first | (with_reducible first | exact HB.out | apply below_alloc | apply pw_below_drewN | apply below_drew1 | refine below_set ?_ GE305.out | refine below_set ?_ GE306.out) | exact HB.out)) hb); have n3_ := Aside0.mk (hbox); have n4_ := Aside0.mk ((by rw [hg]; exact (below_size (by repeat (first | (with_reducible first | exact HB.out | apply below_alloc | apply pw_below_drewN | apply below_drew1 | refine below_set ?_ GE305.out | refine below_set ?_ GE306.out) | exact HB.out))) : w.heap.size ≤ gb307)); have n5_ := Aside0.mk ((by rw [hg]; exact (below_size (by repeat (first | (with_reducible first | exact HB.out | apply below_alloc | apply pw_below_drewN | apply below_drew1 | refine below_set ?_ GE305.out | refine below_set ?_ GE306.out) | exact HB.out))) : w.heap.size ≤ gb307)); have n6_ := Aside0.mk ((by rw [hg]; exact Nat.ne_of_lt (blk_lt (g := gb305) (o := .cells #[.slice A0_0 l0_0.length c0_0, .slice A0_1 l0_1.length c0_1, .int .i64 a0_2] 25 (0, 0)) (by (with_reducible repeat (first | refine blk_drewN ?_ _ | refine blk_drew ?_ | refine blk_alloc ?_ _)); exact BK305.out)) : gb305 ≠ gb307)); have n7_ := Aside0.mk ((by rw [hg]; exact Nat.ne_of_gt (blk_lt (g := gb305) (o := .cells #[.slice A0_0 l0_0.length c0_0, .slice A0_1 l0_1.length c0_1, .int .i64 a0_2] 25 (0, 0)) (by (with_reducible repeat (first | refine blk_drewN ?_ _ | refine blk_drew ?_ | refine blk_alloc ?_ _)); exact BK305.out)) : gb307 ≠ gb305)); have n8_ := Aside0.mk ((by rw [hg]; exact Nat.ne_of_lt (blk_lt (g := gb306) (o := .cells #[.int .i64 a2_0, .int .i64 a2_1, .int .i64 a2_2, .slice A2_3 l2_3.length c2_3] 48 (0, 0)) (by (with_reducible repeat (first | refine blk_drewN ?_ _ | refine blk_drew ?_ | refine blk_alloc ?_ _)); exact BK306.out)) : gb306 ≠ gb307)); have n9_ := Aside0.mk ((by rw [hg]; exact Nat.ne_of_gt (blk_lt (g := gb306) (o := .cells #[.int .i64 a2_0, .int .i64 a2_1, .int .i64 a2_2, .slice A2_3 l2_3.length c2_3] 48 (0, 0)) (by (with_reducible repeat (first | refine blk_drewN ?_ _ | refine blk_drew ?_ | refine blk_alloc ?_ _)); exact BK306.out)) : gb307 ≠ gb306)); clear BK305; clear BK306; clear HB; have BK305 := n0_; have BK306 := n1_; have HB := n2_; have BK307 := n3_; have GW307 := n4_; have GE307 := n5_; have NB305_307 := n6_; have NB307_305 := n7_; have NB306_307 := n8_; have NB307_306 := n9_; clear n0_ n1_ n2_ n3_ n4_ n5_ n6_ n7_ n8_ n9_; clear hb hbox hg))
  (try simp only [Act.put, List.setIfInBounds_toArray, List.set_cons_zero, List.set_cons_succ])
  go_cut [] (fun wc => ∃ (kq : Nat), Aside0 (code_part.j1 kq a1 l0_0 l0_1 a0_2 a2_0 a2_1 a2_2 l2_3 a3_0 a3_1 = some r) ∧ Aside0 (kq ≤ k) ∧ Aside0 (wc.heap[gb305]? = some (.cells #[(.slice A0_0 l0_0.length c0_0), (.slice A0_1 l0_1.length c0_1), .int .i64 a0_2] 25 (0, 0))) ∧ Aside0 (wc.heap[gb306]? = some (.cells #[.int .i64 a2_0, .int .i64 a2_1, .int .i64 a2_2, (.slice A2_3 l2_3.length c2_3)] 48 (0, 0))) ∧ Aside0 (wc.heap[gb307]? = some (.cells #[.int .i64 a3_0, .int .i64 a3_1] 73 (0, 0))) ∧ Aside0 (Below w.heap.size w wc))
  case first =>
    have H := HC5.out
    clear HC5
    have HC9 := Aside0.mk H
    clear H
    go_upto_region 1 with (fail)
    go_cut [10] (fun v10 wc => ∃ (kq : Nat) (x10_8 : Bool), v10 = .bool x10_8 ∧ Aside0 (code_part.j0 kq a1 x10_8 l0_0 l0_1 a0_2 a2_0 a2_1 a2_2 l2_3 a3_0 a3_1 = some r) ∧ Aside0 (kq ≤ k) ∧ Aside0 (wc.heap[gb305]? = some (.cells #[(.slice A0_0 l0_0.length c0_0), (.slice A0_1 l0_1.length c0_1), .int .i64 a0_2] 25 (0, 0))) ∧ Aside0 (wc.heap[gb306]? = some (.cells #[.int .i64 a2_0, .int .i64 a2_1, .int .i64 a2_2, (.slice A2_3 l2_3.length c2_3)] 48 (0, 0))) ∧ Aside0 (wc.heap[gb307]? = some (.cells #[.int .i64 a3_0, .int .i64 a3_1] 73 (0, 0))) ∧ Aside0 (Below w.heap.size w wc))
    case first =>
      have H := HC9.out
      clear HC9
      by_cases c10 : a2_0 = 3
      · rw [if_pos c10] at H
        have c10b0 : (a2_0 == 3) = true := beq_iff_eq.mpr c10
        have c10b1 : (a2_0 != 3) = false := bne_eq_false_iff_eq.mpr c10
        clear c10
        (first | rw [c10b0] | (simp only [i64_w, i32_w]; rw [c10b0]) | skip)
        have H' := Aside0.mk H
        clear H
        have hnb11 := NB306_305.out
        have hnc11 := NB305_306.out
        have hnb12 := NB306_307.out
        have hnc12 := NB307_306.out
        have hcz13_0 : w8.cell? ⟨gb306, 0, none⟩ = some (.int .i64 a2_0) := (blk_cell BK306.out 0).trans rfl
        have hcz13_1 : w8.cell? ⟨gb306, 1, none⟩ = some (.int .i64 a2_1) := (blk_cell BK306.out 1).trans rfl
        have hcz13_2 : w8.cell? ⟨gb306, 2, none⟩ = some (.int .i64 a2_2) := (blk_cell BK306.out 2).trans rfl
        have hcz13_3 : w8.cell? ⟨gb306, 3, none⟩ = some (.slice A2_3 l2_3.length c2_3) := (blk_cell BK306.out 3).trans rfl
        have hfz13_0 := blk_frozen BK306.out 0
        have hfz13_1 := blk_frozen BK306.out 1
        have hfz13_2 := blk_frozen BK306.out 2
        have hfz13_3 := blk_frozen BK306.out 3
        have hnb14 := NB307_305.out
        have hnc14 := NB305_307.out
        have hcz15_0 : w8.cell? ⟨gb307, 0, none⟩ = some (.int .i64 a3_0) := (blk_cell BK307.out 0).trans rfl
        have hcz15_1 : w8.cell? ⟨gb307, 1, none⟩ = some (.int .i64 a3_1) := (blk_cell BK307.out 1).trans rfl
        have hfz15_0 := blk_frozen BK307.out 0
        have hfz15_1 := blk_frozen BK307.out 1
        go_wp2
        go_meet
        case rel => exact ⟨_, ((a3_0 == 0 && (a3_1 == (-1)))), (by first | rfl | (simp; done) | (simp [*]; done)), H', ⟨by first | omega | exact Nat.le_refl _⟩, ⟨by (with_reducible repeat (first | refine blk_drewN ?_ _ | refine blk_drew ?_ | refine blk_alloc ?_ _)); exact BK305.out⟩, ⟨by (with_reducible repeat (first | refine blk_drewN ?_ _ | refine blk_drew ?_ | refine blk_alloc ?_ _)); exact BK306.out⟩, ⟨by (with_reducible repeat (first | refine blk_drewN ?_ _ | refine blk_drew ?_ | refine blk_alloc ?_ _)); exact BK307.out⟩, ⟨by repeat (first | (with_reducible first | exact HB.out | apply below_alloc | apply pw_below_drewN | apply below_drew1 | refine below_set ?_ GE305.out | refine below_set ?_ GE306.out | refine below_set ?_ GE307.out) | exact HB.out)⟩⟩
      · rw [if_neg c10] at H
        have c10b0 : (a2_0 == 3) = false := beq_eq_false_iff_ne.mpr c10
        have c10b1 : (a2_0 != 3) = true := bne_iff_ne.mpr c10
        (first | rw [c10b0] | (simp only [i64_w, i32_w]; rw [c10b0]) | skip)
        have H' := Aside0.mk H
        clear H
        have hnb16 := NB306_305.out
        have hnc16 := NB305_306.out
        have hnb17 := NB306_307.out
        have hnc17 := NB307_306.out
        have hcz18_0 : w8.cell? ⟨gb306, 0, none⟩ = some (.int .i64 a2_0) := (blk_cell BK306.out 0).trans rfl
        have hcz18_1 : w8.cell? ⟨gb306, 1, none⟩ = some (.int .i64 a2_1) := (blk_cell BK306.out 1).trans rfl
        have hcz18_2 : w8.cell? ⟨gb306, 2, none⟩ = some (.int .i64 a2_2) := (blk_cell BK306.out 2).trans rfl
        have hcz18_3 : w8.cell? ⟨gb306, 3, none⟩ = some (.slice A2_3 l2_3.length c2_3) := (blk_cell BK306.out 3).trans rfl
        have hfz18_0 := blk_frozen BK306.out 0
        have hfz18_1 := blk_frozen BK306.out 1
        have hfz18_2 := blk_frozen BK306.out 2
        have hfz18_3 := blk_frozen BK306.out 3
        go_wp2
        go_meet
        case rel => exact ⟨_, (false), (by first | rfl | (simp; done) | (simp [*]; done)), H', ⟨by first | omega | exact Nat.le_refl _⟩, ⟨by (with_reducible repeat (first | refine blk_drewN ?_ _ | refine blk_drew ?_ | refine blk_alloc ?_ _)); exact BK305.out⟩, ⟨by (with_reducible repeat (first | refine blk_drewN ?_ _ | refine blk_drew ?_ | refine blk_alloc ?_ _)); exact BK306.out⟩, ⟨by (with_reducible repeat (first | refine blk_drewN ?_ _ | refine blk_drew ?_ | refine blk_alloc ?_ _)); exact BK307.out⟩, ⟨by repeat (first | (with_reducible first | exact HB.out | apply below_alloc | apply pw_below_drewN | apply below_drew1 | refine below_set ?_ GE305.out | refine below_set ?_ GE306.out | refine below_set ?_ GE307.out) | exact HB.out)⟩⟩
    case rest =>
      clear HC9
      try clear c1
      try clear c2
      try clear p2
      try clear c3
      try clear c10
      try clear c10b0
      try clear c10b1
      try clear c11
      try clear c12
      try clear c14
      try clear c16
      try clear c17
      try clear hcz13_0
      try clear hcz13_1
      try clear hcz13_2
      try clear hcz13_3
      try clear hcz15_0
      try clear hcz15_1
      try clear hcz18_0
      try clear hcz18_1
      try clear hcz18_2
      try clear hcz18_3
      try clear hfz13_0
      try clear hfz13_1
      try clear hfz13_2
      try clear hfz13_3
      try clear hfz15_0
      try clear hfz15_1
      try clear hfz18_0
      try clear hfz18_1
      try clear hfz18_2
      try clear hfz18_3
      obtain ⟨kq, x10_8, rfl, HA, HJ8, BK305, BK306, BK307, HB⟩ := hcut
      cases kq with
      | zero => exact absurd HA.out (by simp [code_part.j0])
      | succ kj8 =>
        have H := HA.out
        clear HA
        simp only [code_part.j0] at H
        by_cases c19 : x10_8 = true
        · subst c19
          have H1 : (some true) = some r := by rw [if_pos rfl] at H; exact H
          clear H
          have H := H1
          clear H1
          obtain rfl := Option.some.inj H
          go_wp2
          go_ret
          exact ⟨by first | rfl | (simp [errW_none, errW_some] <;> rfl) | (simp [*, errW_none, errW_some] <;> rfl), by repeat (first | (with_reducible first | exact HB.out | apply below_alloc | apply pw_below_drewN | apply below_drew1 | refine below_set ?_ GE305.out | refine below_set ?_ GE306.out | refine below_set ?_ GE307.out) | exact HB.out)⟩
        · replace c19 := Bool.eq_false_iff.mpr c19
          subst c19
          have H1 : ((code_within_int.f a3_1 0 (wrap64 ((l0_0.length : Int) - 1))).bind fun t308 => (if t308 = true then (if a2_0 = 1 then (some (a3_0 == 0)) else (if a2_0 = 3 then (if a3_0 = 1 then (code_part.j1 kj8 a1 l0_0 l0_1 a0_2 a2_0 a2_1 a2_2 l2_3 a3_0 a3_1) else (some false)) else (code_part.j1 kj8 a1 l0_0 l0_1 a0_2 a2_0 a2_1 a2_2 l2_3 a3_0 a3_1))) else (some false))) = some r := by rw [if_neg (show ¬ (false = true) by decide)] at H; exact H
          clear H
          have H := H1
          clear H1
          replace H := Option.bind_eq_some_iff.mp H
          obtain ⟨t308, A200, H⟩ := H
          replace H : (if t308 = true then (if a2_0 = 1 then (some (a3_0 == 0)) else (if a2_0 = 3 then (if a3_0 = 1 then (code_part.j1 kj8 a1 l0_0 l0_1 a0_2 a2_0 a2_1 a2_2 l2_3 a3_0 a3_1) else (some false)) else (code_part.j1 kj8 a1 l0_0 l0_1 a0_2 a2_0 a2_1 a2_2 l2_3 a3_0 a3_1))) else (some false)) = some r := H
          have A20 := Aside0.mk A200
          clear A200
          by_cases c21 : t308 = true
          · subst c21
            have H1 : (if a2_0 = 1 then (some (a3_0 == 0)) else (if a2_0 = 3 then (if a3_0 = 1 then (code_part.j1 kj8 a1 l0_0 l0_1 a0_2 a2_0 a2_1 a2_2 l2_3 a3_0 a3_1) else (some false)) else (code_part.j1 kj8 a1 l0_0 l0_1 a0_2 a2_0 a2_1 a2_2 l2_3 a3_0 a3_1))) = some r := by rw [if_pos rfl] at H; exact H
            clear H
            have H := H1
            clear H1
            by_cases c22 : a2_0 = 1
            · rw [if_pos c22] at H
              have c22b0 : (a2_0 == 1) = true := beq_iff_eq.mpr c22
              have c22b1 : (a2_0 != 1) = false := bne_eq_false_iff_eq.mpr c22
              clear c22
              obtain rfl := Option.some.inj H
              have hnb23 := NB307_305.out
              have hnc23 := NB305_307.out
              have hnb24 := NB307_306.out
              have hnc24 := NB306_307.out
              have hcz25_0 : wc.cell? ⟨gb307, 0, none⟩ = some (.int .i64 a3_0) := (blk_cell BK307.out 0).trans rfl
              have hcz25_1 : wc.cell? ⟨gb307, 1, none⟩ = some (.int .i64 a3_1) := (blk_cell BK307.out 1).trans rfl
              have hfz25_0 := blk_frozen BK307.out 0
              have hfz25_1 := blk_frozen BK307.out 1
              have hnb26 := NB305_306.out
              have hnc26 := NB306_305.out
              have hcz27_0 : wc.cell? ⟨gb305, 0, none⟩ = some (.slice A0_0 l0_0.length c0_0) := (blk_cell BK305.out 0).trans rfl
              have hcz27_1 : wc.cell? ⟨gb305, 1, none⟩ = some (.slice A0_1 l0_1.length c0_1) := (blk_cell BK305.out 1).trans rfl
              have hcz27_2 : wc.cell? ⟨gb305, 2, none⟩ = some (.int .i64 a0_2) := (blk_cell BK305.out 2).trans rfl
              have hfz27_0 := blk_frozen BK305.out 0
              have hfz27_1 := blk_frozen BK305.out 1
              have hfz27_2 := blk_frozen BK305.out 2
              go_wp2_with (first | ((with_reducible refine gate_callee (f := 23) rfl ?_); refine goesL_ (some 26) rfl rfl Try.func23 (by kernel_rfl) rfl #[.int .i64 a3_1, .int .i64 0, .int .i64 (wrap64 ((l0_0.length : Int) - 1))] rfl (by (try simp only [List.map_toArray, List.map_cons, List.map_nil]); first | done | rfl | (simp only [List.length_drop, List.length_take]; rfl)) ?_; (with_reducible refine (code_within_int.calls a3_1 0 (wrap64 ((l0_0.length : Int) - 1)) true _ A20.out).mono ?_); rintro e w' ⟨rfl, ⟨nd, rfl⟩⟩; refine ⟨_, rfl, ?_⟩; have hcz28_0 : wc.cell? ⟨gb306, 0, none⟩ = some (.int .i64 a2_0) := (blk_cell BK306.out 0).trans rfl; have hcz28_1 : wc.cell? ⟨gb306, 1, none⟩ = some (.int .i64 a2_1) := (blk_cell BK306.out 1).trans rfl; have hcz28_2 : wc.cell? ⟨gb306, 2, none⟩ = some (.int .i64 a2_2) := (blk_cell BK306.out 2).trans rfl; have hcz28_3 : wc.cell? ⟨gb306, 3, none⟩ = some (.slice A2_3 l2_3.length c2_3) := (blk_cell BK306.out 3).trans rfl; have hfz28_0 := blk_frozen BK306.out 0; have hfz28_1 := blk_frozen BK306.out 1; have hfz28_2 := blk_frozen BK306.out 2; have hfz28_3 := blk_frozen BK306.out 3))
              go_ret
              exact ⟨by first | rfl | (simp [errW_none, errW_some] <;> rfl) | (simp [*, errW_none, errW_some] <;> rfl), by repeat (first | (with_reducible first | exact HB.out | apply below_alloc | apply pw_below_drewN | apply below_drew1 | refine below_set ?_ GE305.out | refine below_set ?_ GE306.out | refine below_set ?_ GE307.out) | exact HB.out)⟩
            · rw [if_neg c22] at H
              have c22b0 : (a2_0 == 1) = false := beq_eq_false_iff_ne.mpr c22
              have c22b1 : (a2_0 != 1) = true := bne_iff_ne.mpr c22
              by_cases c29 : a2_0 = 3
              · rw [if_pos c29] at H
                have c29b0 : (a2_0 == 3) = true := beq_iff_eq.mpr c29
                have c29b1 : (a2_0 != 3) = false := bne_eq_false_iff_eq.mpr c29
                clear c29
                by_cases c30 : a3_0 = 1
                · rw [if_pos c30] at H
                  have c30b0 : (a3_0 == 1) = true := beq_iff_eq.mpr c30
                  have c30b1 : (a3_0 != 1) = false := bne_eq_false_iff_eq.mpr c30
                  clear c30
                  have H' := Aside0.mk H
                  clear H
                  have hnb31 := NB307_305.out
                  have hnc31 := NB305_307.out
                  have hnb32 := NB307_306.out
                  have hnc32 := NB306_307.out
                  have hcz33_0 : wc.cell? ⟨gb307, 0, none⟩ = some (.int .i64 a3_0) := (blk_cell BK307.out 0).trans rfl
                  have hcz33_1 : wc.cell? ⟨gb307, 1, none⟩ = some (.int .i64 a3_1) := (blk_cell BK307.out 1).trans rfl
                  have hfz33_0 := blk_frozen BK307.out 0
                  have hfz33_1 := blk_frozen BK307.out 1
                  have hnb34 := NB305_306.out
                  have hnc34 := NB306_305.out
                  have hcz35_0 : wc.cell? ⟨gb305, 0, none⟩ = some (.slice A0_0 l0_0.length c0_0) := (blk_cell BK305.out 0).trans rfl
                  have hcz35_1 : wc.cell? ⟨gb305, 1, none⟩ = some (.slice A0_1 l0_1.length c0_1) := (blk_cell BK305.out 1).trans rfl
                  have hcz35_2 : wc.cell? ⟨gb305, 2, none⟩ = some (.int .i64 a0_2) := (blk_cell BK305.out 2).trans rfl
                  have hfz35_0 := blk_frozen BK305.out 0
                  have hfz35_1 := blk_frozen BK305.out 1
                  have hfz35_2 := blk_frozen BK305.out 2
                  go_wp2_with (first | ((with_reducible refine gate_callee (f := 23) rfl ?_); refine goesL_ (some 26) rfl rfl Try.func23 (by kernel_rfl) rfl #[.int .i64 a3_1, .int .i64 0, .int .i64 (wrap64 ((l0_0.length : Int) - 1))] rfl (by (try simp only [List.map_toArray, List.map_cons, List.map_nil]); first | done | rfl | (simp only [List.length_drop, List.length_take]; rfl)) ?_; (with_reducible refine (code_within_int.calls a3_1 0 (wrap64 ((l0_0.length : Int) - 1)) true _ A20.out).mono ?_); rintro e w' ⟨rfl, ⟨nd, rfl⟩⟩; refine ⟨_, rfl, ?_⟩; have hcz36_0 : wc.cell? ⟨gb306, 0, none⟩ = some (.int .i64 a2_0) := (blk_cell BK306.out 0).trans rfl; have hcz36_1 : wc.cell? ⟨gb306, 1, none⟩ = some (.int .i64 a2_1) := (blk_cell BK306.out 1).trans rfl; have hcz36_2 : wc.cell? ⟨gb306, 2, none⟩ = some (.int .i64 a2_2) := (blk_cell BK306.out 2).trans rfl; have hcz36_3 : wc.cell? ⟨gb306, 3, none⟩ = some (.slice A2_3 l2_3.length c2_3) := (blk_cell BK306.out 3).trans rfl; have hfz36_0 := blk_frozen BK306.out 0; have hfz36_1 := blk_frozen BK306.out 1; have hfz36_2 := blk_frozen BK306.out 2; have hfz36_3 := blk_frozen BK306.out 3))
                  go_meet
                  case rel => exact ⟨_, H', ⟨by have := HJ8.out; first | omega | exact Nat.le_refl _⟩, ⟨by (with_reducible repeat (first | refine blk_drewN ?_ _ | refine blk_drew ?_ | refine blk_alloc ?_ _)); exact BK305.out⟩, ⟨by (with_reducible repeat (first | refine blk_drewN ?_ _ | refine blk_drew ?_ | refine blk_alloc ?_ _)); exact BK306.out⟩, ⟨by (with_reducible repeat (first | refine blk_drewN ?_ _ | refine blk_drew ?_ | refine blk_alloc ?_ _)); exact BK307.out⟩, ⟨by repeat (first | (with_reducible first | exact HB.out | apply below_alloc | apply pw_below_drewN | apply below_drew1 | refine below_set ?_ GE305.out | refine below_set ?_ GE306.out | refine below_set ?_ GE307.out) | exact HB.out)⟩⟩
                · rw [if_neg c30] at H
                  have c30b0 : (a3_0 == 1) = false := beq_eq_false_iff_ne.mpr c30
                  have c30b1 : (a3_0 != 1) = true := bne_iff_ne.mpr c30
                  obtain rfl := Option.some.inj H
                  have hnb37 := NB307_305.out
                  have hnc37 := NB305_307.out
                  have hnb38 := NB307_306.out
                  have hnc38 := NB306_307.out
                  have hcz39_0 : wc.cell? ⟨gb307, 0, none⟩ = some (.int .i64 a3_0) := (blk_cell BK307.out 0).trans rfl
                  have hcz39_1 : wc.cell? ⟨gb307, 1, none⟩ = some (.int .i64 a3_1) := (blk_cell BK307.out 1).trans rfl
                  have hfz39_0 := blk_frozen BK307.out 0
                  have hfz39_1 := blk_frozen BK307.out 1
                  have hnb40 := NB305_306.out
                  have hnc40 := NB306_305.out
                  have hcz41_0 : wc.cell? ⟨gb305, 0, none⟩ = some (.slice A0_0 l0_0.length c0_0) := (blk_cell BK305.out 0).trans rfl
                  have hcz41_1 : wc.cell? ⟨gb305, 1, none⟩ = some (.slice A0_1 l0_1.length c0_1) := (blk_cell BK305.out 1).trans rfl
                  have hcz41_2 : wc.cell? ⟨gb305, 2, none⟩ = some (.int .i64 a0_2) := (blk_cell BK305.out 2).trans rfl
                  have hfz41_0 := blk_frozen BK305.out 0
                  have hfz41_1 := blk_frozen BK305.out 1
                  have hfz41_2 := blk_frozen BK305.out 2
                  go_wp2_with (first | ((with_reducible refine gate_callee (f := 23) rfl ?_); refine goesL_ (some 26) rfl rfl Try.func23 (by kernel_rfl) rfl #[.int .i64 a3_1, .int .i64 0, .int .i64 (wrap64 ((l0_0.length : Int) - 1))] rfl (by (try simp only [List.map_toArray, List.map_cons, List.map_nil]); first | done | rfl | (simp only [List.length_drop, List.length_take]; rfl)) ?_; (with_reducible refine (code_within_int.calls a3_1 0 (wrap64 ((l0_0.length : Int) - 1)) true _ A20.out).mono ?_); rintro e w' ⟨rfl, ⟨nd, rfl⟩⟩; refine ⟨_, rfl, ?_⟩; have hcz42_0 : wc.cell? ⟨gb306, 0, none⟩ = some (.int .i64 a2_0) := (blk_cell BK306.out 0).trans rfl; have hcz42_1 : wc.cell? ⟨gb306, 1, none⟩ = some (.int .i64 a2_1) := (blk_cell BK306.out 1).trans rfl; have hcz42_2 : wc.cell? ⟨gb306, 2, none⟩ = some (.int .i64 a2_2) := (blk_cell BK306.out 2).trans rfl; have hcz42_3 : wc.cell? ⟨gb306, 3, none⟩ = some (.slice A2_3 l2_3.length c2_3) := (blk_cell BK306.out 3).trans rfl; have hfz42_0 := blk_frozen BK306.out 0; have hfz42_1 := blk_frozen BK306.out 1; have hfz42_2 := blk_frozen BK306.out 2; have hfz42_3 := blk_frozen BK306.out 3))
                  go_ret
                  exact ⟨by first | rfl | (simp [errW_none, errW_some] <;> rfl) | (simp [*, errW_none, errW_some] <;> rfl), by repeat (first | (with_reducible first | exact HB.out | apply below_alloc | apply pw_below_drewN | apply below_drew1 | refine below_set ?_ GE305.out | refine below_set ?_ GE306.out | refine below_set ?_ GE307.out) | exact HB.out)⟩
              · rw [if_neg c29] at H
                have c29b0 : (a2_0 == 3) = false := beq_eq_false_iff_ne.mpr c29
                have c29b1 : (a2_0 != 3) = true := bne_iff_ne.mpr c29
                have H' := Aside0.mk H
                clear H
                have hnb43 := NB307_305.out
                have hnc43 := NB305_307.out
                have hnb44 := NB307_306.out
                have hnc44 := NB306_307.out
                have hcz45_0 : wc.cell? ⟨gb307, 0, none⟩ = some (.int .i64 a3_0) := (blk_cell BK307.out 0).trans rfl
                have hcz45_1 : wc.cell? ⟨gb307, 1, none⟩ = some (.int .i64 a3_1) := (blk_cell BK307.out 1).trans rfl
                have hfz45_0 := blk_frozen BK307.out 0
                have hfz45_1 := blk_frozen BK307.out 1
                have hnb46 := NB305_306.out
                have hnc46 := NB306_305.out
                have hcz47_0 : wc.cell? ⟨gb305, 0, none⟩ = some (.slice A0_0 l0_0.length c0_0) := (blk_cell BK305.out 0).trans rfl
                have hcz47_1 : wc.cell? ⟨gb305, 1, none⟩ = some (.slice A0_1 l0_1.length c0_1) := (blk_cell BK305.out 1).trans rfl
                have hcz47_2 : wc.cell? ⟨gb305, 2, none⟩ = some (.int .i64 a0_2) := (blk_cell BK305.out 2).trans rfl
                have hfz47_0 := blk_frozen BK305.out 0
                have hfz47_1 := blk_frozen BK305.out 1
                have hfz47_2 := blk_frozen BK305.out 2
                go_wp2_with (first | ((with_reducible refine gate_callee (f := 23) rfl ?_); refine goesL_ (some 26) rfl rfl Try.func23 (by kernel_rfl) rfl #[.int .i64 a3_1, .int .i64 0, .int .i64 (wrap64 ((l0_0.length : Int) - 1))] rfl (by (try simp only [List.map_toArray, List.map_cons, List.map_nil]); first | done | rfl | (simp only [List.length_drop, List.length_take]; rfl)) ?_; (with_reducible refine (code_within_int.calls a3_1 0 (wrap64 ((l0_0.length : Int) - 1)) true _ A20.out).mono ?_); rintro e w' ⟨rfl, ⟨nd, rfl⟩⟩; refine ⟨_, rfl, ?_⟩; have hcz48_0 : wc.cell? ⟨gb306, 0, none⟩ = some (.int .i64 a2_0) := (blk_cell BK306.out 0).trans rfl; have hcz48_1 : wc.cell? ⟨gb306, 1, none⟩ = some (.int .i64 a2_1) := (blk_cell BK306.out 1).trans rfl; have hcz48_2 : wc.cell? ⟨gb306, 2, none⟩ = some (.int .i64 a2_2) := (blk_cell BK306.out 2).trans rfl; have hcz48_3 : wc.cell? ⟨gb306, 3, none⟩ = some (.slice A2_3 l2_3.length c2_3) := (blk_cell BK306.out 3).trans rfl; have hfz48_0 := blk_frozen BK306.out 0; have hfz48_1 := blk_frozen BK306.out 1; have hfz48_2 := blk_frozen BK306.out 2; have hfz48_3 := blk_frozen BK306.out 3))
                go_meet
                case rel => exact ⟨_, H', ⟨by have := HJ8.out; first | omega | exact Nat.le_refl _⟩, ⟨by (with_reducible repeat (first | refine blk_drewN ?_ _ | refine blk_drew ?_ | refine blk_alloc ?_ _)); exact BK305.out⟩, ⟨by (with_reducible repeat (first | refine blk_drewN ?_ _ | refine blk_drew ?_ | refine blk_alloc ?_ _)); exact BK306.out⟩, ⟨by (with_reducible repeat (first | refine blk_drewN ?_ _ | refine blk_drew ?_ | refine blk_alloc ?_ _)); exact BK307.out⟩, ⟨by repeat (first | (with_reducible first | exact HB.out | apply below_alloc | apply pw_below_drewN | apply below_drew1 | refine below_set ?_ GE305.out | refine below_set ?_ GE306.out | refine below_set ?_ GE307.out) | exact HB.out)⟩⟩
          · replace c21 := Bool.eq_false_iff.mpr c21
            subst c21
            have H1 : (some false) = some r := by rw [if_neg (show ¬ (false = true) by decide)] at H; exact H
            clear H
            have H := H1
            clear H1
            obtain rfl := Option.some.inj H
            have hnb49 := NB307_305.out
            have hnc49 := NB305_307.out
            have hnb50 := NB307_306.out
            have hnc50 := NB306_307.out
            have hcz51_0 : wc.cell? ⟨gb307, 0, none⟩ = some (.int .i64 a3_0) := (blk_cell BK307.out 0).trans rfl
            have hcz51_1 : wc.cell? ⟨gb307, 1, none⟩ = some (.int .i64 a3_1) := (blk_cell BK307.out 1).trans rfl
            have hfz51_0 := blk_frozen BK307.out 0
            have hfz51_1 := blk_frozen BK307.out 1
            have hnb52 := NB305_306.out
            have hnc52 := NB306_305.out
            have hcz53_0 : wc.cell? ⟨gb305, 0, none⟩ = some (.slice A0_0 l0_0.length c0_0) := (blk_cell BK305.out 0).trans rfl
            have hcz53_1 : wc.cell? ⟨gb305, 1, none⟩ = some (.slice A0_1 l0_1.length c0_1) := (blk_cell BK305.out 1).trans rfl
            have hcz53_2 : wc.cell? ⟨gb305, 2, none⟩ = some (.int .i64 a0_2) := (blk_cell BK305.out 2).trans rfl
            have hfz53_0 := blk_frozen BK305.out 0
            have hfz53_1 := blk_frozen BK305.out 1
            have hfz53_2 := blk_frozen BK305.out 2
            go_wp2_with (first | ((with_reducible refine gate_callee (f := 23) rfl ?_); refine goesL_ (some 26) rfl rfl Try.func23 (by kernel_rfl) rfl #[.int .i64 a3_1, .int .i64 0, .int .i64 (wrap64 ((l0_0.length : Int) - 1))] rfl (by (try simp only [List.map_toArray, List.map_cons, List.map_nil]); first | done | rfl | (simp only [List.length_drop, List.length_take]; rfl)) ?_; (with_reducible refine (code_within_int.calls a3_1 0 (wrap64 ((l0_0.length : Int) - 1)) false _ A20.out).mono ?_); rintro e w' ⟨rfl, ⟨nd, rfl⟩⟩; refine ⟨_, rfl, ?_⟩))
            go_ret
            exact ⟨by first | rfl | (simp [errW_none, errW_some] <;> rfl) | (simp [*, errW_none, errW_some] <;> rfl), by repeat (first | (with_reducible first | exact HB.out | apply below_alloc | apply pw_below_drewN | apply below_drew1 | refine below_set ?_ GE305.out | refine below_set ?_ GE306.out | refine below_set ?_ GE307.out) | exact HB.out)⟩
  case rest =>
    clear HC5
    try clear c1
    try clear c2
    try clear p2
    try clear c3
    try clear c4
    try clear c5
    try clear p6
    try clear c10
    try clear c10b0
    try clear c10b1
    try clear c11
    try clear c12
    try clear c14
    try clear c16
    try clear c17
    try clear c19
    try clear c21
    try clear c22
    try clear c22b0
    try clear c22b1
    try clear c23
    try clear c24
    try clear c26
    try clear c29
    try clear c29b0
    try clear c29b1
    try clear c30
    try clear c30b0
    try clear c30b1
    try clear c31
    try clear c32
    try clear c34
    try clear c37
    try clear c38
    try clear c40
    try clear c43
    try clear c44
    try clear c46
    try clear c49
    try clear c50
    try clear c52
    try clear hcz13_0
    try clear hcz13_1
    try clear hcz13_2
    try clear hcz13_3
    try clear hcz15_0
    try clear hcz15_1
    try clear hcz18_0
    try clear hcz18_1
    try clear hcz18_2
    try clear hcz18_3
    try clear hcz25_0
    try clear hcz25_1
    try clear hcz27_0
    try clear hcz27_1
    try clear hcz27_2
    try clear hcz28_0
    try clear hcz28_1
    try clear hcz28_2
    try clear hcz28_3
    try clear hcz33_0
    try clear hcz33_1
    try clear hcz35_0
    try clear hcz35_1
    try clear hcz35_2
    try clear hcz36_0
    try clear hcz36_1
    try clear hcz36_2
    try clear hcz36_3
    try clear hcz39_0
    try clear hcz39_1
    try clear hcz41_0
    try clear hcz41_1
    try clear hcz41_2
    try clear hcz42_0
    try clear hcz42_1
    try clear hcz42_2
    try clear hcz42_3
    try clear hcz45_0
    try clear hcz45_1
    try clear hcz47_0
    try clear hcz47_1
    try clear hcz47_2
    try clear hcz48_0
    try clear hcz48_1
    try clear hcz48_2
    try clear hcz48_3
    try clear hcz51_0
    try clear hcz51_1
    try clear hcz53_0
    try clear hcz53_1
    try clear hcz53_2
    try clear hfz13_0
    try clear hfz13_1
    try clear hfz13_2
    try clear hfz13_3
    try clear hfz15_0
    try clear hfz15_1
    try clear hfz18_0
    try clear hfz18_1
    try clear hfz18_2
    try clear hfz18_3
    try clear hfz25_0
    try clear hfz25_1
    try clear hfz27_0
    try clear hfz27_1
    try clear hfz27_2
    try clear hfz28_0
    try clear hfz28_1
    try clear hfz28_2
    try clear hfz28_3
    try clear hfz33_0
    try clear hfz33_1
    try clear hfz35_0
    try clear hfz35_1
    try clear hfz35_2
    try clear hfz36_0
    try clear hfz36_1
    try clear hfz36_2
    try clear hfz36_3
    try clear hfz39_0
    try clear hfz39_1
    try clear hfz41_0
    try clear hfz41_1
    try clear hfz41_2
    try clear hfz42_0
    try clear hfz42_1
    try clear hfz42_2
    try clear hfz42_3
    try clear hfz45_0
    try clear hfz45_1
    try clear hfz47_0
    try clear hfz47_1
    try clear hfz47_2
    try clear hfz48_0
    try clear hfz48_1
    try clear hfz48_2
    try clear hfz48_3
    try clear hfz51_0
    try clear hfz51_1
    try clear hfz53_0
    try clear hfz53_1
    try clear hfz53_2
    try clear p2
    obtain ⟨kq, HA, HJ4, BK305, BK306, BK307, HB⟩ := hcut
    cases kq with
    | zero => exact absurd HA.out (by simp [code_part.j1])
    | succ kj4 =>
      have H := HA.out
      clear HA
      simp only [code_part.j1] at H
      by_cases c54 : 0 ≤ a3_1
      · rw [if_pos c54] at H
        have c54b0 : decide (0 ≤ a3_1) = true := decide_eq_true c54
        clear c54
        by_cases c55 : a3_1 < (l0_0.length : Int)
        · rw [if_pos c55] at H
          have c55b0 : decide (a3_1 < (l0_0.length : Int)) = true := decide_eq_true c55
          clear c55
          by_cases c56 : a3_1 < a1
          · rw [if_pos c56] at H
            have c56b0 : decide (a3_1 < a1) = true := decide_eq_true c56
            clear c56
            replace H := Option.bind_eq_some_iff.mp H
            obtain ⟨t310, A570, H⟩ := H
            replace H : (if t310 = true then ((code_within_int.f a3_0 0 (wrap64 (a2_1 - ((rd_T48 l0_0 a3_1).f1)))).bind fun t311 => (some t311)) else (some false)) = some r := H
            have A57 := Aside0.mk A570
            clear A570
            by_cases c58 : t310 = true
            · subst c58
              have H1 : ((code_within_int.f a3_0 0 (wrap64 (a2_1 - ((rd_T48 l0_0 a3_1).f1)))).bind fun t311 => (some t311)) = some r := by rw [if_pos rfl] at H; exact H
              clear H
              have H := H1
              clear H1
              replace H := Option.bind_eq_some_iff.mp H
              obtain ⟨t311, A590, H⟩ := H
              replace H : (some t311) = some r := H
              have A59 := Aside0.mk A590
              clear A590
              obtain rfl := Option.some.inj H
              have hnb60 := NB305_306.out
              have hnc60 := NB306_305.out
              have hnb61 := NB305_307.out
              have hnc61 := NB307_305.out
              have hcz62_0 : wc.cell? ⟨gb305, 0, none⟩ = some (.slice A0_0 l0_0.length c0_0) := (blk_cell BK305.out 0).trans rfl
              have hcz62_1 : wc.cell? ⟨gb305, 1, none⟩ = some (.slice A0_1 l0_1.length c0_1) := (blk_cell BK305.out 1).trans rfl
              have hcz62_2 : wc.cell? ⟨gb305, 2, none⟩ = some (.int .i64 a0_2) := (blk_cell BK305.out 2).trans rfl
              have hfz62_0 := blk_frozen BK305.out 0
              have hfz62_1 := blk_frozen BK305.out 1
              have hfz62_2 := blk_frozen BK305.out 2
              have hnb63 := NB307_306.out
              have hnc63 := NB306_307.out
              have hcz64_0 : wc.cell? ⟨gb307, 0, none⟩ = some (.int .i64 a3_0) := (blk_cell BK307.out 0).trans rfl
              have hcz64_1 : wc.cell? ⟨gb307, 1, none⟩ = some (.int .i64 a3_1) := (blk_cell BK307.out 1).trans rfl
              have hfz64_0 := blk_frozen BK307.out 0
              have hfz64_1 := blk_frozen BK307.out 1
              have p309 : 0 ≤ (a3_1 : Int) := of_decide_eq_true (by first | (with_reducible assumption) | assumption)
              have q309 : a3_1 < (l0_0.length : Int) := of_decide_eq_true (by first | (with_reducible assumption) | assumption)
              obtain ⟨ad309, A309_3, c309_3, e309, hx309_0, hx309_1, hx309_2, hx309_3, hl309_3, hi309_3⟩ := at_T48 HR0_0.out a3_1 p309 q309
              cases e309
              replace hx309_0 := (HB.out.cell (World.block_lt_of_cell? w _ hx309_0)).trans hx309_0
              replace hx309_1 := (HB.out.cell (World.block_lt_of_cell? w _ hx309_1)).trans hx309_1
              replace hx309_2 := (HB.out.cell (World.block_lt_of_cell? w _ hx309_2)).trans hx309_2
              replace hx309_3 := (HB.out.cell (World.block_lt_of_cell? w _ hx309_3)).trans hx309_3
              have HR309_3 := Aside0.mk hi309_3
              have HC309_3 := Aside0.mk hl309_3
              clear hi309_3 hl309_3
              replace p309 := eq_true p309
              replace q309 := eq_true q309
              go_wp2_with (first | (go_at_call 23; (with_reducible refine (code_within_int.calls ((rd_T48 l0_0 a3_1).f1) 1 64 true _ A57.out).mono ?_); rintro e w' ⟨rfl, ⟨nd, rfl⟩⟩; have hcz65_0 : wc.cell? ⟨gb306, 0, none⟩ = some (.int .i64 a2_0) := (blk_cell BK306.out 0).trans rfl; have hcz65_1 : wc.cell? ⟨gb306, 1, none⟩ = some (.int .i64 a2_1) := (blk_cell BK306.out 1).trans rfl; have hcz65_2 : wc.cell? ⟨gb306, 2, none⟩ = some (.int .i64 a2_2) := (blk_cell BK306.out 2).trans rfl; have hcz65_3 : wc.cell? ⟨gb306, 3, none⟩ = some (.slice A2_3 l2_3.length c2_3) := (blk_cell BK306.out 3).trans rfl; have hfz65_0 := blk_frozen BK306.out 0; have hfz65_1 := blk_frozen BK306.out 1; have hfz65_2 := blk_frozen BK306.out 2; have hfz65_3 := blk_frozen BK306.out 3) | (go_at_call 23; (with_reducible refine (code_within_int.calls a3_0 0 (wrap64 (a2_1 - ((rd_T48 l0_0 a3_1).f1))) t311 _ A59.out).mono ?_); rintro e w' ⟨rfl, ⟨nd, rfl⟩⟩))
              go_ret
              exact ⟨by first | rfl | (simp [errW_none, errW_some] <;> rfl) | (simp [*, errW_none, errW_some] <;> rfl), by repeat (first | (with_reducible first | exact HB.out | apply below_alloc | apply pw_below_drewN | apply below_drew1 | refine below_set ?_ GE305.out | refine below_set ?_ GE306.out | refine below_set ?_ GE307.out) | exact HB.out)⟩
            · replace c58 := Bool.eq_false_iff.mpr c58
              subst c58
              have H1 : (some false) = some r := by rw [if_neg (show ¬ (false = true) by decide)] at H; exact H
              clear H
              have H := H1
              clear H1
              obtain rfl := Option.some.inj H
              have hnb66 := NB305_306.out
              have hnc66 := NB306_305.out
              have hnb67 := NB305_307.out
              have hnc67 := NB307_305.out
              have hcz68_0 : wc.cell? ⟨gb305, 0, none⟩ = some (.slice A0_0 l0_0.length c0_0) := (blk_cell BK305.out 0).trans rfl
              have hcz68_1 : wc.cell? ⟨gb305, 1, none⟩ = some (.slice A0_1 l0_1.length c0_1) := (blk_cell BK305.out 1).trans rfl
              have hcz68_2 : wc.cell? ⟨gb305, 2, none⟩ = some (.int .i64 a0_2) := (blk_cell BK305.out 2).trans rfl
              have hfz68_0 := blk_frozen BK305.out 0
              have hfz68_1 := blk_frozen BK305.out 1
              have hfz68_2 := blk_frozen BK305.out 2
              have hnb69 := NB307_306.out
              have hnc69 := NB306_307.out
              have hcz70_0 : wc.cell? ⟨gb307, 0, none⟩ = some (.int .i64 a3_0) := (blk_cell BK307.out 0).trans rfl
              have hcz70_1 : wc.cell? ⟨gb307, 1, none⟩ = some (.int .i64 a3_1) := (blk_cell BK307.out 1).trans rfl
              have hfz70_0 := blk_frozen BK307.out 0
              have hfz70_1 := blk_frozen BK307.out 1
              have p309 : 0 ≤ (a3_1 : Int) := of_decide_eq_true (by first | (with_reducible assumption) | assumption)
              have q309 : a3_1 < (l0_0.length : Int) := of_decide_eq_true (by first | (with_reducible assumption) | assumption)
              obtain ⟨ad309, A309_3, c309_3, e309, hx309_0, hx309_1, hx309_2, hx309_3, hl309_3, hi309_3⟩ := at_T48 HR0_0.out a3_1 p309 q309
              cases e309
              replace hx309_0 := (HB.out.cell (World.block_lt_of_cell? w _ hx309_0)).trans hx309_0
              replace hx309_1 := (HB.out.cell (World.block_lt_of_cell? w _ hx309_1)).trans hx309_1
              replace hx309_2 := (HB.out.cell (World.block_lt_of_cell? w _ hx309_2)).trans hx309_2
              replace hx309_3 := (HB.out.cell (World.block_lt_of_cell? w _ hx309_3)).trans hx309_3
              have HR309_3 := Aside0.mk hi309_3
              have HC309_3 := Aside0.mk hl309_3
              clear hi309_3 hl309_3
              replace p309 := eq_true p309
              replace q309 := eq_true q309
              go_wp2_with (first | (go_at_call 23; (with_reducible refine (code_within_int.calls ((rd_T48 l0_0 a3_1).f1) 1 64 false _ A57.out).mono ?_); rintro e w' ⟨rfl, ⟨nd, rfl⟩⟩))
              go_ret
              exact ⟨by first | rfl | (simp [errW_none, errW_some] <;> rfl) | (simp [*, errW_none, errW_some] <;> rfl), by repeat (first | (with_reducible first | exact HB.out | apply below_alloc | apply pw_below_drewN | apply below_drew1 | refine below_set ?_ GE305.out | refine below_set ?_ GE306.out | refine below_set ?_ GE307.out) | exact HB.out)⟩
          · rw [if_neg c56] at H
            have c56b0 : decide (a3_1 < a1) = false := decide_eq_false c56
            clear c56
            obtain rfl := Option.some.inj H
            have hnb71 := NB305_306.out
            have hnc71 := NB306_305.out
            have hnb72 := NB305_307.out
            have hnc72 := NB307_305.out
            have hcz73_0 : wc.cell? ⟨gb305, 0, none⟩ = some (.slice A0_0 l0_0.length c0_0) := (blk_cell BK305.out 0).trans rfl
            have hcz73_1 : wc.cell? ⟨gb305, 1, none⟩ = some (.slice A0_1 l0_1.length c0_1) := (blk_cell BK305.out 1).trans rfl
            have hcz73_2 : wc.cell? ⟨gb305, 2, none⟩ = some (.int .i64 a0_2) := (blk_cell BK305.out 2).trans rfl
            have hfz73_0 := blk_frozen BK305.out 0
            have hfz73_1 := blk_frozen BK305.out 1
            have hfz73_2 := blk_frozen BK305.out 2
            have hnb74 := NB307_306.out
            have hnc74 := NB306_307.out
            have hcz75_0 : wc.cell? ⟨gb307, 0, none⟩ = some (.int .i64 a3_0) := (blk_cell BK307.out 0).trans rfl
            have hcz75_1 : wc.cell? ⟨gb307, 1, none⟩ = some (.int .i64 a3_1) := (blk_cell BK307.out 1).trans rfl
            have hfz75_0 := blk_frozen BK307.out 0
            have hfz75_1 := blk_frozen BK307.out 1
            have p309 : 0 ≤ (a3_1 : Int) := of_decide_eq_true (by first | (with_reducible assumption) | assumption)
            have q309 : a3_1 < (l0_0.length : Int) := of_decide_eq_true (by first | (with_reducible assumption) | assumption)
            obtain ⟨ad309, A309_3, c309_3, e309, hx309_0, hx309_1, hx309_2, hx309_3, hl309_3, hi309_3⟩ := at_T48 HR0_0.out a3_1 p309 q309
            cases e309
            replace hx309_0 := (HB.out.cell (World.block_lt_of_cell? w _ hx309_0)).trans hx309_0
            replace hx309_1 := (HB.out.cell (World.block_lt_of_cell? w _ hx309_1)).trans hx309_1
            replace hx309_2 := (HB.out.cell (World.block_lt_of_cell? w _ hx309_2)).trans hx309_2
            replace hx309_3 := (HB.out.cell (World.block_lt_of_cell? w _ hx309_3)).trans hx309_3
            have HR309_3 := Aside0.mk hi309_3
            have HC309_3 := Aside0.mk hl309_3
            clear hi309_3 hl309_3
            replace p309 := eq_true p309
            replace q309 := eq_true q309
            go_wp2
            go_ret
            exact ⟨by first | rfl | (simp [errW_none, errW_some] <;> rfl) | (simp [*, errW_none, errW_some] <;> rfl), by repeat (first | (with_reducible first | exact HB.out | apply below_alloc | apply pw_below_drewN | apply below_drew1 | refine below_set ?_ GE305.out | refine below_set ?_ GE306.out | refine below_set ?_ GE307.out) | exact HB.out)⟩
        · rw [if_neg c55] at H
          exact absurd H (by simp)
      · rw [if_neg c54] at H
        exact absurd H (by simp)

end Go.Proofs.Ytoiakaagbgfocaa.PC
