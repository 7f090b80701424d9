-- PRINTED by print.py (a twelfth state) out of the translation. Not trusted: Lean checks it.
import Derived.Test.YtoiakaagbgfocaaPCx0
namespace Go.Proofs.Ytoiakaagbgfocaa.PC
open Go.RowKit Go.Proofs.YtoiakaagbgfocaaW.PrintWords Go.Proofs.YtoiakaagbgfocaaW.PrintLast Go.Proofs.YtoiakaagbgfocaaW.PrintMore
attribute [local go_sem] max2_int min2_int max_two min_two max_three min_three max_four min_four   -- for this text's walks alone
set_option linter.unusedVariables false
set_option linter.unusedSimpArgs false

/-! ### drogueref22_Numbers: function 21 -/
mutual
def drogueref22_Numbers.l0 : Nat → List Int → Int → List (S48) → List (S40) → Int → Option (List Int)
  | 0, _, _, _, _, _ => none
  | k + 1, x3, x4, x209000, x209001, x209002 => if x4 < (x209000.length : Int) then (if 0 ≤ x4 then ((some (([(rd_T48 x209000 x4).f0, (rd_T48 x209000 x4).f1, (rd_T48 x209000 x4).f2, (((rd_T48 x209000 x4).f3).length : Int)] : List Int) : List Int)).bind fun y214 => (if x3.length + y214.length < 17592186044416 then (drogueref22_Numbers.l1 k (x3 ++ y214) x4 0 x209000 x209001 x209002 ((rd_T48 x209000 x4).f0) ((rd_T48 x209000 x4).f1) ((rd_T48 x209000 x4).f2) ((rd_T48 x209000 x4).f3)) else (none))) else (none)) else (if x3.length < 17592186044416 then (drogueref22_Numbers.l2 k (x3 ++ [(x209001.length : Int)]) 0 x209000 x209001 x209002) else (none))
def drogueref22_Numbers.l1 : Nat → List Int → Int → Int → List (S48) → List (S40) → Int → Int → Int → Int → List (S73) → Option (List Int)
  | 0, _, _, _, _, _, _, _, _, _, _ => none
  | k + 1, x3, x4, x6, x209000, x209001, x209002, x214000, x214001, x214002, x214003 => if x6 < (x214003.length : Int) then (if 0 ≤ x6 then ((some (([(rd_T73 x214003 x6).f0, (rd_T73 x214003 x6).f1] : List Int) : List Int)).bind fun y222 => (if x3.length + y222.length < 17592186044416 then (drogueref22_Numbers.l1 k (x3 ++ y222) x4 (wrap64 (x6 + 1)) x209000 x209001 x209002 x214000 x214001 x214002 x214003) else (none))) else (none)) else (drogueref22_Numbers.l0 k x3 (wrap64 (x4 + 1)) x209000 x209001 x209002)
def drogueref22_Numbers.l2 : Nat → List Int → Int → List (S48) → List (S40) → Int → Option (List Int)
  | 0, _, _, _, _, _ => none
  | k + 1, x3, x7, x209000, x209001, x209002 => if x7 < (x209001.length : Int) then (if 0 ≤ x7 then ((some (([(rd_T40 x209001 x7).f0, (rd_T40 x209001 x7).f1, (rd_T40 x209001 x7).f2, (((rd_T40 x209001 x7).f3).length : Int)] : List Int) : List Int)).bind fun y233 => (if x3.length + y233.length < 17592186044416 then (drogueref22_Numbers.l3 k (x3 ++ y233) x7 0 x209000 x209001 x209002 ((rd_T40 x209001 x7).f0) ((rd_T40 x209001 x7).f1) ((rd_T40 x209001 x7).f2) ((rd_T40 x209001 x7).f3) ((rd_T40 x209001 x7).f4)) else (none))) else (none)) else (some x3)
def drogueref22_Numbers.l3 : Nat → List Int → Int → Int → List (S48) → List (S40) → Int → Int → Int → Int → List (S42) → List (S66) → Option (List Int)
  | 0, _, _, _, _, _, _, _, _, _, _, _ => none
  | k + 1, x3, x7, x9, x209000, x209001, x209002, x233000, x233001, x233002, x233003, x233004 => if x9 < (x233003.length : Int) then (if 0 ≤ x9 then ((some (([(rd_T42 x233003 x9).f0, (rd_T42 x233003 x9).f1, (rd_T42 x233003 x9).f2, (rd_T42 x233003 x9).f3] : List Int) : List Int)).bind fun y243 => (if x3.length + y243.length < 17592186044416 then (drogueref22_Numbers.l3 k (x3 ++ y243) x7 (wrap64 (x9 + 1)) x209000 x209001 x209002 x233000 x233001 x233002 x233003 x233004) else (none))) else (none)) else (if x3.length < 17592186044416 then (drogueref22_Numbers.l4 k (x3 ++ [(x233004.length : Int)]) x7 0 x209000 x209001 x209002 x233000 x233001 x233002 x233003 x233004) else (none))
def drogueref22_Numbers.l4 : Nat → List Int → Int → Int → List (S48) → List (S40) → Int → Int → Int → Int → List (S42) → List (S66) → Option (List Int)
  | 0, _, _, _, _, _, _, _, _, _, _, _ => none
  | k + 1, x3, x7, x10, x209000, x209001, x209002, x233000, x233001, x233002, x233003, x233004 => if x10 < (x233004.length : Int) then (if 0 ≤ x10 then ((some (([(rd_T66 x233004 x10).f0, (rd_T66 x233004 x10).f1, (rd_T66 x233004 x10).f2] : List Int) : List Int)).bind fun y255 => (if x3.length + y255.length < 17592186044416 then (drogueref22_Numbers.l4 k (x3 ++ y255) x7 (wrap64 (x10 + 1)) x209000 x209001 x209002 x233000 x233001 x233002 x233003 x233004) else (none))) else (none)) else (drogueref22_Numbers.l2 k x3 (wrap64 (x7 + 1)) x209000 x209001 x209002)
end
def drogueref22_Numbers.f (k : Nat) (l0_0 : List (S48)) (l0_1 : List (S40)) (a0_2 : Int) : Option (List Int) := drogueref22_Numbers.l0 k (([a0_2, (l0_0.length : Int)] : List Int)) 0 l0_0 l0_1 a0_2
theorem drogueref22_Numbers.mono_l : ∀ k, (∀ y0 y1 y2 y3 y4, LeO (drogueref22_Numbers.l0 k y0 y1 y2 y3 y4) (drogueref22_Numbers.l0 (k + 1) y0 y1 y2 y3 y4)) ∧ (∀ y0 y1 y2 y3 y4 y5 y6 y7 y8 y9, LeO (drogueref22_Numbers.l1 k y0 y1 y2 y3 y4 y5 y6 y7 y8 y9) (drogueref22_Numbers.l1 (k + 1) y0 y1 y2 y3 y4 y5 y6 y7 y8 y9)) ∧ (∀ y0 y1 y2 y3 y4, LeO (drogueref22_Numbers.l2 k y0 y1 y2 y3 y4) (drogueref22_Numbers.l2 (k + 1) y0 y1 y2 y3 y4)) ∧ (∀ y0 y1 y2 y3 y4 y5 y6 y7 y8 y9 y10, LeO (drogueref22_Numbers.l3 k y0 y1 y2 y3 y4 y5 y6 y7 y8 y9 y10) (drogueref22_Numbers.l3 (k + 1) y0 y1 y2 y3 y4 y5 y6 y7 y8 y9 y10)) ∧ (∀ y0 y1 y2 y3 y4 y5 y6 y7 y8 y9 y10, LeO (drogueref22_Numbers.l4 k y0 y1 y2 y3 y4 y5 y6 y7 y8 y9 y10) (drogueref22_Numbers.l4 (k + 1) y0 y1 y2 y3 y4 y5 y6 y7 y8 y9 y10))
  | 0 => ⟨fun _ _ _ _ _ r h => by simp [drogueref22_Numbers.l0] at h, fun _ _ _ _ _ _ _ _ _ _ r h => by simp [drogueref22_Numbers.l1] at h, fun _ _ _ _ _ r h => by simp [drogueref22_Numbers.l2] at h, fun _ _ _ _ _ _ _ _ _ _ _ r h => by simp [drogueref22_Numbers.l3] at h, fun _ _ _ _ _ _ _ _ _ _ _ r h => by simp [drogueref22_Numbers.l4] at h⟩
  | k + 1 => by
    obtain ⟨ih0, ih1, ih2, ih3, ih4⟩ := drogueref22_Numbers.mono_l k
    refine ⟨?_, ?_, ?_, ?_, ?_⟩
    · intro y0 y1 y2 y3 y4
      unfold drogueref22_Numbers.l0
      repeat' first
      | (with_reducible exact ih0 _ _ _ _ _)
      | (with_reducible exact ih1 _ _ _ _ _ _ _ _ _ _)
      | (with_reducible exact ih2 _ _ _ _ _)
      | (with_reducible exact ih3 _ _ _ _ _ _ _ _ _ _ _)
      | (with_reducible exact ih4 _ _ _ _ _ _ _ _ _ _ _)
      | (with_reducible exact LeO.refl _)
      | (with_reducible exact LeO.none _)
      | (with_reducible refine LeO.ite ?_ ?_)
      | (with_reducible refine LeO.bind ?_ (fun _ => ?_))
      | exact ih0 _ _ _ _ _
      | exact ih1 _ _ _ _ _ _ _ _ _ _
      | exact ih2 _ _ _ _ _
      | exact ih3 _ _ _ _ _ _ _ _ _ _ _
      | exact ih4 _ _ _ _ _ _ _ _ _ _ _
      | exact LeO.none _
      | refine LeO.ite ?_ ?_
      | refine LeO.bind ?_ (fun _ => ?_)
    · intro y0 y1 y2 y3 y4 y5 y6 y7 y8 y9
      unfold drogueref22_Numbers.l1
      repeat' first
      | (with_reducible exact ih0 _ _ _ _ _)
      | (with_reducible exact ih1 _ _ _ _ _ _ _ _ _ _)
      | (with_reducible exact ih2 _ _ _ _ _)
      | (with_reducible exact ih3 _ _ _ _ _ _ _ _ _ _ _)
      | (with_reducible exact ih4 _ _ _ _ _ _ _ _ _ _ _)
      | (with_reducible exact LeO.refl _)
      | (with_reducible exact LeO.none _)
      | (with_reducible refine LeO.ite ?_ ?_)
      | (with_reducible refine LeO.bind ?_ (fun _ => ?_))
      | exact ih0 _ _ _ _ _
      | exact ih1 _ _ _ _ _ _ _ _ _ _
      | exact ih2 _ _ _ _ _
      | exact ih3 _ _ _ _ _ _ _ _ _ _ _
      | exact ih4 _ _ _ _ _ _ _ _ _ _ _
      | exact LeO.none _
      | refine LeO.ite ?_ ?_
      | refine LeO.bind ?_ (fun _ => ?_)
    · intro y0 y1 y2 y3 y4
      unfold drogueref22_Numbers.l2
      repeat' first
      | (with_reducible exact ih0 _ _ _ _ _)
      | (with_reducible exact ih1 _ _ _ _ _ _ _ _ _ _)
      | (with_reducible exact ih2 _ _ _ _ _)
      | (with_reducible exact ih3 _ _ _ _ _ _ _ _ _ _ _)
      | (with_reducible exact ih4 _ _ _ _ _ _ _ _ _ _ _)
      | (with_reducible exact LeO.refl _)
      | (with_reducible exact LeO.none _)
      | (with_reducible refine LeO.ite ?_ ?_)
      | (with_reducible refine LeO.bind ?_ (fun _ => ?_))
      | exact ih0 _ _ _ _ _
      | exact ih1 _ _ _ _ _ _ _ _ _ _
      | exact ih2 _ _ _ _ _
      | exact ih3 _ _ _ _ _ _ _ _ _ _ _
      | exact ih4 _ _ _ _ _ _ _ _ _ _ _
      | exact LeO.none _
      | refine LeO.ite ?_ ?_
      | refine LeO.bind ?_ (fun _ => ?_)
    · intro y0 y1 y2 y3 y4 y5 y6 y7 y8 y9 y10
      unfold drogueref22_Numbers.l3
      repeat' first
      | (with_reducible exact ih0 _ _ _ _ _)
      | (with_reducible exact ih1 _ _ _ _ _ _ _ _ _ _)
      | (with_reducible exact ih2 _ _ _ _ _)
      | (with_reducible exact ih3 _ _ _ _ _ _ _ _ _ _ _)
      | (with_reducible exact ih4 _ _ _ _ _ _ _ _ _ _ _)
      | (with_reducible exact LeO.refl _)
      | (with_reducible exact LeO.none _)
      | (with_reducible refine LeO.ite ?_ ?_)
      | (with_reducible refine LeO.bind ?_ (fun _ => ?_))
      | exact ih0 _ _ _ _ _
      | exact ih1 _ _ _ _ _ _ _ _ _ _
      | exact ih2 _ _ _ _ _
      | exact ih3 _ _ _ _ _ _ _ _ _ _ _
      | exact ih4 _ _ _ _ _ _ _ _ _ _ _
      | exact LeO.none _
      | refine LeO.ite ?_ ?_
      | refine LeO.bind ?_ (fun _ => ?_)
    · intro y0 y1 y2 y3 y4 y5 y6 y7 y8 y9 y10
      unfold drogueref22_Numbers.l4
      repeat' first
      | (with_reducible exact ih0 _ _ _ _ _)
      | (with_reducible exact ih1 _ _ _ _ _ _ _ _ _ _)
      | (with_reducible exact ih2 _ _ _ _ _)
      | (with_reducible exact ih3 _ _ _ _ _ _ _ _ _ _ _)
      | (with_reducible exact ih4 _ _ _ _ _ _ _ _ _ _ _)
      | (with_reducible exact LeO.refl _)
      | (with_reducible exact LeO.none _)
      | (with_reducible refine LeO.ite ?_ ?_)
      | (with_reducible refine LeO.bind ?_ (fun _ => ?_))
      | exact ih0 _ _ _ _ _
      | exact ih1 _ _ _ _ _ _ _ _ _ _
      | exact ih2 _ _ _ _ _
      | exact ih3 _ _ _ _ _ _ _ _ _ _ _
      | exact ih4 _ _ _ _ _ _ _ _ _ _ _
      | exact LeO.none _
      | refine LeO.ite ?_ ?_
      | refine LeO.bind ?_ (fun _ => ?_)
theorem drogueref22_Numbers.mono : ∀ a0 a1 a2 k, LeO (drogueref22_Numbers.f k a0 a1 a2) (drogueref22_Numbers.f (k + 1) a0 a1 a2) := by
  intro a0 a1 a2 k
  obtain ⟨ih0, ih1, ih2, ih3, ih4⟩ := drogueref22_Numbers.mono_l k
  unfold drogueref22_Numbers.f
  repeat' first
      | (with_reducible exact ih0 _ _ _ _ _)
      | (with_reducible exact ih1 _ _ _ _ _ _ _ _ _ _)
      | (with_reducible exact ih2 _ _ _ _ _)
      | (with_reducible exact ih3 _ _ _ _ _ _ _ _ _ _ _)
      | (with_reducible exact ih4 _ _ _ _ _ _ _ _ _ _ _)
      | (with_reducible exact LeO.refl _)
      | (with_reducible exact LeO.none _)
      | (with_reducible refine LeO.ite ?_ ?_)
      | (with_reducible refine LeO.bind ?_ (fun _ => ?_))
      | exact ih0 _ _ _ _ _
      | exact ih1 _ _ _ _ _ _ _ _ _ _
      | exact ih2 _ _ _ _ _
      | exact ih3 _ _ _ _ _ _ _ _ _ _ _
      | exact ih4 _ _ _ _ _ _ _ _ _ _ _
      | exact LeO.none _
      | refine LeO.ite ?_ ?_
      | refine LeO.bind ?_ (fun _ => ?_)
def drogueref22_Numbers.T10 : Bool × List (List Nat × List Nat) := (true, [([], []), ([], []), ([1], [1]), ([], []), ([2, 3], [2, 3]), ([4], [4]), ([5], [5]), ([], []), ([7], [7]), ([], []), ([8, 9], [8, 9]), ([10], [10]), ([11], [11]), ([6, 12], [6, 12]), ([0, 13], [0, 13]), ([14, 14, 0, 1, 2, 3, 4, 5, 6, 7, 8, 9, 10, 11, 12, 13, 14], [0, 14])])
def drogueref22_Numbers.B10 : List Nat := [0, 0, 2, 0, 14, 30, 62, 0, 128, 0, 896, 1920, 3968, 8190, 16383, 32767]
theorem drogueref22_Numbers.tab10 : rtab .any (opsOf Try.f21 10) = drogueref22_Numbers.T10 := by kernel_rfl
theorem drogueref22_Numbers.bits10 : waitsOk drogueref22_Numbers.T10.2 drogueref22_Numbers.B10 = true := by kernel_rfl
def drogueref22_Numbers.T20 : Bool × List (List Nat × List Nat) := (true, [([], []), ([], []), ([1], [1]), ([], []), ([2, 3], [2, 3]), ([4], [4]), ([5], [5]), ([], []), ([7], [7]), ([], []), ([8, 9], [8, 9]), ([10], [10]), ([11], [11]), ([], []), ([13], [13]), ([], []), ([14, 15], [14, 15]), ([16], [16]), ([17], [17]), ([], []), ([19], [19]), ([], []), ([20, 21], [20, 21]), ([22], [22]), ([23], [23]), ([6, 12, 18, 24], [6, 12, 18, 24]), ([0, 25], [0, 25]), ([26, 26, 0, 1, 2, 3, 4, 5, 6, 7, 8, 9, 10, 11, 12, 13, 14, 15, 16, 17, 18, 19, 20, 21, 22, 23, 24, 25, 26], [0, 26])])
def drogueref22_Numbers.B20 : List Nat := [0, 0, 2, 0, 14, 30, 62, 0, 128, 0, 896, 1920, 3968, 0, 8192, 0, 57344, 122880, 253952, 0, 524288, 0, 3670016, 7864320, 16252928, 33554430, 67108863, 134217727]
theorem drogueref22_Numbers.tab20 : rtab .any (opsOf Try.f21 20) = drogueref22_Numbers.T20 := by kernel_rfl
theorem drogueref22_Numbers.bits20 : waitsOk drogueref22_Numbers.T20.2 drogueref22_Numbers.B20 = true := by kernel_rfl
def drogueref22_Numbers.T25 : Bool × List (List Nat × List Nat) := (true, [([], []), ([], []), ([1], [1]), ([], []), ([2, 3], [2, 3]), ([4], [4]), ([5], [5]), ([], []), ([7], [7]), ([], []), ([8, 9], [8, 9]), ([10], [10]), ([11], [11]), ([], []), ([13], [13]), ([], []), ([14, 15], [14, 15]), ([16], [16]), ([17], [17]), ([6, 12, 18], [6, 12, 18]), ([0, 19], [0, 19]), ([20, 20, 0, 1, 2, 3, 4, 5, 6, 7, 8, 9, 10, 11, 12, 13, 14, 15, 16, 17, 18, 19, 20], [0, 20])])
def drogueref22_Numbers.B25 : List Nat := [0, 0, 2, 0, 14, 30, 62, 0, 128, 0, 896, 1920, 3968, 0, 8192, 0, 57344, 122880, 253952, 524286, 1048575, 2097151]
theorem drogueref22_Numbers.tab25 : rtab .any (opsOf Try.f21 25) = drogueref22_Numbers.T25 := by kernel_rfl
theorem drogueref22_Numbers.bits25 : waitsOk drogueref22_Numbers.T25.2 drogueref22_Numbers.B25 = true := by kernel_rfl
set_option maxHeartbeats 8000000 in
set_option maxRecDepth 100000 in
theorem drogueref22_Numbers.calls (k : Nat) (A0_0 : Option Addr) (c0_0 : Nat) (l0_0 : List (S48)) (A0_1 : Option Addr) (c0_1 : Nat) (l0_1 : List (S40)) (a0_2 : Int) (r : List Int) (w : World) (hr0_0 : Kd.C k48 w A0_0 l0_0.length l0_0) (hc0_0 : l0_0.length ≤ c0_0) (hr0_1 : Kd.C k40 w A0_1 l0_1.length l0_1) (hc0_1 : l0_1.length ≤ c0_1) (h : drogueref22_Numbers.f k l0_0 l0_1 a0_2 = some r) :
    Calls Try.prog 21 #[.agg #[.slice A0_0 l0_0.length c0_0, .slice A0_1 l0_1.length c0_1, .int .i64 a0_2]] w fun e w' => ∃ v0_ : Value, e = .returned (v0_) ∧ Kd.R (Kd.int .i64) 2 w' w.heap.size (fun _ => True) v0_ r ∧ Below w.heap.size w w' := by
  have hu25 := Try.underlying25
  have hu48 := Try.underlying48
  have hu40 := Try.underlying40
  have HR0_0 := Aside0.mk hr0_0
  have HC0_0 := Aside0.mk hc0_0
  clear hr0_0 hc0_0
  have HR0_1 := Aside0.mk hr0_1
  have HC0_1 := Aside0.mk hc0_1
  clear hr0_1 hc0_1
  have HB := Aside0.mk (Below.refl w.heap.size w)
  have H : (drogueref22_Numbers.l0 k (([a0_2, (l0_0.length : Int)] : List Int)) 0 l0_0 l0_1 a0_2) = some r := h
  clear h
  obtain ⟨y209, hy209⟩ : ∃ y_ : List Int, y_ = (([a0_2, (l0_0.length : Int)] : List Int)) := ⟨_, rfl⟩
  replace H : (drogueref22_Numbers.l0 k y209 0 l0_0 l0_1 a0_2) = some r := by first | (rw [hy209]; with_reducible exact H) | (have H2_ := (Option.bind_some _ _).symm.trans H; rw [hy209]; with_reducible exact H2_) | (have H2_ := (Option.bind_some _ _).symm.trans H; with_reducible exact H2_) | with_reducible exact H | (rw [hy209]; exact H) | exact H
  have Ny209 := Aside0.mk hy209
  clear hy209
  have H' := Aside0.mk H
  clear H
  go_enter Try.func21, Try.ntmps21
  go_wp2_with (first | ((with_reducible refine gate_dst (N := 1) rfl ?_); refine box_event ?hg (N := 1) ?hd (cs := #[.slice A0_0 l0_0.length c0_0, .slice A0_1 l0_1.length c0_1, .int .i64 a0_2]) (t := 25) ?hr ?_; (case hd => rfl); (case hg => rfl); (case hr => first | (go_simp; done) | (go_simp; rfl)); intro gb208 hg w2 hbox hb; have n0_ := Aside0.mk (below_step (by repeat (first | (with_reducible first | exact HB.out | apply below_alloc | apply pw_below_drewN | apply below_drew1) | exact HB.out)) hb); have n1_ := Aside0.mk (hbox); have n2_ := Aside0.mk ((by rw [hg]; exact (below_size (by repeat (first | (with_reducible first | exact HB.out | apply below_alloc | apply pw_below_drewN | apply below_drew1) | exact HB.out))) : w.heap.size ≤ gb208)); have n3_ := Aside0.mk ((by rw [hg]; exact (below_size (by repeat (first | (with_reducible first | exact HB.out | apply below_alloc | apply pw_below_drewN | apply below_drew1) | exact HB.out))) : w.heap.size ≤ gb208)); clear HB; have HB := n0_; have BK208 := n1_; have GW208 := n2_; have GE208 := n3_; clear n0_ n1_ n2_ n3_; clear hb hbox hg; have hcz3_0 : w2.cell? ⟨gb208, 0, none⟩ = some (.slice A0_0 l0_0.length c0_0) := (blk_cell BK208.out 0).trans rfl; have hcz3_1 : w2.cell? ⟨gb208, 1, none⟩ = some (.slice A0_1 l0_1.length c0_1) := (blk_cell BK208.out 1).trans rfl; have hcz3_2 : w2.cell? ⟨gb208, 2, none⟩ = some (.int .i64 a0_2) := (blk_cell BK208.out 2).trans rfl; have hfz3_0 := blk_frozen BK208.out 0; have hfz3_1 := blk_frozen BK208.out 1; have hfz3_2 := blk_frozen BK208.out 2) | ((with_reducible refine gate_dst (N := 16) rfl ?_); refine Kd.R_lit (Kd.int .i64) _ 2 ?hg (N := 16) ?hd (xs := ([a0_2, (l0_0.length : Int)] : List Int)) (inner := [.int .i64 a0_2, .int .i64 (l0_0.length : Int)]) (ok := fun _ => True) (okp := fun _ => True) ?hr ?hp (fun _ hk => hk) trivial (Below.refl _ _) (Nat.le_refl _) (by simp) ?_; (case hd => rfl); (case hg => rfl); (case hr => first | (go_simp; done) | (go_simp; rfl)); (case hp => exact (Reps.one (show Kd.M (Kd.int .i64) _ _ _ a0_2 [.int .i64 a0_2] from rfl) (Reps.one (show Kd.M (Kd.int .i64) _ _ _ (l0_0.length : Int) [.int .i64 (l0_0.length : Int)] from rfl) (Reps.none _ _)))); intro v210 w4 ho5 hb hg_ hnew_; clear hg_ hnew_; (first | rw [← Ny209.out] at ho5 | (simp only [Int.reduceToNat] at ho5; rw [← Ny209.out] at ho5)); have n0_ := Aside0.mk (Kd.R_lower ho5 (below_size (by repeat (first | (with_reducible first | exact HB.out | apply below_alloc | apply pw_below_drewN | apply below_drew1 | refine below_set ?_ GE208.out) | exact HB.out)))); have n1_ := Aside0.mk (blk_below (g := gb208) (o := .cells #[.slice A0_0 l0_0.length c0_0, .slice A0_1 l0_1.length c0_1, .int .i64 a0_2] 25 (0, 0)) (by (with_reducible repeat (first | refine blk_drewN ?_ _ | refine blk_drew ?_ | refine blk_alloc ?_ _)); exact BK208.out) hb); have n2_ := Aside0.mk (below_step (by repeat (first | (with_reducible first | exact HB.out | apply below_alloc | apply pw_below_drewN | apply below_drew1 | refine below_set ?_ GE208.out) | exact HB.out)) hb); clear BK208; clear HB; have HO211 := n0_; have BK208 := n1_; have HB := n2_; clear n0_ n1_ n2_; clear hb ho5))
  go_loopg [3, 4] k (fun kq v3 v4 w' => ∃ (x3_1 : List Int) (x4_1 : Int), v4 = .int .i64 x4_1 ∧ Aside0 (drogueref22_Numbers.l0 kq x3_1 x4_1 l0_0 l0_1 a0_2 = some r) ∧ Aside0 (kq ≤ k) ∧ Aside0 (Kd.R (Kd.int .i64) 2 w' w.heap.size (fun _ => True) v3 x3_1) ∧ Aside0 (w'.heap[gb208]? = some (.cells #[(.slice A0_0 l0_0.length c0_0), (.slice A0_1 l0_1.length c0_1), .int .i64 a0_2] 25 (0, 0))) ∧ Aside0 (Below w.heap.size w w'))
  case atStart => exact ⟨(y209), (0), (by first | rfl | (simp; done) | (simp [*]; done)), H', ⟨Nat.le_refl _⟩, ⟨by (with_reducible repeat (first | apply Kd.R_alloc | apply Kd.R_drewN | apply Kd.R_drew)); exact HO211.out⟩, ⟨by (with_reducible repeat (first | refine blk_drewN ?_ _ | refine blk_drew ?_ | refine blk_alloc ?_ _)); exact BK208.out⟩, ⟨by repeat (first | (with_reducible first | exact HB.out | apply below_alloc | apply pw_below_drewN | apply below_drew1 | refine below_set ?_ GE208.out) | exact HB.out)⟩⟩
  case round =>
    clear H'
    try clear c2
    try clear p2
    try clear hcz3_0
    try clear hcz3_1
    try clear hcz3_2
    try clear hfz3_0
    try clear hfz3_1
    try clear hfz3_2
    obtain ⟨x3_1, x4_1, rfl, HA, HK1, HO_3, BK208, HB⟩ := hrel
    cases gk with
    | zero => exact absurd HA.out (by simp [drogueref22_Numbers.l0])
    | succ k1 =>
      have H := HA.out
      clear HA
      simp only [drogueref22_Numbers.l0] at H
      by_cases c6 : x4_1 < (l0_0.length : Int)
      · rw [if_pos c6] at H
        have c6b0 : decide (x4_1 < (l0_0.length : Int)) = true := decide_eq_true c6
        clear c6
        by_cases c7 : 0 ≤ x4_1
        · rw [if_pos c7] at H
          have c7b0 : decide (0 ≤ x4_1) = true := decide_eq_true c7
          clear c7
          obtain ⟨y214, hy214⟩ : ∃ y_ : List Int, y_ = (([(rd_T48 l0_0 x4_1).f0, (rd_T48 l0_0 x4_1).f1, (rd_T48 l0_0 x4_1).f2, (((rd_T48 l0_0 x4_1).f3).length : Int)] : List Int)) := ⟨_, rfl⟩
          replace H : (if x3_1.length + y214.length < 17592186044416 then (drogueref22_Numbers.l1 k1 (x3_1 ++ y214) x4_1 0 l0_0 l0_1 a0_2 ((rd_T48 l0_0 x4_1).f0) ((rd_T48 l0_0 x4_1).f1) ((rd_T48 l0_0 x4_1).f2) ((rd_T48 l0_0 x4_1).f3)) else (none)) = some r := by first | (rw [hy214]; with_reducible exact H) | (have H2_ := (Option.bind_some _ _).symm.trans H; rw [hy214]; with_reducible exact H2_) | (have H2_ := (Option.bind_some _ _).symm.trans H; with_reducible exact H2_) | with_reducible exact H | (rw [hy214]; exact H) | exact H
          have Ny214 := Aside0.mk hy214
          clear hy214
          by_cases c8 : x3_1.length + y214.length < 17592186044416
          · rw [if_pos c8] at H
            have LMc8 := Aside0.mk c8
            clear c8
            obtain ⟨y217, hy217⟩ : ∃ y_ : List Int, y_ = (x3_1 ++ y214) := ⟨_, rfl⟩
            replace H : (drogueref22_Numbers.l1 k1 y217 x4_1 0 l0_0 l0_1 a0_2 ((rd_T48 l0_0 x4_1).f0) ((rd_T48 l0_0 x4_1).f1) ((rd_T48 l0_0 x4_1).f2) ((rd_T48 l0_0 x4_1).f3)) = some r := by first | (rw [hy217]; with_reducible exact H) | (have H2_ := (Option.bind_some _ _).symm.trans H; rw [hy217]; with_reducible exact H2_) | (have H2_ := (Option.bind_some _ _).symm.trans H; with_reducible exact H2_) | with_reducible exact H | (rw [hy217]; exact H) | exact H
            have Ny217 := Aside0.mk hy217
            clear hy217
            have H' := Aside0.mk H
            clear H
            have hcz9_0 : wr.cell? ⟨gb208, 0, none⟩ = some (.slice A0_0 l0_0.length c0_0) := (blk_cell BK208.out 0).trans rfl
            have hcz9_1 : wr.cell? ⟨gb208, 1, none⟩ = some (.slice A0_1 l0_1.length c0_1) := (blk_cell BK208.out 1).trans rfl
            have hcz9_2 : wr.cell? ⟨gb208, 2, none⟩ = some (.int .i64 a0_2) := (blk_cell BK208.out 2).trans rfl
            have hfz9_0 := blk_frozen BK208.out 0
            have hfz9_1 := blk_frozen BK208.out 1
            have hfz9_2 := blk_frozen BK208.out 2
            have p212 : 0 ≤ (x4_1 : Int) := of_decide_eq_true (by first | (with_reducible assumption) | assumption)
            have q212 : x4_1 < (l0_0.length : Int) := of_decide_eq_true (by first | (with_reducible assumption) | assumption)
            obtain ⟨ad212, A212_3, c212_3, e212, hx212_0, hx212_1, hx212_2, hx212_3, hl212_3, hi212_3⟩ := at_T48 HR0_0.out x4_1 p212 q212
            cases e212
            replace hx212_0 := (HB.out.cell (World.block_lt_of_cell? w _ hx212_0)).trans hx212_0
            replace hx212_1 := (HB.out.cell (World.block_lt_of_cell? w _ hx212_1)).trans hx212_1
            replace hx212_2 := (HB.out.cell (World.block_lt_of_cell? w _ hx212_2)).trans hx212_2
            replace hx212_3 := (HB.out.cell (World.block_lt_of_cell? w _ hx212_3)).trans hx212_3
            have HR212_3 := Aside0.mk hi212_3
            have HC212_3 := Aside0.mk hl212_3
            clear hi212_3 hl212_3
            replace p212 := eq_true p212
            replace q212 := eq_true q212
            go_wp2_with (first | ((with_reducible refine gate_dst (N := 5) rfl ?_); refine box_event ?hg (N := 5) ?hd (cs := #[.int .i64 0, .int .i64 0, .int .i64 0, .slice none 0 0]) (t := 48) ?hr ?_; (case hd => rfl); (case hg => rfl); (case hr => first | (go_simp; done) | (go_simp; rfl)); intro gb213 hg w10 hbox hb; have n0_ := Aside0.mk (Kd.R_below (by (with_reducible repeat (first | apply Kd.R_alloc | apply Kd.R_drewN | apply Kd.R_drew)); exact HO_3.out) hb); have n1_ := Aside0.mk (blk_below (g := gb208) (o := .cells #[.slice (some ad212) l0_0.length c0_0, .slice A0_1 l0_1.length c0_1, .int .i64 a0_2] 25 (0, 0)) (by (with_reducible repeat (first | refine blk_drewN ?_ _ | refine blk_drew ?_ | refine blk_alloc ?_ _)); exact BK208.out) hb); have n2_ := Aside0.mk (below_step (by repeat (first | (with_reducible first | exact HB.out | apply below_alloc | apply pw_below_drewN | apply below_drew1 | refine below_set ?_ GE208.out) | exact HB.out)) hb); have n3_ := Aside0.mk (hbox); have n4_ := Aside0.mk ((by rw [hg]; exact (below_size (by repeat (first | (with_reducible first | exact HB.out | apply below_alloc | apply pw_below_drewN | apply below_drew1 | refine below_set ?_ GE208.out) | exact HB.out))) : w.heap.size ≤ gb213)); have n5_ := Aside0.mk ((by rw [hg]; exact (below_size (by repeat (first | (with_reducible first | exact HB.out | apply below_alloc | apply pw_below_drewN | apply below_drew1 | refine below_set ?_ GE208.out) | exact HB.out))) : w.heap.size ≤ gb213)); have n6_ := Aside0.mk ((by rw [hg]; exact Nat.ne_of_lt (blk_lt (g := gb208) (o := .cells #[.slice (some ad212) l0_0.length c0_0, .slice A0_1 l0_1.length c0_1, .int .i64 a0_2] 25 (0, 0)) (by (with_reducible repeat (first | refine blk_drewN ?_ _ | refine blk_drew ?_ | refine blk_alloc ?_ _)); exact BK208.out)) : gb208 ≠ gb213)); have n7_ := Aside0.mk ((by rw [hg]; exact Nat.ne_of_gt (blk_lt (g := gb208) (o := .cells #[.slice (some ad212) l0_0.length c0_0, .slice A0_1 l0_1.length c0_1, .int .i64 a0_2] 25 (0, 0)) (by (with_reducible repeat (first | refine blk_drewN ?_ _ | refine blk_drew ?_ | refine blk_alloc ?_ _)); exact BK208.out)) : gb213 ≠ gb208)); clear HO_3; clear BK208; clear HB; have HO_3 := n0_; have BK208 := n1_; have HB := n2_; have BK213 := n3_; have GW213 := n4_; have GE213 := n5_; have NB208_213 := n6_; have NB213_208 := n7_; clear n0_ n1_ n2_ n3_ n4_ n5_ n6_ n7_; clear hb hbox hg; have hnb11 := NB213_208.out; have hnc11 := NB208_213.out; have hcz12_0 : w10.cell? ⟨gb213, 0, none⟩ = some (.int .i64 0) := (blk_cell BK213.out 0).trans rfl; have hcz12_1 : w10.cell? ⟨gb213, 1, none⟩ = some (.int .i64 0) := (blk_cell BK213.out 1).trans rfl; have hcz12_2 : w10.cell? ⟨gb213, 2, none⟩ = some (.int .i64 0) := (blk_cell BK213.out 2).trans rfl; have hcz12_3 : w10.cell? ⟨gb213, 3, none⟩ = some (.slice none 0 0) := (blk_cell BK213.out 3).trans rfl; have hfz12_0 := blk_frozen BK213.out 0; have hfz12_1 := blk_frozen BK213.out 1; have hfz12_2 := blk_frozen BK213.out 2; have hfz12_3 := blk_frozen BK213.out 3) | ((with_reducible refine gate_dst (N := 39) rfl ?_); refine Kd.R_lit (Kd.int .i64) _ 2 ?hg (N := 39) ?hd (xs := ([(rd_T48 l0_0 x4_1).f0, (rd_T48 l0_0 x4_1).f1, (rd_T48 l0_0 x4_1).f2, (((rd_T48 l0_0 x4_1).f3).length : Int)] : List Int)) (inner := [.int .i64 ((rd_T48 l0_0 x4_1).f0), .int .i64 ((rd_T48 l0_0 x4_1).f1), .int .i64 ((rd_T48 l0_0 x4_1).f2), .int .i64 (((rd_T48 l0_0 x4_1).f3).length : Int)]) (ok := fun _ => True) (okp := fun _ => True) ?hr ?hp (fun _ hk => hk) trivial (Below.refl _ _) (Nat.le_refl _) (by simp) ?_; (case hd => rfl); (case hg => rfl); (case hr => first | (go_simp; done) | (go_simp; rfl)); (case hp => exact (Reps.one (show Kd.M (Kd.int .i64) _ _ _ ((rd_T48 l0_0 x4_1).f0) [.int .i64 ((rd_T48 l0_0 x4_1).f0)] from rfl) (Reps.one (show Kd.M (Kd.int .i64) _ _ _ ((rd_T48 l0_0 x4_1).f1) [.int .i64 ((rd_T48 l0_0 x4_1).f1)] from rfl) (Reps.one (show Kd.M (Kd.int .i64) _ _ _ ((rd_T48 l0_0 x4_1).f2) [.int .i64 ((rd_T48 l0_0 x4_1).f2)] from rfl) (Reps.one (show Kd.M (Kd.int .i64) _ _ _ (((rd_T48 l0_0 x4_1).f3).length : Int) [.int .i64 (((rd_T48 l0_0 x4_1).f3).length : Int)] from rfl) (Reps.none _ _)))))); intro v215 w13 ho14 hb hg_ hnew_; clear hg_ hnew_; (first | rw [← Ny214.out] at ho14 | (simp only [Int.reduceToNat] at ho14; rw [← Ny214.out] at ho14)); have n0_ := Aside0.mk (Kd.R_elder' (by (with_reducible repeat (first | apply Kd.R_alloc | apply Kd.R_drewN | apply Kd.R_drew)); exact (Kd.R_mono (Kd.R_far (p := ⟨gb213, 3, none⟩) (Kd.R_far (p := ⟨gb213, 2, none⟩) (Kd.R_far (p := ⟨gb213, 1, none⟩) (Kd.R_far (p := ⟨gb213, 0, none⟩) (Kd.R_types HO_3.out BK213.out (by decide)) (fun _ hk => hk.2) (.int .i64 ((rd_T48 l0_0 x4_1).f0))) (fun _ hk => hk.2) (.int .i64 ((rd_T48 l0_0 x4_1).f1))) (fun _ hk => hk.2) (.int .i64 ((rd_T48 l0_0 x4_1).f2))) (fun _ hk => hk.2) (.slice A212_3 ((rd_T48 l0_0 x4_1).f3).length c212_3)) (fun _ h_ => h_.1))) (Kd.R_base ho14) hb); have n1_ := Aside0.mk (Kd.R_lower (Kd.R_new' ho14 (Kd.R_lt (by (with_reducible repeat (first | apply Kd.R_alloc | apply Kd.R_drewN | apply Kd.R_drew)); exact (Kd.R_mono (Kd.R_far (p := ⟨gb213, 3, none⟩) (Kd.R_far (p := ⟨gb213, 2, none⟩) (Kd.R_far (p := ⟨gb213, 1, none⟩) (Kd.R_far (p := ⟨gb213, 0, none⟩) (Kd.R_types HO_3.out BK213.out (by decide)) (fun _ hk => hk.2) (.int .i64 ((rd_T48 l0_0 x4_1).f0))) (fun _ hk => hk.2) (.int .i64 ((rd_T48 l0_0 x4_1).f1))) (fun _ hk => hk.2) (.int .i64 ((rd_T48 l0_0 x4_1).f2))) (fun _ hk => hk.2) (.slice A212_3 ((rd_T48 l0_0 x4_1).f3).length c212_3)) (fun _ h_ => h_.1))))) (below_size (by repeat (first | (with_reducible first | exact HB.out | apply below_alloc | apply pw_below_drewN | apply below_drew1 | refine below_set ?_ GE208.out | refine below_set ?_ GE213.out) | exact HB.out)))); have n2_ := Aside0.mk (blk_below (g := gb208) (o := .cells #[.slice (some ad212) l0_0.length c0_0, .slice A0_1 l0_1.length c0_1, .int .i64 a0_2] 25 (0, 0)) (by (with_reducible repeat (first | refine blk_drewN ?_ _ | refine blk_drew ?_ | refine blk_alloc ?_ _)); refine blk_far ?_ NB208_213.out _; (with_reducible repeat (first | refine blk_drewN ?_ _ | refine blk_drew ?_ | refine blk_alloc ?_ _)); refine blk_far ?_ NB208_213.out _; (with_reducible repeat (first | refine blk_drewN ?_ _ | refine blk_drew ?_ | refine blk_alloc ?_ _)); refine blk_far ?_ NB208_213.out _; (with_reducible repeat (first | refine blk_drewN ?_ _ | refine blk_drew ?_ | refine blk_alloc ?_ _)); refine blk_far ?_ NB208_213.out _; (with_reducible repeat (first | refine blk_drewN ?_ _ | refine blk_drew ?_ | refine blk_alloc ?_ _)); exact BK208.out) hb); have n3_ := Aside0.mk (blk_below (g := gb213) (o := .cells #[.int .i64 ((rd_T48 l0_0 x4_1).f0), .int .i64 ((rd_T48 l0_0 x4_1).f1), .int .i64 ((rd_T48 l0_0 x4_1).f2), .slice A212_3 ((rd_T48 l0_0 x4_1).f3).length c212_3] 48 (0, 0)) (by (with_reducible repeat (first | refine blk_drewN ?_ _ | refine blk_drew ?_ | refine blk_alloc ?_ _)); refine blk_put (cs := #[.int .i64 ((rd_T48 l0_0 x4_1).f0), .int .i64 ((rd_T48 l0_0 x4_1).f1), .int .i64 ((rd_T48 l0_0 x4_1).f2), .slice none 0 0]) ?_ 3 _ rfl; (with_reducible repeat (first | refine blk_drewN ?_ _ | refine blk_drew ?_ | refine blk_alloc ?_ _)); refine blk_put (cs := #[.int .i64 ((rd_T48 l0_0 x4_1).f0), .int .i64 ((rd_T48 l0_0 x4_1).f1), .int .i64 0, .slice none 0 0]) ?_ 2 _ rfl; (with_reducible repeat (first | refine blk_drewN ?_ _ | refine blk_drew ?_ | refine blk_alloc ?_ _)); refine blk_put (cs := #[.int .i64 ((rd_T48 l0_0 x4_1).f0), .int .i64 0, .int .i64 0, .slice none 0 0]) ?_ 1 _ rfl; (with_reducible repeat (first | refine blk_drewN ?_ _ | refine blk_drew ?_ | refine blk_alloc ?_ _)); refine blk_put (cs := #[.int .i64 0, .int .i64 0, .int .i64 0, .slice none 0 0]) ?_ 0 _ rfl; (with_reducible repeat (first | refine blk_drewN ?_ _ | refine blk_drew ?_ | refine blk_alloc ?_ _)); exact BK213.out) hb); have n4_ := Aside0.mk (below_step (by repeat (first | (with_reducible first | exact HB.out | apply below_alloc | apply pw_below_drewN | apply below_drew1 | refine below_set ?_ GE208.out | refine below_set ?_ GE213.out) | exact HB.out)) hb); clear HO_3; clear BK208; clear BK213; clear HB; have HO_3 := n0_; have HO216 := n1_; have BK208 := n2_; have BK213 := n3_; have HB := n4_; clear n0_ n1_ n2_ n3_ n4_; clear hb ho14; obtain ⟨Ao16, co16, eo16⟩ := Kd.R_slice HO216.out; subst eo16) | ((with_reducible refine gate_builtin (b := .append) (xs := #[.tmp 29, .tmp 39]) rfl ?_); at_builtin; refine Kd.R_append_rows (Kd.int .i64) (w0 := w) w.heap.size rfl (.tmp 29) (.tmp 39) 52 2 (.int .i64 0) 8 rfl Try.underlying52 info2 rfl (by decide) (by omega) u3 x3_1 y214 _ _ _ (fun k_ => some k_ ≠ (.slice Ao16 y214.length co16 : Value).ownBlock) (fun _ => False) rfl rfl ?aO ?aR (fun _ _ h => h) (fun _ h => h.elim) ?aF ?aB ?aS ?aL ?_; (case aR => repeat (first | exact (Kd.R_reads' HO216.out).2.2 | (with_reducible refine Kd.C_alloc ?_ _) | (with_reducible refine Kd.C_drewN ?_ _) | (with_reducible refine Kd.C_drew ?_))); (case aB => exact (by repeat (first | (with_reducible first | exact HB.out | apply below_alloc | apply pw_below_drewN | apply below_drew1 | refine below_set ?_ GE208.out | refine below_set ?_ GE213.out) | exact HB.out))); (case aF => exact (fun k_ hk => Kd.fresh' (Kd.R_lt (by (with_reducible repeat (first | apply Kd.R_alloc | apply Kd.R_drewN | apply Kd.R_drew)); exact HO216.out)) k_ hk)); (case aO => exact (by (with_reducible repeat (first | apply Kd.R_alloc | apply Kd.R_drewN | apply Kd.R_drew)); exact Kd.R_mono HO_3.out (fun _ hk => hk.2))); (case aS => exact (below_size (by repeat (first | (with_reducible first | exact HB.out | apply below_alloc | apply pw_below_drewN | apply below_drew1 | refine below_set ?_ GE208.out | refine below_set ?_ GE213.out) | exact HB.out)))); (case aL => have := LMc8.out; omega); intro v218 w15 ho hb hg hat; rw [← Ny217.out] at ho; have n0_ := Aside0.mk (blk_grown (g := gb208) (o := .cells #[.slice (some ad212) l0_0.length c0_0, .slice A0_1 l0_1.length c0_1, .int .i64 a0_2] 25 (0, 0)) (by (with_reducible repeat (first | refine blk_drewN ?_ _ | refine blk_drew ?_ | refine blk_alloc ?_ _)); exact BK208.out) hg (Kd.R_ne HO_3.out BK208.out (by decide))); have n1_ := Aside0.mk (blk_grown (g := gb213) (o := .cells #[.int .i64 ((rd_T48 l0_0 x4_1).f0), .int .i64 ((rd_T48 l0_0 x4_1).f1), .int .i64 ((rd_T48 l0_0 x4_1).f2), .slice A212_3 ((rd_T48 l0_0 x4_1).f3).length c212_3] 48 (0, 0)) (by (with_reducible repeat (first | refine blk_drewN ?_ _ | refine blk_drew ?_ | refine blk_alloc ?_ _)); exact BK213.out) hg (Kd.R_ne HO_3.out BK213.out (by decide))); have n2_ := Aside0.mk (Kd.R_after (ok := (fun _ => True)) (by (with_reducible repeat (first | apply Kd.R_alloc | apply Kd.R_drewN | apply Kd.R_drew)); exact HO216.out) hg hat); have n3_ := Aside0.mk (hb); have n4_ := Aside0.mk (ho); clear BK208; clear BK213; clear HO216; clear HB; clear HO_3; have BK208 := n0_; have BK213 := n1_; have HO216 := n2_; have HB := n3_; have HO219 := n4_; clear n0_ n1_ n2_ n3_ n4_; clear ho hb hg hat))
            go_loopg [3, 6] k1 (fun kq v3 v6 w' => ∃ (x3_2 : List Int) (x6_2 : Int), v6 = .int .i64 x6_2 ∧ Aside0 (drogueref22_Numbers.l1 kq x3_2 x4_1 x6_2 l0_0 l0_1 a0_2 ((rd_T48 l0_0 x4_1).f0) ((rd_T48 l0_0 x4_1).f1) ((rd_T48 l0_0 x4_1).f2) ((rd_T48 l0_0 x4_1).f3) = some r) ∧ Aside0 (kq ≤ k1) ∧ Aside0 (Kd.R (Kd.int .i64) 2 w' w.heap.size (fun _ => True) v3 x3_2) ∧ Aside0 (w'.heap[gb208]? = some (.cells #[(.slice (some ad212) l0_0.length c0_0), (.slice A0_1 l0_1.length c0_1), .int .i64 a0_2] 25 (0, 0))) ∧ Aside0 (w'.heap[gb213]? = some (.cells #[.int .i64 ((rd_T48 l0_0 x4_1).f0), .int .i64 ((rd_T48 l0_0 x4_1).f1), .int .i64 ((rd_T48 l0_0 x4_1).f2), (.slice A212_3 ((rd_T48 l0_0 x4_1).f3).length c212_3)] 48 (0, 0))) ∧ Aside0 (Below w.heap.size w w'))
            case atStart => exact ⟨(y217), (0), (by first | rfl | (simp; done) | (simp [*]; done)), H', ⟨Nat.le_refl _⟩, ⟨by (with_reducible repeat (first | apply Kd.R_alloc | apply Kd.R_drewN | apply Kd.R_drew)); exact Kd.R_mono HO219.out (fun _ hk => trivial)⟩, ⟨by (with_reducible repeat (first | refine blk_drewN ?_ _ | refine blk_drew ?_ | refine blk_alloc ?_ _)); exact BK208.out⟩, ⟨by (with_reducible repeat (first | refine blk_drewN ?_ _ | refine blk_drew ?_ | refine blk_alloc ?_ _)); exact BK213.out⟩, ⟨by repeat (first | (with_reducible first | exact HB.out | apply below_alloc | apply pw_below_drewN | apply below_drew1 | refine below_set ?_ GE208.out | refine below_set ?_ GE213.out) | exact HB.out)⟩⟩
            case round =>
              clear H'
              try clear c1
              try clear c2
              try clear p2
              try clear q2
              try clear hx2
              try clear c6
              try clear c6b0
              try clear c7
              try clear c7b0
              try clear c8
              try clear c11
              try clear hcz12_0
              try clear hcz12_1
              try clear hcz12_2
              try clear hcz12_3
              try clear hcz3_0
              try clear hcz3_1
              try clear hcz3_2
              try clear hcz9_0
              try clear hcz9_1
              try clear hcz9_2
              try clear hfz12_0
              try clear hfz12_1
              try clear hfz12_2
              try clear hfz12_3
              try clear hfz3_0
              try clear hfz3_1
              try clear hfz3_2
              try clear hfz9_0
              try clear hfz9_1
              try clear hfz9_2
              try clear hx212_0
              try clear hx212_1
              try clear hx212_2
              try clear hx212_3
              try clear p2
              try clear p212
              try clear q212
              obtain ⟨x3_2, x6_2, rfl, HA, HK2, HO_3, BK208, BK213, HB⟩ := hrel
              cases gk with
              | zero => exact absurd HA.out (by simp [drogueref22_Numbers.l1])
              | succ k2 =>
                have H := HA.out
                clear HA
                simp only [drogueref22_Numbers.l1] at H
                by_cases c17 : x6_2 < (((rd_T48 l0_0 x4_1).f3).length : Int)
                · rw [if_pos c17] at H
                  have c17b0 : decide (x6_2 < (((rd_T48 l0_0 x4_1).f3).length : Int)) = true := decide_eq_true c17
                  clear c17
                  by_cases c18 : 0 ≤ x6_2
                  · rw [if_pos c18] at H
                    have c18b0 : decide (0 ≤ x6_2) = true := decide_eq_true c18
                    clear c18
                    obtain ⟨y222, hy222⟩ : ∃ y_ : List Int, y_ = (([(rd_T73 ((rd_T48 l0_0 x4_1).f3) x6_2).f0, (rd_T73 ((rd_T48 l0_0 x4_1).f3) x6_2).f1] : List Int)) := ⟨_, rfl⟩
                    replace H : (if x3_2.length + y222.length < 17592186044416 then (drogueref22_Numbers.l1 k2 (x3_2 ++ y222) x4_1 (wrap64 (x6_2 + 1)) l0_0 l0_1 a0_2 ((rd_T48 l0_0 x4_1).f0) ((rd_T48 l0_0 x4_1).f1) ((rd_T48 l0_0 x4_1).f2) ((rd_T48 l0_0 x4_1).f3)) else (none)) = some r := by first | (rw [hy222]; with_reducible exact H) | (have H2_ := (Option.bind_some _ _).symm.trans H; rw [hy222]; with_reducible exact H2_) | (have H2_ := (Option.bind_some _ _).symm.trans H; with_reducible exact H2_) | with_reducible exact H | (rw [hy222]; exact H) | exact H
                    have Ny222 := Aside0.mk hy222
                    clear hy222
                    by_cases c19 : x3_2.length + y222.length < 17592186044416
                    · rw [if_pos c19] at H
                      have LMc19 := Aside0.mk c19
                      clear c19
                      obtain ⟨y225, hy225⟩ : ∃ y_ : List Int, y_ = (x3_2 ++ y222) := ⟨_, rfl⟩
                      replace H : (drogueref22_Numbers.l1 k2 y225 x4_1 (wrap64 (x6_2 + 1)) l0_0 l0_1 a0_2 ((rd_T48 l0_0 x4_1).f0) ((rd_T48 l0_0 x4_1).f1) ((rd_T48 l0_0 x4_1).f2) ((rd_T48 l0_0 x4_1).f3)) = some r := by first | (rw [hy225]; with_reducible exact H) | (have H2_ := (Option.bind_some _ _).symm.trans H; rw [hy225]; with_reducible exact H2_) | (have H2_ := (Option.bind_some _ _).symm.trans H; with_reducible exact H2_) | with_reducible exact H | (rw [hy225]; exact H) | exact H
                      have Ny225 := Aside0.mk hy225
                      clear hy225
                      have H' := Aside0.mk H
                      clear H
                      have hnb20 := NB213_208.out
                      have hnc20 := NB208_213.out
                      have hcz21_0 : wr.cell? ⟨gb213, 0, none⟩ = some (.int .i64 ((rd_T48 l0_0 x4_1).f0)) := (blk_cell BK213.out 0).trans rfl
                      have hcz21_1 : wr.cell? ⟨gb213, 1, none⟩ = some (.int .i64 ((rd_T48 l0_0 x4_1).f1)) := (blk_cell BK213.out 1).trans rfl
                      have hcz21_2 : wr.cell? ⟨gb213, 2, none⟩ = some (.int .i64 ((rd_T48 l0_0 x4_1).f2)) := (blk_cell BK213.out 2).trans rfl
                      have hcz21_3 : wr.cell? ⟨gb213, 3, none⟩ = some (.slice A212_3 ((rd_T48 l0_0 x4_1).f3).length c212_3) := (blk_cell BK213.out 3).trans rfl
                      have hfz21_0 := blk_frozen BK213.out 0
                      have hfz21_1 := blk_frozen BK213.out 1
                      have hfz21_2 := blk_frozen BK213.out 2
                      have hfz21_3 := blk_frozen BK213.out 3
                      try go_wp2
                      have n0_ := Aside0.mk (Kd.R_drew HO_3.out)
                      have n1_ := Aside0.mk (blk_drew BK208.out)
                      have n2_ := Aside0.mk (blk_drew BK213.out)
                      have n3_ := Aside0.mk (below_drew1 HB.out)
                      clear HO_3
                      clear BK208
                      clear BK213
                      clear HB
                      have HO_3 := n0_
                      have BK208 := n1_
                      have BK213 := n2_
                      have HB := n3_
                      clear n0_ n1_ n2_ n3_
                      have p220 : 0 ≤ (x6_2 : Int) := of_decide_eq_true (by first | (with_reducible assumption) | assumption)
                      have q220 : x6_2 < (((rd_T48 l0_0 x4_1).f3).length : Int) := of_decide_eq_true (by first | (with_reducible assumption) | assumption)
                      obtain ⟨ad220, e220, hx220_0, hx220_1⟩ := at_T73 HR212_3.out x6_2 p220 q220
                      have hw220_1 := hx220_1
                      have hw220_0 := hx220_0
                      cases e220
                      replace hx220_0 := (HB.out.cell (World.block_lt_of_cell? w _ hx220_0)).trans hx220_0
                      replace hx220_1 := (HB.out.cell (World.block_lt_of_cell? w _ hx220_1)).trans hx220_1
                      replace p220 := eq_true p220
                      replace q220 := eq_true q220
                      have p221 : 0 ≤ (x6_2 : Int) := of_decide_eq_true (by first | (with_reducible assumption) | assumption)
                      have q221 : x6_2 < (((rd_T48 l0_0 x4_1).f3).length : Int) := of_decide_eq_true (by first | (with_reducible assumption) | assumption)
                      obtain ⟨ad221, e221, hx221_0, hx221_1⟩ := at_T73 HR212_3.out x6_2 p221 q221
                      have hw221_1 := hx221_1
                      have hw221_0 := hx221_0
                      obtain rfl : ad220 = ad221 := (by injection e221)
                      replace hx221_0 := (HB.out.cell (World.block_lt_of_cell? w _ hx221_0)).trans hx221_0
                      replace hx221_1 := (HB.out.cell (World.block_lt_of_cell? w _ hx221_1)).trans hx221_1
                      replace p221 := eq_true p221
                      replace q221 := eq_true q221
                      refine start_ (n := 16) (S := fun w' => w'.cell? ⟨gb213, 0, none⟩ = some (.int .i64 ((rd_T48 l0_0 x4_1).f0)) ∧ w'.cell? ⟨gb213, 1, none⟩ = some (.int .i64 ((rd_T48 l0_0 x4_1).f1)) ∧ w'.cell? ⟨gb213, 2, none⟩ = some (.int .i64 ((rd_T48 l0_0 x4_1).f2)) ∧ w'.cell? ⟨gb213, 3, none⟩ = some (.slice (some ad220) ((rd_T48 l0_0 x4_1).f3).length c212_3) ∧ w'.cell? (ad220.add ((x6_2).toNat * 2)) = some (.int .i64 ((rd_T73 ((rd_T48 l0_0 x4_1).f3) x6_2).f0)) ∧ w'.cell? ⟨(ad220.add ((x6_2).toNat * 2)).block, (ad220.add ((x6_2).toNat * 2)).off + 1, none⟩ = some (.int .i64 ((rd_T73 ((rd_T48 l0_0 x4_1).f3) x6_2).f1)) ∧ w'.cell? (ad220.add ((x6_2).toNat * 2)) = some (.int .i64 ((rd_T73 ((rd_T48 l0_0 x4_1).f3) x6_2).f0)) ∧ w'.cell? ⟨(ad220.add ((x6_2).toNat * 2)).block, (ad220.add ((x6_2).toNat * 2)).off + 1, none⟩ = some (.int .i64 ((rd_T73 ((rd_T48 l0_0 x4_1).f3) x6_2).f1))) (ds := []) #[false, false, false, false, false, false, false, false, false, false, false, false, false, false, false, false] (by kernel_rfl) rfl rfl ⟨(blk_cell BK213.out 0).trans rfl, (blk_cell BK213.out 1).trans rfl, (blk_cell BK213.out 2).trans rfl, (blk_cell BK213.out 3).trans rfl, ((HB.out.cell (World.block_lt_of_cell? w _ hw220_0)).trans hw220_0), ((HB.out.cell (World.block_lt_of_cell? w _ hw220_1)).trans hw220_1), ((HB.out.cell (World.block_lt_of_cell? w _ hw221_0)).trans hw221_0), ((HB.out.cell (World.block_lt_of_cell? w _ hw221_1)).trans hw221_1)⟩ (fun hHeld => ?_); refine with_tabW drogueref22_Numbers.tab10 drogueref22_Numbers.bits10 (fun HT_ HW_ => ?_)
                      generalize wr.drew = w22 at HO_3 BK208 BK213 HB hx220_0 hx220_1 hx221_0 hx221_1 hHeld ⊢
                      refine pure_ (i := 0) (N := some 48) (v := ?_) (a' := ?_) #[true, false, false, false, false, false, false, false, false, false, false, false, false, false, false, false] rfl rfl (any_of HT_.out (by kernel_rfl)) (fun _ _ _ h => h) (Or.inl ⟨by rfl, ?_⟩) ?_ ?_
                      rotate_left
                      · intro w'
                        go_simp
                        with_reducible rfl
                      rotate_left
                      · simp only [Act.put, List.setIfInBounds_toArray, List.set_cons_zero, List.set_cons_succ, i64_w, i32_w]
                        rfl
                      refine pure_ (i := 1) (N := some 49) (v := ?_) (a' := ?_) #[true, true, false, false, false, false, false, false, false, false, false, false, false, false, false, false] rfl rfl (any_of HT_.out (by kernel_rfl)) (fun _ _ _ h => h) (Or.inl ⟨by rfl, ?_⟩) ?_ ?_
                      rotate_left
                      · intro w'
                        go_simp
                        with_reducible rfl
                      rotate_left
                      · simp only [Act.put, List.setIfInBounds_toArray, List.set_cons_zero, List.set_cons_succ, i64_w, i32_w]
                        rfl
                      refine pure_ (i := 3) (N := some 51) (v := ?_) (a' := ?_) #[true, true, false, true, false, false, false, false, false, false, false, false, false, false, false, false] rfl rfl (any_of HT_.out (by kernel_rfl)) (fun _ _ _ h => h) (Or.inl ⟨by rfl, ?_⟩) ?_ ?_
                      rotate_left
                      · intro w'
                        go_simp
                        with_reducible rfl
                      rotate_left
                      · simp only [Act.put, List.setIfInBounds_toArray, List.set_cons_zero, List.set_cons_succ, i64_w, i32_w]
                        rfl
                      refine pure_ (i := 7) (N := some 55) (v := ?_) (a' := ?_) #[true, true, false, true, false, false, false, true, false, false, false, false, false, false, false, false] rfl rfl (any_of HT_.out (by kernel_rfl)) (fun _ _ _ h => h) (Or.inl ⟨by rfl, ?_⟩) ?_ ?_
                      rotate_left
                      · intro w'
                        go_simp
                        with_reducible rfl
                      rotate_left
                      · simp only [Act.put, List.setIfInBounds_toArray, List.set_cons_zero, List.set_cons_succ, i64_w, i32_w]
                        rfl
                      refine pure_ (i := 9) (N := some 57) (v := ?_) (a' := ?_) #[true, true, false, true, false, false, false, true, false, true, false, false, false, false, false, false] rfl rfl (any_of HT_.out (by kernel_rfl)) (fun _ _ _ h => h) (Or.inl ⟨by rfl, ?_⟩) ?_ ?_
                      rotate_left
                      · intro w'
                        go_simp
                        with_reducible rfl
                      rotate_left
                      · simp only [Act.put, List.setIfInBounds_toArray, List.set_cons_zero, List.set_cons_succ, i64_w, i32_w]
                        rfl
                      refine take_ (i := 2) (N := some 50) (v := ?_) (a' := ?_) #[true, true, true, true, false, false, false, true, false, true, false, false, false, false, false, false] rfl rfl (take_ofW HT_.out HW_.out (by kernel_rfl)) (fun _ _ _ h => h) (Or.inl ⟨by rfl, ?_⟩) hHeld ?_ ?_
                      rotate_left
                      · rintro w' ⟨s0, s1, s2, s3, s4, s5, s6, s7⟩
                        go_simp
                        with_reducible rfl
                      rotate_left
                      · simp only [Act.put, List.setIfInBounds_toArray, List.set_cons_zero, List.set_cons_succ, i64_w, i32_w]
                        rfl
                      refine pure_ (i := 4) (N := some 52) (v := ?_) (a' := ?_) #[true, true, true, true, true, false, false, true, false, true, false, false, false, false, false, false] rfl rfl (any_of HT_.out (by kernel_rfl)) (fun _ _ _ h => h) (Or.inl ⟨by rfl, ?_⟩) ?_ ?_
                      rotate_left
                      · intro w'
                        go_simp
                        with_reducible rfl
                      rotate_left
                      · simp only [Act.put, List.setIfInBounds_toArray, List.set_cons_zero, List.set_cons_succ, i64_w, i32_w]
                        rfl
                      refine pure_ (i := 5) (N := some 53) (v := ?_) (a' := ?_) #[true, true, true, true, true, true, false, true, false, true, false, false, false, false, false, false] rfl rfl (any_of HT_.out (by kernel_rfl)) (fun _ _ _ h => h) (Or.inl ⟨by rfl, ?_⟩) ?_ ?_
                      rotate_left
                      · intro w'
                        go_simp
                        with_reducible rfl
                      rotate_left
                      · simp only [Act.put, List.setIfInBounds_toArray, List.set_cons_zero, List.set_cons_succ, i64_w, i32_w]
                        rfl
                      refine take_ (i := 6) (N := some 54) (v := ?_) (a' := ?_) #[true, true, true, true, true, true, true, true, false, true, false, false, false, false, false, false] rfl rfl (take_ofW HT_.out HW_.out (by kernel_rfl)) (fun _ _ _ h => h) (Or.inl ⟨by rfl, ?_⟩) hHeld ?_ ?_
                      rotate_left
                      · rintro w' ⟨s0, s1, s2, s3, s4, s5, s6, s7⟩
                        go_simp
                        with_reducible rfl
                      rotate_left
                      · simp only [Act.put, List.setIfInBounds_toArray, List.set_cons_zero, List.set_cons_succ, i64_w, i32_w]
                        rfl
                      refine take_ (i := 8) (N := some 56) (v := ?_) (a' := ?_) #[true, true, true, true, true, true, true, true, true, true, false, false, false, false, false, false] rfl rfl (take_ofW HT_.out HW_.out (by kernel_rfl)) (fun _ _ _ h => h) (Or.inl ⟨by rfl, ?_⟩) hHeld ?_ ?_
                      rotate_left
                      · rintro w' ⟨s0, s1, s2, s3, s4, s5, s6, s7⟩
                        go_simp
                        with_reducible rfl
                      rotate_left
                      · simp only [Act.put, List.setIfInBounds_toArray, List.set_cons_zero, List.set_cons_succ, i64_w, i32_w]
                        rfl
                      refine pure_ (i := 10) (N := some 58) (v := ?_) (a' := ?_) #[true, true, true, true, true, true, true, true, true, true, true, false, false, false, false, false] rfl rfl (any_of HT_.out (by kernel_rfl)) (fun _ _ _ h => h) (Or.inl ⟨by rfl, ?_⟩) ?_ ?_
                      rotate_left
                      · intro w'
                        go_simp
                        with_reducible rfl
                      rotate_left
                      · simp only [Act.put, List.setIfInBounds_toArray, List.set_cons_zero, List.set_cons_succ, i64_w, i32_w]
                        rfl
                      refine pure_ (i := 11) (N := some 59) (v := ?_) (a' := ?_) #[true, true, true, true, true, true, true, true, true, true, true, true, false, false, false, false] rfl rfl (any_of HT_.out (by kernel_rfl)) (fun _ _ _ h => h) (Or.inl ⟨by rfl, ?_⟩) ?_ ?_
                      rotate_left
                      · intro w'
                        go_simp
                        with_reducible rfl
                      rotate_left
                      · simp only [Act.put, List.setIfInBounds_toArray, List.set_cons_zero, List.set_cons_succ, i64_w, i32_w]
                        rfl
                      refine take_ (i := 12) (N := some 60) (v := ?_) (a' := ?_) #[true, true, true, true, true, true, true, true, true, true, true, true, true, false, false, false] rfl rfl (take_ofW HT_.out HW_.out (by kernel_rfl)) (fun _ _ _ h => h) (Or.inl ⟨by rfl, ?_⟩) hHeld ?_ ?_
                      rotate_left
                      · rintro w' ⟨s0, s1, s2, s3, s4, s5, s6, s7⟩
                        go_simp
                        with_reducible rfl
                      rotate_left
                      · simp only [Act.put, List.setIfInBounds_toArray, List.set_cons_zero, List.set_cons_succ, i64_w, i32_w]
                        rfl
                      refine one_ (i := 13) (N := some 61) #[true, true, true, true, true, true, true, true, true, true, true, true, true, true, false, false] rfl rfl (one_of HT_.out (by kernel_rfl)) (by decide) (fun K hK => ?_)
                      refine Kd.R_lit_step (Kd.int .i64) _ 2 ?hg (N := 61) ?hd (xs := ([(rd_T73 ((rd_T48 l0_0 x4_1).f3) x6_2).f0, (rd_T73 ((rd_T48 l0_0 x4_1).f3) x6_2).f1] : List Int)) (inner := [.int .i64 ((rd_T73 ((rd_T48 l0_0 x4_1).f3) x6_2).f0), .int .i64 ((rd_T73 ((rd_T48 l0_0 x4_1).f3) x6_2).f1)]) (ok := fun _ => True) (okp := fun _ => True) ?hr ?hp (fun _ hk => hk) trivial (Below.refl _ _) (Nat.le_refl _) (by simp) ?_; (case hd => rfl); (case hg => rfl); (case hr => first | (go_simp; done) | (go_simp; rfl)); (case hp => exact (Reps.one (show Kd.M (Kd.int .i64) _ _ _ ((rd_T73 ((rd_T48 l0_0 x4_1).f3) x6_2).f0) [.int .i64 ((rd_T73 ((rd_T48 l0_0 x4_1).f3) x6_2).f0)] from rfl) (Reps.one (show Kd.M (Kd.int .i64) _ _ _ ((rd_T73 ((rd_T48 l0_0 x4_1).f3) x6_2).f1) [.int .i64 ((rd_T73 ((rd_T48 l0_0 x4_1).f3) x6_2).f1)] from rfl) (Reps.none _ _))))
                      intro v223 w23 ho24 hb hg_ hnew_
                      clear hg_ hnew_
                      (first | rw [← Ny222.out] at ho24 | (simp only [Int.reduceToNat] at ho24; rw [← Ny222.out] at ho24))
                      have n0_ := Aside0.mk (Kd.R_elder' (by (with_reducible repeat (first | apply Kd.R_alloc | apply Kd.R_drewN | apply Kd.R_drew)); exact HO_3.out) (Kd.R_base ho24) hb)
                      have n1_ := Aside0.mk (Kd.R_lower (Kd.R_new' ho24 (Kd.R_lt (by (with_reducible repeat (first | apply Kd.R_alloc | apply Kd.R_drewN | apply Kd.R_drew)); exact HO_3.out))) (below_size (by repeat (first | (with_reducible first | exact HB.out | apply below_alloc | apply pw_below_drewN | apply below_drew1 | refine below_set ?_ GE208.out | refine below_set ?_ GE213.out) | exact HB.out))))
                      have n2_ := Aside0.mk (blk_below (g := gb208) (o := .cells #[.slice (some ad212) l0_0.length c0_0, .slice A0_1 l0_1.length c0_1, .int .i64 a0_2] 25 (0, 0)) (by (with_reducible repeat (first | refine blk_drewN ?_ _ | refine blk_drew ?_ | refine blk_alloc ?_ _)); exact BK208.out) hb)
                      have n3_ := Aside0.mk (blk_below (g := gb213) (o := .cells #[.int .i64 ((rd_T48 l0_0 x4_1).f0), .int .i64 ((rd_T48 l0_0 x4_1).f1), .int .i64 ((rd_T48 l0_0 x4_1).f2), .slice (some ad220) ((rd_T48 l0_0 x4_1).f3).length c212_3] 48 (0, 0)) (by (with_reducible repeat (first | refine blk_drewN ?_ _ | refine blk_drew ?_ | refine blk_alloc ?_ _)); exact BK213.out) hb)
                      have n4_ := Aside0.mk (below_step (by repeat (first | (with_reducible first | exact HB.out | apply below_alloc | apply pw_below_drewN | apply below_drew1 | refine below_set ?_ GE208.out | refine below_set ?_ GE213.out) | exact HB.out)) hb)
                      clear HO_3
                      clear BK208
                      clear BK213
                      clear HB
                      have HO_3 := n0_
                      have HO224 := n1_
                      have BK208 := n2_
                      have BK213 := n3_
                      have HB := n4_
                      clear n0_ n1_ n2_ n3_ n4_
                      clear hb ho24
                      obtain ⟨Ao26, co26, eo26⟩ := Kd.R_slice HO224.out
                      (first | subst eo26 | (injection eo26 with f1_ f2_ f3_; have f4_ := f1_.symm; have f5_ := f3_.symm; clear f1_ f2_ f3_; subst f4_; subst f5_))
                      refine hK.out _ _ ⟨(blk_cell BK213.out 0).trans rfl, (blk_cell BK213.out 1).trans rfl, (blk_cell BK213.out 2).trans rfl, (blk_cell BK213.out 3).trans rfl, ((HB.out.cell (World.block_lt_of_cell? w _ hw220_0)).trans hw220_0), ((HB.out.cell (World.block_lt_of_cell? w _ hw220_1)).trans hw220_1), ((HB.out.cell (World.block_lt_of_cell? w _ hw221_0)).trans hw221_0), ((HB.out.cell (World.block_lt_of_cell? w _ hw221_1)).trans hw221_1)⟩ (fun hHeld => ?_)
                      clear hK K
                      refine norm_ (a' := ?_) ?_ ?_
                      rotate_left
                      · show Act.put _ (some 61) _ = _
                        simp only [Act.put, List.setIfInBounds_toArray, List.set_cons_zero, List.set_cons_succ, i64_w, i32_w]
                        rfl
                      refine one_ (i := 14) (N := some 62) #[true, true, true, true, true, true, true, true, true, true, true, true, true, true, true, false] rfl rfl (one_of HT_.out (by kernel_rfl)) (by decide) (fun K hK => ?_)
                      refine Kd.R_append_rows_step (Kd.int .i64) (w0 := w) w.heap.size (by rfl) (.tmp 48) (.tmp 61) 52 2 (.int .i64 0) 8 rfl Try.underlying52 info2 rfl (by decide) (by omega) u3 x3_2 y222 _ _ _ (fun k_ => some k_ ≠ (.slice Ao26 y222.length co26 : Value).ownBlock) (fun _ => False) rfl rfl ?aO ?aR (fun _ _ h => h) (fun _ h => h.elim) ?aF ?aB ?aS ?aL ?_
                      (case aR => repeat (first | exact (Kd.R_reads' HO224.out).2.2 | (with_reducible refine Kd.C_alloc ?_ _) | (with_reducible refine Kd.C_drewN ?_ _) | (with_reducible refine Kd.C_drew ?_)))
                      (case aB => exact (by repeat (first | (with_reducible first | exact HB.out | apply below_alloc | apply pw_below_drewN | apply below_drew1 | refine below_set ?_ GE208.out | refine below_set ?_ GE213.out) | exact HB.out)))
                      (case aF => exact (fun k_ hk => Kd.fresh' (Kd.R_lt (by (with_reducible repeat (first | apply Kd.R_alloc | apply Kd.R_drewN | apply Kd.R_drew)); exact HO224.out)) k_ hk))
                      (case aO => exact (by (with_reducible repeat (first | apply Kd.R_alloc | apply Kd.R_drewN | apply Kd.R_drew)); exact Kd.R_mono HO_3.out (fun _ hk => hk.2)))
                      (case aS => exact (below_size (by repeat (first | (with_reducible first | exact HB.out | apply below_alloc | apply pw_below_drewN | apply below_drew1 | refine below_set ?_ GE208.out | refine below_set ?_ GE213.out) | exact HB.out))))
                      (case aL => have := LMc19.out; omega)
                      intro v226 w25 ho hb hg hat
                      rw [← Ny225.out] at ho
                      have n0_ := Aside0.mk (blk_grown (g := gb208) (o := .cells #[.slice (some ad212) l0_0.length c0_0, .slice A0_1 l0_1.length c0_1, .int .i64 a0_2] 25 (0, 0)) (by (with_reducible repeat (first | refine blk_drewN ?_ _ | refine blk_drew ?_ | refine blk_alloc ?_ _)); exact BK208.out) hg (Kd.R_ne HO_3.out BK208.out (by decide)))
                      have n1_ := Aside0.mk (blk_grown (g := gb213) (o := .cells #[.int .i64 ((rd_T48 l0_0 x4_1).f0), .int .i64 ((rd_T48 l0_0 x4_1).f1), .int .i64 ((rd_T48 l0_0 x4_1).f2), .slice (some ad220) ((rd_T48 l0_0 x4_1).f3).length c212_3] 48 (0, 0)) (by (with_reducible repeat (first | refine blk_drewN ?_ _ | refine blk_drew ?_ | refine blk_alloc ?_ _)); exact BK213.out) hg (Kd.R_ne HO_3.out BK213.out (by decide)))
                      have n2_ := Aside0.mk (Kd.R_after (ok := (fun _ => True)) (by (with_reducible repeat (first | apply Kd.R_alloc | apply Kd.R_drewN | apply Kd.R_drew)); exact HO224.out) hg hat)
                      have n3_ := Aside0.mk (hb)
                      have n4_ := Aside0.mk (ho)
                      clear BK208
                      clear BK213
                      clear HO224
                      clear HB
                      clear HO_3
                      have BK208 := n0_
                      have BK213 := n1_
                      have HO224 := n2_
                      have HB := n3_
                      have HO227 := n4_
                      clear n0_ n1_ n2_ n3_ n4_
                      clear ho hb hg hat
                      refine hK.out _ _ ⟨(blk_cell BK213.out 0).trans rfl, (blk_cell BK213.out 1).trans rfl, (blk_cell BK213.out 2).trans rfl, (blk_cell BK213.out 3).trans rfl, ((HB.out.cell (World.block_lt_of_cell? w _ hw220_0)).trans hw220_0), ((HB.out.cell (World.block_lt_of_cell? w _ hw220_1)).trans hw220_1), ((HB.out.cell (World.block_lt_of_cell? w _ hw221_0)).trans hw221_0), ((HB.out.cell (World.block_lt_of_cell? w _ hw221_1)).trans hw221_1)⟩ (fun hHeld => ?_)
                      clear hK K
                      refine norm_ (a' := ?_) ?_ ?_
                      rotate_left
                      · show Act.put _ (some 62) _ = _
                        simp only [Act.put, List.setIfInBounds_toArray, List.set_cons_zero, List.set_cons_succ, i64_w, i32_w]
                        rfl
                      refine pure_ (i := 15) (N := some 3) (v := ?_) (a' := ?_) #[true, true, true, true, true, true, true, true, true, true, true, true, true, true, true, true] rfl rfl (any_of HT_.out (by kernel_rfl)) (fun _ _ _ h => h) (Or.inl ⟨by rfl, ?_⟩) ?_ ?_
                      rotate_left
                      · intro w'
                        go_simp
                        with_reducible rfl
                      rotate_left
                      · simp only [Act.put, List.setIfInBounds_toArray, List.set_cons_zero, List.set_cons_succ, i64_w, i32_w]
                        rfl
                      refine done_ (done_of HT_.out (by kernel_rfl)) ?_
                      try go_wp2
                      go_roundg k2
                      case measure => have := HK1.out; have := HK2.out; omega
                      case rel => exact ⟨(y225), (wrap64 (x6_2 + 1)), (by first | rfl | (simp; done) | (simp [*]; done)), H', ⟨by have := HK1.out; have := HK2.out; omega⟩, ⟨by (with_reducible repeat (first | apply Kd.R_alloc | apply Kd.R_drewN | apply Kd.R_drew)); exact Kd.R_mono HO227.out (fun _ hk => trivial)⟩, ⟨by (with_reducible repeat (first | refine blk_drewN ?_ _ | refine blk_drew ?_ | refine blk_alloc ?_ _)); exact BK208.out⟩, ⟨by (with_reducible repeat (first | refine blk_drewN ?_ _ | refine blk_drew ?_ | refine blk_alloc ?_ _)); exact BK213.out⟩, ⟨by repeat (first | (with_reducible first | exact HB.out | apply below_alloc | apply pw_below_drewN | apply below_drew1 | refine below_set ?_ GE208.out | refine below_set ?_ GE213.out) | exact HB.out)⟩⟩
                    · rw [if_neg c19] at H
                      exact absurd H (by simp)
                  · rw [if_neg c18] at H
                    exact absurd H (by simp)
                · rw [if_neg c17] at H
                  have c17b0 : decide (x6_2 < (((rd_T48 l0_0 x4_1).f3).length : Int)) = false := decide_eq_false c17
                  clear c17
                  have H' := Aside0.mk H
                  clear H
                  have hnb27 := NB213_208.out
                  have hnc27 := NB208_213.out
                  have hcz28_0 : wr.cell? ⟨gb213, 0, none⟩ = some (.int .i64 ((rd_T48 l0_0 x4_1).f0)) := (blk_cell BK213.out 0).trans rfl
                  have hcz28_1 : wr.cell? ⟨gb213, 1, none⟩ = some (.int .i64 ((rd_T48 l0_0 x4_1).f1)) := (blk_cell BK213.out 1).trans rfl
                  have hcz28_2 : wr.cell? ⟨gb213, 2, none⟩ = some (.int .i64 ((rd_T48 l0_0 x4_1).f2)) := (blk_cell BK213.out 2).trans rfl
                  have hcz28_3 : wr.cell? ⟨gb213, 3, none⟩ = some (.slice A212_3 ((rd_T48 l0_0 x4_1).f3).length c212_3) := (blk_cell BK213.out 3).trans rfl
                  have hfz28_0 := blk_frozen BK213.out 0
                  have hfz28_1 := blk_frozen BK213.out 1
                  have hfz28_2 := blk_frozen BK213.out 2
                  have hfz28_3 := blk_frozen BK213.out 3
                  go_wp2
                  go_roundg k2
                  case measure => have := HK1.out; have := HK2.out; omega
                  case rel => exact ⟨(x3_2), (wrap64 (x4_1 + 1)), (by first | rfl | (simp; done) | (simp [*]; done)), H', ⟨by have := HK1.out; have := HK2.out; omega⟩, ⟨by (with_reducible repeat (first | apply Kd.R_alloc | apply Kd.R_drewN | apply Kd.R_drew)); exact HO_3.out⟩, ⟨by (with_reducible repeat (first | refine blk_drewN ?_ _ | refine blk_drew ?_ | refine blk_alloc ?_ _)); exact BK208.out⟩, ⟨by repeat (first | (with_reducible first | exact HB.out | apply below_alloc | apply pw_below_drewN | apply below_drew1 | refine below_set ?_ GE208.out | refine below_set ?_ GE213.out) | exact HB.out)⟩⟩
          · rw [if_neg c8] at H
            exact absurd H (by simp)
        · rw [if_neg c7] at H
          exact absurd H (by simp)
      · rw [if_neg c6] at H
        have c6b0 : decide (x4_1 < (l0_0.length : Int)) = false := decide_eq_false c6
        clear c6
        by_cases c29 : x3_1.length < 17592186044416
        · rw [if_pos c29] at H
          have LMc29 := Aside0.mk c29
          clear c29
          obtain ⟨y228, hy228⟩ : ∃ y_ : List Int, y_ = (x3_1 ++ [(l0_1.length : Int)]) := ⟨_, rfl⟩
          replace H : (drogueref22_Numbers.l2 k1 y228 0 l0_0 l0_1 a0_2) = some r := by first | (rw [hy228]; with_reducible exact H) | (have H2_ := (Option.bind_some _ _).symm.trans H; rw [hy228]; with_reducible exact H2_) | (have H2_ := (Option.bind_some _ _).symm.trans H; with_reducible exact H2_) | with_reducible exact H | (rw [hy228]; exact H) | exact H
          have Ny228 := Aside0.mk hy228
          clear hy228
          have H' := Aside0.mk H
          clear H
          have hcz30_0 : wr.cell? ⟨gb208, 0, none⟩ = some (.slice A0_0 l0_0.length c0_0) := (blk_cell BK208.out 0).trans rfl
          have hcz30_1 : wr.cell? ⟨gb208, 1, none⟩ = some (.slice A0_1 l0_1.length c0_1) := (blk_cell BK208.out 1).trans rfl
          have hcz30_2 : wr.cell? ⟨gb208, 2, none⟩ = some (.int .i64 a0_2) := (blk_cell BK208.out 2).trans rfl
          have hfz30_0 := blk_frozen BK208.out 0
          have hfz30_1 := blk_frozen BK208.out 1
          have hfz30_2 := blk_frozen BK208.out 2
          go_wp2_with (first | ((with_reducible refine gate_builtin (b := .append) (xs := #[.tmp 63, .tmp 67]) rfl ?_); at_builtin; refine Kd.R_append (Kd.int .i64) (w0 := w) w.heap.size rfl (.tmp 63) (.tmp 67) 52 2 (.int .i64 0) 8 rfl Try.underlying52 info2 rfl (by decide) (by omega) u3 x3_1 (l0_1.length : Int) [.int .i64 (l0_1.length : Int)] (fun _ => True) (fun _ => False) rfl rfl ?aP (fun _ hk => hk.elim) ?aF ?aO ?aB ?aS ?aL ?_; (case aP => exact rfl); (case aB => exact (by repeat (first | (with_reducible first | exact HB.out | apply below_alloc | apply pw_below_drewN | apply below_drew1 | refine below_set ?_ GE208.out) | exact HB.out))); (case aF => exact (fun _ _ => trivial)); (case aO => exact (by (with_reducible repeat (first | apply Kd.R_alloc | apply Kd.R_drewN | apply Kd.R_drew)); exact HO_3.out)); (case aS => exact (below_size (by repeat (first | (with_reducible first | exact HB.out | apply below_alloc | apply pw_below_drewN | apply below_drew1 | refine below_set ?_ GE208.out) | exact HB.out)))); (case aL => have := LMc29.out; omega); intro v229 w31 ho hb hg hat; rw [← Ny228.out] at ho; have n0_ := Aside0.mk (blk_grown (g := gb208) (o := .cells #[.slice A0_0 l0_0.length c0_0, .slice A0_1 l0_1.length c0_1, .int .i64 a0_2] 25 (0, 0)) (by (with_reducible repeat (first | refine blk_drewN ?_ _ | refine blk_drew ?_ | refine blk_alloc ?_ _)); exact BK208.out) hg (Kd.R_ne HO_3.out BK208.out (by decide))); have n1_ := Aside0.mk (hb); have n2_ := Aside0.mk (ho); clear BK208; clear HB; clear HO_3; have BK208 := n0_; have HB := n1_; have HO230 := n2_; clear n0_ n1_ n2_; clear ho hb hg hat))
          go_loopg [3, 7] k1 (fun kq v3 v7 w' => ∃ (x3_2 : List Int) (x7_2 : Int), v7 = .int .i64 x7_2 ∧ Aside0 (drogueref22_Numbers.l2 kq x3_2 x7_2 l0_0 l0_1 a0_2 = some r) ∧ Aside0 (kq ≤ k1) ∧ Aside0 (Kd.R (Kd.int .i64) 2 w' w.heap.size (fun _ => True) v3 x3_2) ∧ Aside0 (w'.heap[gb208]? = some (.cells #[(.slice A0_0 l0_0.length c0_0), (.slice A0_1 l0_1.length c0_1), .int .i64 a0_2] 25 (0, 0))) ∧ Aside0 (Below w.heap.size w w'))
          case atStart => exact ⟨(y228), (0), (by first | rfl | (simp; done) | (simp [*]; done)), H', ⟨Nat.le_refl _⟩, ⟨by (with_reducible repeat (first | apply Kd.R_alloc | apply Kd.R_drewN | apply Kd.R_drew)); exact HO230.out⟩, ⟨by (with_reducible repeat (first | refine blk_drewN ?_ _ | refine blk_drew ?_ | refine blk_alloc ?_ _)); exact BK208.out⟩, ⟨by repeat (first | (with_reducible first | exact HB.out | apply below_alloc | apply pw_below_drewN | apply below_drew1 | refine below_set ?_ GE208.out) | exact HB.out)⟩⟩
          case round =>
            clear H'
            try clear c1
            try clear c2
            try clear p2
            try clear q2
            try clear hx2
            try clear c6
            try clear c6b0
            try clear p6
            try clear c7
            try clear c7b0
            try clear c8
            try clear c11
            try clear c17
            try clear c17b0
            try clear c18
            try clear c18b0
            try clear c19
            try clear c20
            try clear c21
            try clear p21
            try clear q21
            try clear hx21
            try clear p22
            try clear q22
            try clear hx22
            try clear c27
            try clear c29
            try clear hcz12_0
            try clear hcz12_1
            try clear hcz12_2
            try clear hcz12_3
            try clear hcz21_0
            try clear hcz21_1
            try clear hcz21_2
            try clear hcz21_3
            try clear hcz28_0
            try clear hcz28_1
            try clear hcz28_2
            try clear hcz28_3
            try clear hcz30_0
            try clear hcz30_1
            try clear hcz30_2
            try clear hcz3_0
            try clear hcz3_1
            try clear hcz3_2
            try clear hcz9_0
            try clear hcz9_1
            try clear hcz9_2
            try clear hfz12_0
            try clear hfz12_1
            try clear hfz12_2
            try clear hfz12_3
            try clear hfz21_0
            try clear hfz21_1
            try clear hfz21_2
            try clear hfz21_3
            try clear hfz28_0
            try clear hfz28_1
            try clear hfz28_2
            try clear hfz28_3
            try clear hfz30_0
            try clear hfz30_1
            try clear hfz30_2
            try clear hfz3_0
            try clear hfz3_1
            try clear hfz3_2
            try clear hfz9_0
            try clear hfz9_1
            try clear hfz9_2
            try clear hx212_0
            try clear hx212_1
            try clear hx212_2
            try clear hx212_3
            try clear hx220_0
            try clear hx220_1
            try clear hx221_0
            try clear hx221_1
            try clear p2
            try clear p212
            try clear p220
            try clear p221
            try clear q2
            try clear q212
            try clear q220
            try clear q221
            obtain ⟨x3_2, x7_2, rfl, HA, HK2, HO_3, BK208, HB⟩ := hrel
            cases gk with
            | zero => exact absurd HA.out (by simp [drogueref22_Numbers.l2])
            | succ k2 =>
              have H := HA.out
              clear HA
              simp only [drogueref22_Numbers.l2] at H
              by_cases c32 : x7_2 < (l0_1.length : Int)
              · rw [if_pos c32] at H
                have c32b0 : decide (x7_2 < (l0_1.length : Int)) = true := decide_eq_true c32
                clear c32
                by_cases c33 : 0 ≤ x7_2
                · rw [if_pos c33] at H
                  have c33b0 : decide (0 ≤ x7_2) = true := decide_eq_true c33
                  clear c33
                  obtain ⟨y233, hy233⟩ : ∃ y_ : List Int, y_ = (([(rd_T40 l0_1 x7_2).f0, (rd_T40 l0_1 x7_2).f1, (rd_T40 l0_1 x7_2).f2, (((rd_T40 l0_1 x7_2).f3).length : Int)] : List Int)) := ⟨_, rfl⟩
                  replace H : (if x3_2.length + y233.length < 17592186044416 then (drogueref22_Numbers.l3 k2 (x3_2 ++ y233) x7_2 0 l0_0 l0_1 a0_2 ((rd_T40 l0_1 x7_2).f0) ((rd_T40 l0_1 x7_2).f1) ((rd_T40 l0_1 x7_2).f2) ((rd_T40 l0_1 x7_2).f3) ((rd_T40 l0_1 x7_2).f4)) else (none)) = some r := by first | (rw [hy233]; with_reducible exact H) | (have H2_ := (Option.bind_some _ _).symm.trans H; rw [hy233]; with_reducible exact H2_) | (have H2_ := (Option.bind_some _ _).symm.trans H; with_reducible exact H2_) | with_reducible exact H | (rw [hy233]; exact H) | exact H
                  have Ny233 := Aside0.mk hy233
                  clear hy233
                  by_cases c34 : x3_2.length + y233.length < 17592186044416
                  · rw [if_pos c34] at H
                    have LMc34 := Aside0.mk c34
                    clear c34
                    obtain ⟨y236, hy236⟩ : ∃ y_ : List Int, y_ = (x3_2 ++ y233) := ⟨_, rfl⟩
                    replace H : (drogueref22_Numbers.l3 k2 y236 x7_2 0 l0_0 l0_1 a0_2 ((rd_T40 l0_1 x7_2).f0) ((rd_T40 l0_1 x7_2).f1) ((rd_T40 l0_1 x7_2).f2) ((rd_T40 l0_1 x7_2).f3) ((rd_T40 l0_1 x7_2).f4)) = some r := by first | (rw [hy236]; with_reducible exact H) | (have H2_ := (Option.bind_some _ _).symm.trans H; rw [hy236]; with_reducible exact H2_) | (have H2_ := (Option.bind_some _ _).symm.trans H; with_reducible exact H2_) | with_reducible exact H | (rw [hy236]; exact H) | exact H
                    have Ny236 := Aside0.mk hy236
                    clear hy236
                    have H' := Aside0.mk H
                    clear H
                    have hcz35_0 : wr.cell? ⟨gb208, 0, none⟩ = some (.slice A0_0 l0_0.length c0_0) := (blk_cell BK208.out 0).trans rfl
                    have hcz35_1 : wr.cell? ⟨gb208, 1, none⟩ = some (.slice A0_1 l0_1.length c0_1) := (blk_cell BK208.out 1).trans rfl
                    have hcz35_2 : wr.cell? ⟨gb208, 2, none⟩ = some (.int .i64 a0_2) := (blk_cell BK208.out 2).trans rfl
                    have hfz35_0 := blk_frozen BK208.out 0
                    have hfz35_1 := blk_frozen BK208.out 1
                    have hfz35_2 := blk_frozen BK208.out 2
                    have p231 : 0 ≤ (x7_2 : Int) := of_decide_eq_true (by first | (with_reducible assumption) | assumption)
                    have q231 : x7_2 < (l0_1.length : Int) := of_decide_eq_true (by first | (with_reducible assumption) | assumption)
                    obtain ⟨ad231, A231_3, c231_3, A231_4, c231_4, e231, hx231_0, hx231_1, hx231_2, hx231_3, hx231_4, hl231_3, hi231_3, hl231_4, hi231_4⟩ := at_T40 HR0_1.out x7_2 p231 q231
                    cases e231
                    replace hx231_0 := (HB.out.cell (World.block_lt_of_cell? w _ hx231_0)).trans hx231_0
                    replace hx231_1 := (HB.out.cell (World.block_lt_of_cell? w _ hx231_1)).trans hx231_1
                    replace hx231_2 := (HB.out.cell (World.block_lt_of_cell? w _ hx231_2)).trans hx231_2
                    replace hx231_3 := (HB.out.cell (World.block_lt_of_cell? w _ hx231_3)).trans hx231_3
                    replace hx231_4 := (HB.out.cell (World.block_lt_of_cell? w _ hx231_4)).trans hx231_4
                    have HR231_3 := Aside0.mk hi231_3
                    have HC231_3 := Aside0.mk hl231_3
                    clear hi231_3 hl231_3
                    have HR231_4 := Aside0.mk hi231_4
                    have HC231_4 := Aside0.mk hl231_4
                    clear hi231_4 hl231_4
                    replace p231 := eq_true p231
                    replace q231 := eq_true q231
                    go_wp2_with (first | ((with_reducible refine gate_dst (N := 8) rfl ?_); refine box_event ?hg (N := 8) ?hd (cs := #[.int .i64 0, .int .i64 0, .int .i64 0, .slice none 0 0, .slice none 0 0]) (t := 40) ?hr ?_; (case hd => rfl); (case hg => rfl); (case hr => first | (go_simp; done) | (go_simp; rfl)); intro gb232 hg w36 hbox hb; have n0_ := Aside0.mk (Kd.R_below (by (with_reducible repeat (first | apply Kd.R_alloc | apply Kd.R_drewN | apply Kd.R_drew)); exact HO_3.out) hb); have n1_ := Aside0.mk (blk_below (g := gb208) (o := .cells #[.slice A0_0 l0_0.length c0_0, .slice (some ad231) l0_1.length c0_1, .int .i64 a0_2] 25 (0, 0)) (by (with_reducible repeat (first | refine blk_drewN ?_ _ | refine blk_drew ?_ | refine blk_alloc ?_ _)); exact BK208.out) hb); have n2_ := Aside0.mk (below_step (by repeat (first | (with_reducible first | exact HB.out | apply below_alloc | apply pw_below_drewN | apply below_drew1 | refine below_set ?_ GE208.out) | exact HB.out)) hb); have n3_ := Aside0.mk (hbox); have n4_ := Aside0.mk ((by rw [hg]; exact (below_size (by repeat (first | (with_reducible first | exact HB.out | apply below_alloc | apply pw_below_drewN | apply below_drew1 | refine below_set ?_ GE208.out) | exact HB.out))) : w.heap.size ≤ gb232)); have n5_ := Aside0.mk ((by rw [hg]; exact (below_size (by repeat (first | (with_reducible first | exact HB.out | apply below_alloc | apply pw_below_drewN | apply below_drew1 | refine below_set ?_ GE208.out) | exact HB.out))) : w.heap.size ≤ gb232)); have n6_ := Aside0.mk ((by rw [hg]; exact Nat.ne_of_lt (blk_lt (g := gb208) (o := .cells #[.slice A0_0 l0_0.length c0_0, .slice (some ad231) l0_1.length c0_1, .int .i64 a0_2] 25 (0, 0)) (by (with_reducible repeat (first | refine blk_drewN ?_ _ | refine blk_drew ?_ | refine blk_alloc ?_ _)); exact BK208.out)) : gb208 ≠ gb232)); have n7_ := Aside0.mk ((by rw [hg]; exact Nat.ne_of_gt (blk_lt (g := gb208) (o := .cells #[.slice A0_0 l0_0.length c0_0, .slice (some ad231) l0_1.length c0_1, .int .i64 a0_2] 25 (0, 0)) (by (with_reducible repeat (first | refine blk_drewN ?_ _ | refine blk_drew ?_ | refine blk_alloc ?_ _)); exact BK208.out)) : gb232 ≠ gb208)); clear HO_3; clear BK208; clear HB; have HO_3 := n0_; have BK208 := n1_; have HB := n2_; have BK232 := n3_; have GW232 := n4_; have GE232 := n5_; have NB208_232 := n6_; have NB232_208 := n7_; clear n0_ n1_ n2_ n3_ n4_ n5_ n6_ n7_; clear hb hbox hg; have hnb37 := NB232_208.out; have hnc37 := NB208_232.out; have hcz38_0 : w36.cell? ⟨gb232, 0, none⟩ = some (.int .i64 0) := (blk_cell BK232.out 0).trans rfl; have hcz38_1 : w36.cell? ⟨gb232, 1, none⟩ = some (.int .i64 0) := (blk_cell BK232.out 1).trans rfl; have hcz38_2 : w36.cell? ⟨gb232, 2, none⟩ = some (.int .i64 0) := (blk_cell BK232.out 2).trans rfl; have hcz38_3 : w36.cell? ⟨gb232, 3, none⟩ = some (.slice none 0 0) := (blk_cell BK232.out 3).trans rfl; have hcz38_4 : w36.cell? ⟨gb232, 4, none⟩ = some (.slice none 0 0) := (blk_cell BK232.out 4).trans rfl; have hfz38_0 := blk_frozen BK232.out 0; have hfz38_1 := blk_frozen BK232.out 1; have hfz38_2 := blk_frozen BK232.out 2; have hfz38_3 := blk_frozen BK232.out 3; have hfz38_4 := blk_frozen BK232.out 4) | ((with_reducible refine gate_dst (N := 91) rfl ?_); refine Kd.R_lit (Kd.int .i64) _ 2 ?hg (N := 91) ?hd (xs := ([(rd_T40 l0_1 x7_2).f0, (rd_T40 l0_1 x7_2).f1, (rd_T40 l0_1 x7_2).f2, (((rd_T40 l0_1 x7_2).f3).length : Int)] : List Int)) (inner := [.int .i64 ((rd_T40 l0_1 x7_2).f0), .int .i64 ((rd_T40 l0_1 x7_2).f1), .int .i64 ((rd_T40 l0_1 x7_2).f2), .int .i64 (((rd_T40 l0_1 x7_2).f3).length : Int)]) (ok := fun _ => True) (okp := fun _ => True) ?hr ?hp (fun _ hk => hk) trivial (Below.refl _ _) (Nat.le_refl _) (by simp) ?_; (case hd => rfl); (case hg => rfl); (case hr => first | (go_simp; done) | (go_simp; rfl)); (case hp => exact (Reps.one (show Kd.M (Kd.int .i64) _ _ _ ((rd_T40 l0_1 x7_2).f0) [.int .i64 ((rd_T40 l0_1 x7_2).f0)] from rfl) (Reps.one (show Kd.M (Kd.int .i64) _ _ _ ((rd_T40 l0_1 x7_2).f1) [.int .i64 ((rd_T40 l0_1 x7_2).f1)] from rfl) (Reps.one (show Kd.M (Kd.int .i64) _ _ _ ((rd_T40 l0_1 x7_2).f2) [.int .i64 ((rd_T40 l0_1 x7_2).f2)] from rfl) (Reps.one (show Kd.M (Kd.int .i64) _ _ _ (((rd_T40 l0_1 x7_2).f3).length : Int) [.int .i64 (((rd_T40 l0_1 x7_2).f3).length : Int)] from rfl) (Reps.none _ _)))))); intro v234 w39 ho40 hb hg_ hnew_; clear hg_ hnew_; (first | rw [← Ny233.out] at ho40 | (simp only [Int.reduceToNat] at ho40; rw [← Ny233.out] at ho40)); have n0_ := Aside0.mk (Kd.R_elder' (by (with_reducible repeat (first | apply Kd.R_alloc | apply Kd.R_drewN | apply Kd.R_drew)); exact (Kd.R_mono (Kd.R_far (p := ⟨gb232, 4, none⟩) (Kd.R_far (p := ⟨gb232, 3, none⟩) (Kd.R_far (p := ⟨gb232, 2, none⟩) (Kd.R_far (p := ⟨gb232, 1, none⟩) (Kd.R_far (p := ⟨gb232, 0, none⟩) (Kd.R_types HO_3.out BK232.out (by decide)) (fun _ hk => hk.2) (.int .i64 ((rd_T40 l0_1 x7_2).f0))) (fun _ hk => hk.2) (.int .i64 ((rd_T40 l0_1 x7_2).f1))) (fun _ hk => hk.2) (.int .i64 ((rd_T40 l0_1 x7_2).f2))) (fun _ hk => hk.2) (.slice A231_3 ((rd_T40 l0_1 x7_2).f3).length c231_3)) (fun _ hk => hk.2) (.slice A231_4 ((rd_T40 l0_1 x7_2).f4).length c231_4)) (fun _ h_ => h_.1))) (Kd.R_base ho40) hb); have n1_ := Aside0.mk (Kd.R_lower (Kd.R_new' ho40 (Kd.R_lt (by (with_reducible repeat (first | apply Kd.R_alloc | apply Kd.R_drewN | apply Kd.R_drew)); exact (Kd.R_mono (Kd.R_far (p := ⟨gb232, 4, none⟩) (Kd.R_far (p := ⟨gb232, 3, none⟩) (Kd.R_far (p := ⟨gb232, 2, none⟩) (Kd.R_far (p := ⟨gb232, 1, none⟩) (Kd.R_far (p := ⟨gb232, 0, none⟩) (Kd.R_types HO_3.out BK232.out (by decide)) (fun _ hk => hk.2) (.int .i64 ((rd_T40 l0_1 x7_2).f0))) (fun _ hk => hk.2) (.int .i64 ((rd_T40 l0_1 x7_2).f1))) (fun _ hk => hk.2) (.int .i64 ((rd_T40 l0_1 x7_2).f2))) (fun _ hk => hk.2) (.slice A231_3 ((rd_T40 l0_1 x7_2).f3).length c231_3)) (fun _ hk => hk.2) (.slice A231_4 ((rd_T40 l0_1 x7_2).f4).length c231_4)) (fun _ h_ => h_.1))))) (below_size (by repeat (first | (with_reducible first | exact HB.out | apply below_alloc | apply pw_below_drewN | apply below_drew1 | refine below_set ?_ GE208.out | refine below_set ?_ GE232.out) | exact HB.out)))); have n2_ := Aside0.mk (blk_below (g := gb208) (o := .cells #[.slice A0_0 l0_0.length c0_0, .slice (some ad231) l0_1.length c0_1, .int .i64 a0_2] 25 (0, 0)) (by (with_reducible repeat (first | refine blk_drewN ?_ _ | refine blk_drew ?_ | refine blk_alloc ?_ _)); refine blk_far ?_ NB208_232.out _; (with_reducible repeat (first | refine blk_drewN ?_ _ | refine blk_drew ?_ | refine blk_alloc ?_ _)); refine blk_far ?_ NB208_232.out _; (with_reducible repeat (first | refine blk_drewN ?_ _ | refine blk_drew ?_ | refine blk_alloc ?_ _)); refine blk_far ?_ NB208_232.out _; (with_reducible repeat (first | refine blk_drewN ?_ _ | refine blk_drew ?_ | refine blk_alloc ?_ _)); refine blk_far ?_ NB208_232.out _; (with_reducible repeat (first | refine blk_drewN ?_ _ | refine blk_drew ?_ | refine blk_alloc ?_ _)); refine blk_far ?_ NB208_232.out _; (with_reducible repeat (first | refine blk_drewN ?_ _ | refine blk_drew ?_ | refine blk_alloc ?_ _)); exact BK208.out) hb); have n3_ := Aside0.mk (blk_below (g := gb232) (o := .cells #[.int .i64 ((rd_T40 l0_1 x7_2).f0), .int .i64 ((rd_T40 l0_1 x7_2).f1), .int .i64 ((rd_T40 l0_1 x7_2).f2), .slice A231_3 ((rd_T40 l0_1 x7_2).f3).length c231_3, .slice A231_4 ((rd_T40 l0_1 x7_2).f4).length c231_4] 40 (0, 0)) (by (with_reducible repeat (first | refine blk_drewN ?_ _ | refine blk_drew ?_ | refine blk_alloc ?_ _)); refine blk_put (cs := #[.int .i64 ((rd_T40 l0_1 x7_2).f0), .int .i64 ((rd_T40 l0_1 x7_2).f1), .int .i64 ((rd_T40 l0_1 x7_2).f2), .slice A231_3 ((rd_T40 l0_1 x7_2).f3).length c231_3, .slice none 0 0]) ?_ 4 _ rfl; (with_reducible repeat (first | refine blk_drewN ?_ _ | refine blk_drew ?_ | refine blk_alloc ?_ _)); refine blk_put (cs := #[.int .i64 ((rd_T40 l0_1 x7_2).f0), .int .i64 ((rd_T40 l0_1 x7_2).f1), .int .i64 ((rd_T40 l0_1 x7_2).f2), .slice none 0 0, .slice none 0 0]) ?_ 3 _ rfl; (with_reducible repeat (first | refine blk_drewN ?_ _ | refine blk_drew ?_ | refine blk_alloc ?_ _)); refine blk_put (cs := #[.int .i64 ((rd_T40 l0_1 x7_2).f0), .int .i64 ((rd_T40 l0_1 x7_2).f1), .int .i64 0, .slice none 0 0, .slice none 0 0]) ?_ 2 _ rfl; (with_reducible repeat (first | refine blk_drewN ?_ _ | refine blk_drew ?_ | refine blk_alloc ?_ _)); refine blk_put (cs := #[.int .i64 ((rd_T40 l0_1 x7_2).f0), .int .i64 0, .int .i64 0, .slice none 0 0, .slice none 0 0]) ?_ 1 _ rfl; (with_reducible repeat (first | refine blk_drewN ?_ _ | refine blk_drew ?_ | refine blk_alloc ?_ _)); refine blk_put (cs := #[.int .i64 0, .int .i64 0, .int .i64 0, .slice none 0 0, .slice none 0 0]) ?_ 0 _ rfl; (with_reducible repeat (first | refine blk_drewN ?_ _ | refine blk_drew ?_ | refine blk_alloc ?_ _)); exact BK232.out) hb); have n4_ := Aside0.mk (below_step (by repeat (first | (with_reducible first | exact HB.out | apply below_alloc | apply pw_below_drewN | apply below_drew1 | refine below_set ?_ GE208.out | refine below_set ?_ GE232.out) | exact HB.out)) hb); clear HO_3; clear BK208; clear BK232; clear HB; have HO_3 := n0_; have HO235 := n1_; have BK208 := n2_; have BK232 := n3_; have HB := n4_; clear n0_ n1_ n2_ n3_ n4_; clear hb ho40; obtain ⟨Ao42, co42, eo42⟩ := Kd.R_slice HO235.out; subst eo42) | ((with_reducible refine gate_builtin (b := .append) (xs := #[.tmp 81, .tmp 91]) rfl ?_); at_builtin; refine Kd.R_append_rows (Kd.int .i64) (w0 := w) w.heap.size rfl (.tmp 81) (.tmp 91) 52 2 (.int .i64 0) 8 rfl Try.underlying52 info2 rfl (by decide) (by omega) u3 x3_2 y233 _ _ _ (fun k_ => some k_ ≠ (.slice Ao42 y233.length co42 : Value).ownBlock) (fun _ => False) rfl rfl ?aO ?aR (fun _ _ h => h) (fun _ h => h.elim) ?aF ?aB ?aS ?aL ?_; (case aR => repeat (first | exact (Kd.R_reads' HO235.out).2.2 | (with_reducible refine Kd.C_alloc ?_ _) | (with_reducible refine Kd.C_drewN ?_ _) | (with_reducible refine Kd.C_drew ?_))); (case aB => exact (by repeat (first | (with_reducible first | exact HB.out | apply below_alloc | apply pw_below_drewN | apply below_drew1 | refine below_set ?_ GE208.out | refine below_set ?_ GE232.out) | exact HB.out))); (case aF => exact (fun k_ hk => Kd.fresh' (Kd.R_lt (by (with_reducible repeat (first | apply Kd.R_alloc | apply Kd.R_drewN | apply Kd.R_drew)); exact HO235.out)) k_ hk)); (case aO => exact (by (with_reducible repeat (first | apply Kd.R_alloc | apply Kd.R_drewN | apply Kd.R_drew)); exact Kd.R_mono HO_3.out (fun _ hk => hk.2))); (case aS => exact (below_size (by repeat (first | (with_reducible first | exact HB.out | apply below_alloc | apply pw_below_drewN | apply below_drew1 | refine below_set ?_ GE208.out | refine below_set ?_ GE232.out) | exact HB.out)))); (case aL => have := LMc34.out; omega); intro v237 w41 ho hb hg hat; rw [← Ny236.out] at ho; have n0_ := Aside0.mk (blk_grown (g := gb208) (o := .cells #[.slice A0_0 l0_0.length c0_0, .slice (some ad231) l0_1.length c0_1, .int .i64 a0_2] 25 (0, 0)) (by (with_reducible repeat (first | refine blk_drewN ?_ _ | refine blk_drew ?_ | refine blk_alloc ?_ _)); exact BK208.out) hg (Kd.R_ne HO_3.out BK208.out (by decide))); have n1_ := Aside0.mk (blk_grown (g := gb232) (o := .cells #[.int .i64 ((rd_T40 l0_1 x7_2).f0), .int .i64 ((rd_T40 l0_1 x7_2).f1), .int .i64 ((rd_T40 l0_1 x7_2).f2), .slice A231_3 ((rd_T40 l0_1 x7_2).f3).length c231_3, .slice A231_4 ((rd_T40 l0_1 x7_2).f4).length c231_4] 40 (0, 0)) (by (with_reducible repeat (first | refine blk_drewN ?_ _ | refine blk_drew ?_ | refine blk_alloc ?_ _)); exact BK232.out) hg (Kd.R_ne HO_3.out BK232.out (by decide))); have n2_ := Aside0.mk (Kd.R_after (ok := (fun _ => True)) (by (with_reducible repeat (first | apply Kd.R_alloc | apply Kd.R_drewN | apply Kd.R_drew)); exact HO235.out) hg hat); have n3_ := Aside0.mk (hb); have n4_ := Aside0.mk (ho); clear BK208; clear BK232; clear HO235; clear HB; clear HO_3; have BK208 := n0_; have BK232 := n1_; have HO235 := n2_; have HB := n3_; have HO238 := n4_; clear n0_ n1_ n2_ n3_ n4_; clear ho hb hg hat))
                    go_loopg [3, 9] k2 (fun kq v3 v9 w' => ∃ (x3_3 : List Int) (x9_3 : Int), v9 = .int .i64 x9_3 ∧ Aside0 (drogueref22_Numbers.l3 kq x3_3 x7_2 x9_3 l0_0 l0_1 a0_2 ((rd_T40 l0_1 x7_2).f0) ((rd_T40 l0_1 x7_2).f1) ((rd_T40 l0_1 x7_2).f2) ((rd_T40 l0_1 x7_2).f3) ((rd_T40 l0_1 x7_2).f4) = some r) ∧ Aside0 (kq ≤ k2) ∧ Aside0 (Kd.R (Kd.int .i64) 2 w' w.heap.size (fun _ => True) v3 x3_3) ∧ Aside0 (w'.heap[gb208]? = some (.cells #[(.slice A0_0 l0_0.length c0_0), (.slice (some ad231) l0_1.length c0_1), .int .i64 a0_2] 25 (0, 0))) ∧ Aside0 (w'.heap[gb232]? = some (.cells #[.int .i64 ((rd_T40 l0_1 x7_2).f0), .int .i64 ((rd_T40 l0_1 x7_2).f1), .int .i64 ((rd_T40 l0_1 x7_2).f2), (.slice A231_3 ((rd_T40 l0_1 x7_2).f3).length c231_3), (.slice A231_4 ((rd_T40 l0_1 x7_2).f4).length c231_4)] 40 (0, 0))) ∧ Aside0 (Below w.heap.size w w'))
                    case atStart => exact ⟨(y236), (0), (by first | rfl | (simp; done) | (simp [*]; done)), H', ⟨Nat.le_refl _⟩, ⟨by (with_reducible repeat (first | apply Kd.R_alloc | apply Kd.R_drewN | apply Kd.R_drew)); exact Kd.R_mono HO238.out (fun _ hk => trivial)⟩, ⟨by (with_reducible repeat (first | refine blk_drewN ?_ _ | refine blk_drew ?_ | refine blk_alloc ?_ _)); exact BK208.out⟩, ⟨by (with_reducible repeat (first | refine blk_drewN ?_ _ | refine blk_drew ?_ | refine blk_alloc ?_ _)); exact BK232.out⟩, ⟨by repeat (first | (with_reducible first | exact HB.out | apply below_alloc | apply pw_below_drewN | apply below_drew1 | refine below_set ?_ GE208.out | refine below_set ?_ GE232.out) | exact HB.out)⟩⟩
                    case round =>
                      clear H'
                      try clear c1
                      try clear c2
                      try clear p2
                      try clear q2
                      try clear hx2
                      try clear c3
                      try clear c6
                      try clear c6b0
                      try clear p6
                      try clear c7
                      try clear c7b0
                      try clear c8
                      try clear c11
                      try clear c17
                      try clear c17b0
                      try clear c18
                      try clear c18b0
                      try clear c19
                      try clear c20
                      try clear c21
                      try clear p21
                      try clear q21
                      try clear hx21
                      try clear p22
                      try clear q22
                      try clear hx22
                      try clear c23
                      try clear p23
                      try clear q23
                      try clear hx23
                      try clear c27
                      try clear c29
                      try clear c32
                      try clear c32b0
                      try clear c33
                      try clear c33b0
                      try clear c34
                      try clear c37
                      try clear hcz12_0
                      try clear hcz12_1
                      try clear hcz12_2
                      try clear hcz12_3
                      try clear hcz21_0
                      try clear hcz21_1
                      try clear hcz21_2
                      try clear hcz21_3
                      try clear hcz28_0
                      try clear hcz28_1
                      try clear hcz28_2
                      try clear hcz28_3
                      try clear hcz30_0
                      try clear hcz30_1
                      try clear hcz30_2
                      try clear hcz35_0
                      try clear hcz35_1
                      try clear hcz35_2
                      try clear hcz38_0
                      try clear hcz38_1
                      try clear hcz38_2
                      try clear hcz38_3
                      try clear hcz38_4
                      try clear hcz3_0
                      try clear hcz3_1
                      try clear hcz3_2
                      try clear hcz9_0
                      try clear hcz9_1
                      try clear hcz9_2
                      try clear hfz12_0
                      try clear hfz12_1
                      try clear hfz12_2
                      try clear hfz12_3
                      try clear hfz21_0
                      try clear hfz21_1
                      try clear hfz21_2
                      try clear hfz21_3
                      try clear hfz28_0
                      try clear hfz28_1
                      try clear hfz28_2
                      try clear hfz28_3
                      try clear hfz30_0
                      try clear hfz30_1
                      try clear hfz30_2
                      try clear hfz35_0
                      try clear hfz35_1
                      try clear hfz35_2
                      try clear hfz38_0
                      try clear hfz38_1
                      try clear hfz38_2
                      try clear hfz38_3
                      try clear hfz38_4
                      try clear hfz3_0
                      try clear hfz3_1
                      try clear hfz3_2
                      try clear hfz9_0
                      try clear hfz9_1
                      try clear hfz9_2
                      try clear hx212_0
                      try clear hx212_1
                      try clear hx212_2
                      try clear hx212_3
                      try clear hx220_0
                      try clear hx220_1
                      try clear hx221_0
                      try clear hx221_1
                      try clear hx231_0
                      try clear hx231_1
                      try clear hx231_2
                      try clear hx231_3
                      try clear hx231_4
                      try clear p2
                      try clear p21
                      try clear p212
                      try clear p22
                      try clear p220
                      try clear p221
                      try clear p231
                      try clear p6
                      try clear q2
                      try clear q21
                      try clear q212
                      try clear q22
                      try clear q220
                      try clear q221
                      try clear q231
                      obtain ⟨x3_3, x9_3, rfl, HA, HK3, HO_3, BK208, BK232, HB⟩ := hrel
                      cases gk with
                      | zero => exact absurd HA.out (by simp [drogueref22_Numbers.l3])
                      | succ k3 =>
                        have H := HA.out
                        clear HA
                        simp only [drogueref22_Numbers.l3] at H
                        by_cases c43 : x9_3 < (((rd_T40 l0_1 x7_2).f3).length : Int)
                        · rw [if_pos c43] at H
                          have c43b0 : decide (x9_3 < (((rd_T40 l0_1 x7_2).f3).length : Int)) = true := decide_eq_true c43
                          clear c43
                          by_cases c44 : 0 ≤ x9_3
                          · rw [if_pos c44] at H
                            have c44b0 : decide (0 ≤ x9_3) = true := decide_eq_true c44
                            clear c44
                            obtain ⟨y243, hy243⟩ : ∃ y_ : List Int, y_ = (([(rd_T42 ((rd_T40 l0_1 x7_2).f3) x9_3).f0, (rd_T42 ((rd_T40 l0_1 x7_2).f3) x9_3).f1, (rd_T42 ((rd_T40 l0_1 x7_2).f3) x9_3).f2, (rd_T42 ((rd_T40 l0_1 x7_2).f3) x9_3).f3] : List Int)) := ⟨_, rfl⟩
                            replace H : (if x3_3.length + y243.length < 17592186044416 then (drogueref22_Numbers.l3 k3 (x3_3 ++ y243) x7_2 (wrap64 (x9_3 + 1)) l0_0 l0_1 a0_2 ((rd_T40 l0_1 x7_2).f0) ((rd_T40 l0_1 x7_2).f1) ((rd_T40 l0_1 x7_2).f2) ((rd_T40 l0_1 x7_2).f3) ((rd_T40 l0_1 x7_2).f4)) else (none)) = some r := by first | (rw [hy243]; with_reducible exact H) | (have H2_ := (Option.bind_some _ _).symm.trans H; rw [hy243]; with_reducible exact H2_) | (have H2_ := (Option.bind_some _ _).symm.trans H; with_reducible exact H2_) | with_reducible exact H | (rw [hy243]; exact H) | exact H
                            have Ny243 := Aside0.mk hy243
                            clear hy243
                            by_cases c45 : x3_3.length + y243.length < 17592186044416
                            · rw [if_pos c45] at H
                              have LMc45 := Aside0.mk c45
                              clear c45
                              obtain ⟨y246, hy246⟩ : ∃ y_ : List Int, y_ = (x3_3 ++ y243) := ⟨_, rfl⟩
                              replace H : (drogueref22_Numbers.l3 k3 y246 x7_2 (wrap64 (x9_3 + 1)) l0_0 l0_1 a0_2 ((rd_T40 l0_1 x7_2).f0) ((rd_T40 l0_1 x7_2).f1) ((rd_T40 l0_1 x7_2).f2) ((rd_T40 l0_1 x7_2).f3) ((rd_T40 l0_1 x7_2).f4)) = some r := by first | (rw [hy246]; with_reducible exact H) | (have H2_ := (Option.bind_some _ _).symm.trans H; rw [hy246]; with_reducible exact H2_) | (have H2_ := (Option.bind_some _ _).symm.trans H; with_reducible exact H2_) | with_reducible exact H | (rw [hy246]; exact H) | exact H
                              have Ny246 := Aside0.mk hy246
                              clear hy246
                              have H' := Aside0.mk H
                              clear H
                              have hnb46 := NB232_208.out
                              have hnc46 := NB208_232.out
                              have hcz47_0 : wr.cell? ⟨gb232, 0, none⟩ = some (.int .i64 ((rd_T40 l0_1 x7_2).f0)) := (blk_cell BK232.out 0).trans rfl
                              have hcz47_1 : wr.cell? ⟨gb232, 1, none⟩ = some (.int .i64 ((rd_T40 l0_1 x7_2).f1)) := (blk_cell BK232.out 1).trans rfl
                              have hcz47_2 : wr.cell? ⟨gb232, 2, none⟩ = some (.int .i64 ((rd_T40 l0_1 x7_2).f2)) := (blk_cell BK232.out 2).trans rfl
                              have hcz47_3 : wr.cell? ⟨gb232, 3, none⟩ = some (.slice A231_3 ((rd_T40 l0_1 x7_2).f3).length c231_3) := (blk_cell BK232.out 3).trans rfl
                              have hcz47_4 : wr.cell? ⟨gb232, 4, none⟩ = some (.slice A231_4 ((rd_T40 l0_1 x7_2).f4).length c231_4) := (blk_cell BK232.out 4).trans rfl
                              have hfz47_0 := blk_frozen BK232.out 0
                              have hfz47_1 := blk_frozen BK232.out 1
                              have hfz47_2 := blk_frozen BK232.out 2
                              have hfz47_3 := blk_frozen BK232.out 3
                              have hfz47_4 := blk_frozen BK232.out 4
                              try go_wp2
                              have n0_ := Aside0.mk (Kd.R_drew HO_3.out)
                              have n1_ := Aside0.mk (blk_drew BK208.out)
                              have n2_ := Aside0.mk (blk_drew BK232.out)
                              have n3_ := Aside0.mk (below_drew1 HB.out)
                              clear HO_3
                              clear BK208
                              clear BK232
                              clear HB
                              have HO_3 := n0_
                              have BK208 := n1_
                              have BK232 := n2_
                              have HB := n3_
                              clear n0_ n1_ n2_ n3_
                              have p239 : 0 ≤ (x9_3 : Int) := of_decide_eq_true (by first | (with_reducible assumption) | assumption)
                              have q239 : x9_3 < (((rd_T40 l0_1 x7_2).f3).length : Int) := of_decide_eq_true (by first | (with_reducible assumption) | assumption)
                              obtain ⟨ad239, e239, hx239_0, hx239_1, hx239_2, hx239_3⟩ := at_T42 HR231_3.out x9_3 p239 q239
                              have hw239_3 := hx239_3
                              have hw239_2 := hx239_2
                              have hw239_1 := hx239_1
                              have hw239_0 := hx239_0
                              cases e239
                              replace hx239_0 := (HB.out.cell (World.block_lt_of_cell? w _ hx239_0)).trans hx239_0
                              replace hx239_1 := (HB.out.cell (World.block_lt_of_cell? w _ hx239_1)).trans hx239_1
                              replace hx239_2 := (HB.out.cell (World.block_lt_of_cell? w _ hx239_2)).trans hx239_2
                              replace hx239_3 := (HB.out.cell (World.block_lt_of_cell? w _ hx239_3)).trans hx239_3
                              replace p239 := eq_true p239
                              replace q239 := eq_true q239
                              have p240 : 0 ≤ (x9_3 : Int) := of_decide_eq_true (by first | (with_reducible assumption) | assumption)
                              have q240 : x9_3 < (((rd_T40 l0_1 x7_2).f3).length : Int) := of_decide_eq_true (by first | (with_reducible assumption) | assumption)
                              obtain ⟨ad240, e240, hx240_0, hx240_1, hx240_2, hx240_3⟩ := at_T42 HR231_3.out x9_3 p240 q240
                              have hw240_3 := hx240_3
                              have hw240_2 := hx240_2
                              have hw240_1 := hx240_1
                              have hw240_0 := hx240_0
                              obtain rfl : ad239 = ad240 := (by injection e240)
                              replace hx240_0 := (HB.out.cell (World.block_lt_of_cell? w _ hx240_0)).trans hx240_0
                              replace hx240_1 := (HB.out.cell (World.block_lt_of_cell? w _ hx240_1)).trans hx240_1
                              replace hx240_2 := (HB.out.cell (World.block_lt_of_cell? w _ hx240_2)).trans hx240_2
                              replace hx240_3 := (HB.out.cell (World.block_lt_of_cell? w _ hx240_3)).trans hx240_3
                              replace p240 := eq_true p240
                              replace q240 := eq_true q240
                              have p241 : 0 ≤ (x9_3 : Int) := of_decide_eq_true (by first | (with_reducible assumption) | assumption)
                              have q241 : x9_3 < (((rd_T40 l0_1 x7_2).f3).length : Int) := of_decide_eq_true (by first | (with_reducible assumption) | assumption)
                              obtain ⟨ad241, e241, hx241_0, hx241_1, hx241_2, hx241_3⟩ := at_T42 HR231_3.out x9_3 p241 q241
                              have hw241_3 := hx241_3
                              have hw241_2 := hx241_2
                              have hw241_1 := hx241_1
                              have hw241_0 := hx241_0
                              obtain rfl : ad239 = ad241 := (by injection e241)
                              replace hx241_0 := (HB.out.cell (World.block_lt_of_cell? w _ hx241_0)).trans hx241_0
                              replace hx241_1 := (HB.out.cell (World.block_lt_of_cell? w _ hx241_1)).trans hx241_1
                              replace hx241_2 := (HB.out.cell (World.block_lt_of_cell? w _ hx241_2)).trans hx241_2
                              replace hx241_3 := (HB.out.cell (World.block_lt_of_cell? w _ hx241_3)).trans hx241_3
                              replace p241 := eq_true p241
                              replace q241 := eq_true q241
                              have p242 : 0 ≤ (x9_3 : Int) := of_decide_eq_true (by first | (with_reducible assumption) | assumption)
                              have q242 : x9_3 < (((rd_T40 l0_1 x7_2).f3).length : Int) := of_decide_eq_true (by first | (with_reducible assumption) | assumption)
                              obtain ⟨ad242, e242, hx242_0, hx242_1, hx242_2, hx242_3⟩ := at_T42 HR231_3.out x9_3 p242 q242
                              have hw242_3 := hx242_3
                              have hw242_2 := hx242_2
                              have hw242_1 := hx242_1
                              have hw242_0 := hx242_0
                              obtain rfl : ad239 = ad242 := (by injection e242)
                              replace hx242_0 := (HB.out.cell (World.block_lt_of_cell? w _ hx242_0)).trans hx242_0
                              replace hx242_1 := (HB.out.cell (World.block_lt_of_cell? w _ hx242_1)).trans hx242_1
                              replace hx242_2 := (HB.out.cell (World.block_lt_of_cell? w _ hx242_2)).trans hx242_2
                              replace hx242_3 := (HB.out.cell (World.block_lt_of_cell? w _ hx242_3)).trans hx242_3
                              replace p242 := eq_true p242
                              replace q242 := eq_true q242
                              refine start_ (n := 28) (S := fun w' => w'.cell? ⟨gb232, 0, none⟩ = some (.int .i64 ((rd_T40 l0_1 x7_2).f0)) ∧ w'.cell? ⟨gb232, 1, none⟩ = some (.int .i64 ((rd_T40 l0_1 x7_2).f1)) ∧ w'.cell? ⟨gb232, 2, none⟩ = some (.int .i64 ((rd_T40 l0_1 x7_2).f2)) ∧ w'.cell? ⟨gb232, 3, none⟩ = some (.slice (some ad239) ((rd_T40 l0_1 x7_2).f3).length c231_3) ∧ w'.cell? ⟨gb232, 4, none⟩ = some (.slice A231_4 ((rd_T40 l0_1 x7_2).f4).length c231_4) ∧ w'.cell? (ad239.add ((x9_3).toNat * 4)) = some (.int .i64 ((rd_T42 ((rd_T40 l0_1 x7_2).f3) x9_3).f0)) ∧ w'.cell? ⟨(ad239.add ((x9_3).toNat * 4)).block, (ad239.add ((x9_3).toNat * 4)).off + 1, none⟩ = some (.int .i64 ((rd_T42 ((rd_T40 l0_1 x7_2).f3) x9_3).f1)) ∧ w'.cell? ⟨(ad239.add ((x9_3).toNat * 4)).block, (ad239.add ((x9_3).toNat * 4)).off + 2, none⟩ = some (.int .i64 ((rd_T42 ((rd_T40 l0_1 x7_2).f3) x9_3).f2)) ∧ w'.cell? ⟨(ad239.add ((x9_3).toNat * 4)).block, (ad239.add ((x9_3).toNat * 4)).off + 3, none⟩ = some (.int .i64 ((rd_T42 ((rd_T40 l0_1 x7_2).f3) x9_3).f3)) ∧ w'.cell? (ad239.add ((x9_3).toNat * 4)) = some (.int .i64 ((rd_T42 ((rd_T40 l0_1 x7_2).f3) x9_3).f0)) ∧ w'.cell? ⟨(ad239.add ((x9_3).toNat * 4)).block, (ad239.add ((x9_3).toNat * 4)).off + 1, none⟩ = some (.int .i64 ((rd_T42 ((rd_T40 l0_1 x7_2).f3) x9_3).f1)) ∧ w'.cell? ⟨(ad239.add ((x9_3).toNat * 4)).block, (ad239.add ((x9_3).toNat * 4)).off + 2, none⟩ = some (.int .i64 ((rd_T42 ((rd_T40 l0_1 x7_2).f3) x9_3).f2)) ∧ w'.cell? ⟨(ad239.add ((x9_3).toNat * 4)).block, (ad239.add ((x9_3).toNat * 4)).off + 3, none⟩ = some (.int .i64 ((rd_T42 ((rd_T40 l0_1 x7_2).f3) x9_3).f3)) ∧ w'.cell? (ad239.add ((x9_3).toNat * 4)) = some (.int .i64 ((rd_T42 ((rd_T40 l0_1 x7_2).f3) x9_3).f0)) ∧ w'.cell? ⟨(ad239.add ((x9_3).toNat * 4)).block, (ad239.add ((x9_3).toNat * 4)).off + 1, none⟩ = some (.int .i64 ((rd_T42 ((rd_T40 l0_1 x7_2).f3) x9_3).f1)) ∧ w'.cell? ⟨(ad239.add ((x9_3).toNat * 4)).block, (ad239.add ((x9_3).toNat * 4)).off + 2, none⟩ = some (.int .i64 ((rd_T42 ((rd_T40 l0_1 x7_2).f3) x9_3).f2)) ∧ w'.cell? ⟨(ad239.add ((x9_3).toNat * 4)).block, (ad239.add ((x9_3).toNat * 4)).off + 3, none⟩ = some (.int .i64 ((rd_T42 ((rd_T40 l0_1 x7_2).f3) x9_3).f3)) ∧ w'.cell? (ad239.add ((x9_3).toNat * 4)) = some (.int .i64 ((rd_T42 ((rd_T40 l0_1 x7_2).f3) x9_3).f0)) ∧ w'.cell? ⟨(ad239.add ((x9_3).toNat * 4)).block, (ad239.add ((x9_3).toNat * 4)).off + 1, none⟩ = some (.int .i64 ((rd_T42 ((rd_T40 l0_1 x7_2).f3) x9_3).f1)) ∧ w'.cell? ⟨(ad239.add ((x9_3).toNat * 4)).block, (ad239.add ((x9_3).toNat * 4)).off + 2, none⟩ = some (.int .i64 ((rd_T42 ((rd_T40 l0_1 x7_2).f3) x9_3).f2)) ∧ w'.cell? ⟨(ad239.add ((x9_3).toNat * 4)).block, (ad239.add ((x9_3).toNat * 4)).off + 3, none⟩ = some (.int .i64 ((rd_T42 ((rd_T40 l0_1 x7_2).f3) x9_3).f3))) (ds := []) #[false, false, false, false, false, false, false, false, false, false, false, false, false, false, false, false, false, false, false, false, false, false, false, false, false, false, false, false] (by kernel_rfl) rfl rfl ⟨(blk_cell BK232.out 0).trans rfl, (blk_cell BK232.out 1).trans rfl, (blk_cell BK232.out 2).trans rfl, (blk_cell BK232.out 3).trans rfl, (blk_cell BK232.out 4).trans rfl, ((HB.out.cell (World.block_lt_of_cell? w _ hw239_0)).trans hw239_0), ((HB.out.cell (World.block_lt_of_cell? w _ hw239_1)).trans hw239_1), ((HB.out.cell (World.block_lt_of_cell? w _ hw239_2)).trans hw239_2), ((HB.out.cell (World.block_lt_of_cell? w _ hw239_3)).trans hw239_3), ((HB.out.cell (World.block_lt_of_cell? w _ hw240_0)).trans hw240_0), ((HB.out.cell (World.block_lt_of_cell? w _ hw240_1)).trans hw240_1), ((HB.out.cell (World.block_lt_of_cell? w _ hw240_2)).trans hw240_2), ((HB.out.cell (World.block_lt_of_cell? w _ hw240_3)).trans hw240_3), ((HB.out.cell (World.block_lt_of_cell? w _ hw241_0)).trans hw241_0), ((HB.out.cell (World.block_lt_of_cell? w _ hw241_1)).trans hw241_1), ((HB.out.cell (World.block_lt_of_cell? w _ hw241_2)).trans hw241_2), ((HB.out.cell (World.block_lt_of_cell? w _ hw241_3)).trans hw241_3), ((HB.out.cell (World.block_lt_of_cell? w _ hw242_0)).trans hw242_0), ((HB.out.cell (World.block_lt_of_cell? w _ hw242_1)).trans hw242_1), ((HB.out.cell (World.block_lt_of_cell? w _ hw242_2)).trans hw242_2), ((HB.out.cell (World.block_lt_of_cell? w _ hw242_3)).trans hw242_3)⟩ (fun hHeld => ?_); refine with_tabW drogueref22_Numbers.tab20 drogueref22_Numbers.bits20 (fun HT_ HW_ => ?_)
                              generalize wr.drew = w48 at HO_3 BK208 BK232 HB hx239_0 hx239_1 hx239_2 hx239_3 hx240_0 hx240_1 hx240_2 hx240_3 hx241_0 hx241_1 hx241_2 hx241_3 hx242_0 hx242_1 hx242_2 hx242_3 hHeld ⊢
                              refine pure_ (i := 0) (N := some 100) (v := ?_) (a' := ?_) #[true, false, false, false, false, false, false, false, false, false, false, false, false, false, false, false, false, false, false, false, false, false, false, false, false, false, false, false] rfl rfl (any_of HT_.out (by kernel_rfl)) (fun _ _ _ h => h) (Or.inl ⟨by rfl, ?_⟩) ?_ ?_
                              rotate_left
                              · intro w'
                                go_simp
                                with_reducible rfl
                              rotate_left
                              · simp only [Act.put, List.setIfInBounds_toArray, List.set_cons_zero, List.set_cons_succ, i64_w, i32_w]
                                rfl
                              refine pure_ (i := 1) (N := some 101) (v := ?_) (a' := ?_) #[true, true, false, false, false, false, false, false, false, false, false, false, false, false, false, false, false, false, false, false, false, false, false, false, false, false, false, false] rfl rfl (any_of HT_.out (by kernel_rfl)) (fun _ _ _ h => h) (Or.inl ⟨by rfl, ?_⟩) ?_ ?_
                              rotate_left
                              · intro w'
                                go_simp
                                with_reducible rfl
                              rotate_left
                              · simp only [Act.put, List.setIfInBounds_toArray, List.set_cons_zero, List.set_cons_succ, i64_w, i32_w]
                                rfl
                              refine pure_ (i := 3) (N := some 103) (v := ?_) (a' := ?_) #[true, true, false, true, false, false, false, false, false, false, false, false, false, false, false, false, false, false, false, false, false, false, false, false, false, false, false, false] rfl rfl (any_of HT_.out (by kernel_rfl)) (fun _ _ _ h => h) (Or.inl ⟨by rfl, ?_⟩) ?_ ?_
                              rotate_left
                              · intro w'
                                go_simp
                                with_reducible rfl
                              rotate_left
                              · simp only [Act.put, List.setIfInBounds_toArray, List.set_cons_zero, List.set_cons_succ, i64_w, i32_w]
                                rfl
                              refine pure_ (i := 7) (N := some 107) (v := ?_) (a' := ?_) #[true, true, false, true, false, false, false, true, false, false, false, false, false, false, false, false, false, false, false, false, false, false, false, false, false, false, false, false] rfl rfl (any_of HT_.out (by kernel_rfl)) (fun _ _ _ h => h) (Or.inl ⟨by rfl, ?_⟩) ?_ ?_
                              rotate_left
                              · intro w'
                                go_simp
                                with_reducible rfl
                              rotate_left
                              · simp only [Act.put, List.setIfInBounds_toArray, List.set_cons_zero, List.set_cons_succ, i64_w, i32_w]
                                rfl
                              refine pure_ (i := 9) (N := some 109) (v := ?_) (a' := ?_) #[true, true, false, true, false, false, false, true, false, true, false, false, false, false, false, false, false, false, false, false, false, false, false, false, false, false, false, false] rfl rfl (any_of HT_.out (by kernel_rfl)) (fun _ _ _ h => h) (Or.inl ⟨by rfl, ?_⟩) ?_ ?_
                              rotate_left
                              · intro w'
                                go_simp
                                with_reducible rfl
                              rotate_left
                              · simp only [Act.put, List.setIfInBounds_toArray, List.set_cons_zero, List.set_cons_succ, i64_w, i32_w]
                                rfl
                              refine pure_ (i := 13) (N := some 113) (v := ?_) (a' := ?_) #[true, true, false, true, false, false, false, true, false, true, false, false, false, true, false, false, false, false, false, false, false, false, false, false, false, false, false, false] rfl rfl (any_of HT_.out (by kernel_rfl)) (fun _ _ _ h => h) (Or.inl ⟨by rfl, ?_⟩) ?_ ?_
                              rotate_left
                              · intro w'
                                go_simp
                                with_reducible rfl
                              rotate_left
                              · simp only [Act.put, List.setIfInBounds_toArray, List.set_cons_zero, List.set_cons_succ, i64_w, i32_w]
                                rfl
                              refine pure_ (i := 15) (N := some 115) (v := ?_) (a' := ?_) #[true, true, false, true, false, false, false, true, false, true, false, false, false, true, false, true, false, false, false, false, false, false, false, false, false, false, false, false] rfl rfl (any_of HT_.out (by kernel_rfl)) (fun _ _ _ h => h) (Or.inl ⟨by rfl, ?_⟩) ?_ ?_
                              rotate_left
                              · intro w'
                                go_simp
                                with_reducible rfl
                              rotate_left
                              · simp only [Act.put, List.setIfInBounds_toArray, List.set_cons_zero, List.set_cons_succ, i64_w, i32_w]
                                rfl
                              refine pure_ (i := 19) (N := some 119) (v := ?_) (a' := ?_) #[true, true, false, true, false, false, false, true, false, true, false, false, false, true, false, true, false, false, false, true, false, false, false, false, false, false, false, false] rfl rfl (any_of HT_.out (by kernel_rfl)) (fun _ _ _ h => h) (Or.inl ⟨by rfl, ?_⟩) ?_ ?_
                              rotate_left
                              · intro w'
                                go_simp
                                with_reducible rfl
                              rotate_left
                              · simp only [Act.put, List.setIfInBounds_toArray, List.set_cons_zero, List.set_cons_succ, i64_w, i32_w]
                                rfl
                              refine pure_ (i := 21) (N := some 121) (v := ?_) (a' := ?_) #[true, true, false, true, false, false, false, true, false, true, false, false, false, true, false, true, false, false, false, true, false, true, false, false, false, false, false, false] rfl rfl (any_of HT_.out (by kernel_rfl)) (fun _ _ _ h => h) (Or.inl ⟨by rfl, ?_⟩) ?_ ?_
                              rotate_left
                              · intro w'
                                go_simp
                                with_reducible rfl
                              rotate_left
                              · simp only [Act.put, List.setIfInBounds_toArray, List.set_cons_zero, List.set_cons_succ, i64_w, i32_w]
                                rfl
                              refine take_ (i := 2) (N := some 102) (v := ?_) (a' := ?_) #[true, true, true, true, false, false, false, true, false, true, false, false, false, true, false, true, false, false, false, true, false, true, false, false, false, false, false, false] rfl rfl (take_ofW HT_.out HW_.out (by kernel_rfl)) (fun _ _ _ h => h) (Or.inl ⟨by rfl, ?_⟩) hHeld ?_ ?_
                              rotate_left
                              · rintro w' ⟨s0, s1, s2, s3, s4, s5, s6, s7, s8, s9, s10, s11, s12, s13, s14, s15, s16, s17, s18, s19, s20⟩
                                go_simp
                                with_reducible rfl
                              rotate_left
                              · simp only [Act.put, List.setIfInBounds_toArray, List.set_cons_zero, List.set_cons_succ, i64_w, i32_w]
                                rfl
                              refine pure_ (i := 4) (N := some 104) (v := ?_) (a' := ?_) #[true, true, true, true, true, false, false, true, false, true, false, false, false, true, false, true, false, false, false, true, false, true, false, false, false, false, false, false] rfl rfl (any_of HT_.out (by kernel_rfl)) (fun _ _ _ h => h) (Or.inl ⟨by rfl, ?_⟩) ?_ ?_
                              rotate_left
                              · intro w'
                                go_simp
                                with_reducible rfl
                              rotate_left
                              · simp only [Act.put, List.setIfInBounds_toArray, List.set_cons_zero, List.set_cons_succ, i64_w, i32_w]
                                rfl
                              refine pure_ (i := 5) (N := some 105) (v := ?_) (a' := ?_) #[true, true, true, true, true, true, false, true, false, true, false, false, false, true, false, true, false, false, false, true, false, true, false, false, false, false, false, false] rfl rfl (any_of HT_.out (by kernel_rfl)) (fun _ _ _ h => h) (Or.inl ⟨by rfl, ?_⟩) ?_ ?_
                              rotate_left
                              · intro w'
                                go_simp
                                with_reducible rfl
                              rotate_left
                              · simp only [Act.put, List.setIfInBounds_toArray, List.set_cons_zero, List.set_cons_succ, i64_w, i32_w]
                                rfl
                              refine take_ (i := 6) (N := some 106) (v := ?_) (a' := ?_) #[true, true, true, true, true, true, true, true, false, true, false, false, false, true, false, true, false, false, false, true, false, true, false, false, false, false, false, false] rfl rfl (take_ofW HT_.out HW_.out (by kernel_rfl)) (fun _ _ _ h => h) (Or.inl ⟨by rfl, ?_⟩) hHeld ?_ ?_
                              rotate_left
                              · rintro w' ⟨s0, s1, s2, s3, s4, s5, s6, s7, s8, s9, s10, s11, s12, s13, s14, s15, s16, s17, s18, s19, s20⟩
                                go_simp
                                with_reducible rfl
                              rotate_left
                              · simp only [Act.put, List.setIfInBounds_toArray, List.set_cons_zero, List.set_cons_succ, i64_w, i32_w]
                                rfl
                              refine take_ (i := 8) (N := some 108) (v := ?_) (a' := ?_) #[true, true, true, true, true, true, true, true, true, true, false, false, false, true, false, true, false, false, false, true, false, true, false, false, false, false, false, false] rfl rfl (take_ofW HT_.out HW_.out (by kernel_rfl)) (fun _ _ _ h => h) (Or.inl ⟨by rfl, ?_⟩) hHeld ?_ ?_
                              rotate_left
                              · rintro w' ⟨s0, s1, s2, s3, s4, s5, s6, s7, s8, s9, s10, s11, s12, s13, s14, s15, s16, s17, s18, s19, s20⟩
                                go_simp
                                with_reducible rfl
                              rotate_left
                              · simp only [Act.put, List.setIfInBounds_toArray, List.set_cons_zero, List.set_cons_succ, i64_w, i32_w]
                                rfl
                              refine pure_ (i := 10) (N := some 110) (v := ?_) (a' := ?_) #[true, true, true, true, true, true, true, true, true, true, true, false, false, true, false, true, false, false, false, true, false, true, false, false, false, false, false, false] rfl rfl (any_of HT_.out (by kernel_rfl)) (fun _ _ _ h => h) (Or.inl ⟨by rfl, ?_⟩) ?_ ?_
                              rotate_left
                              · intro w'
                                go_simp
                                with_reducible rfl
                              rotate_left
                              · simp only [Act.put, List.setIfInBounds_toArray, List.set_cons_zero, List.set_cons_succ, i64_w, i32_w]
                                rfl
                              refine pure_ (i := 11) (N := some 111) (v := ?_) (a' := ?_) #[true, true, true, true, true, true, true, true, true, true, true, true, false, true, false, true, false, false, false, true, false, true, false, false, false, false, false, false] rfl rfl (any_of HT_.out (by kernel_rfl)) (fun _ _ _ h => h) (Or.inl ⟨by rfl, ?_⟩) ?_ ?_
                              rotate_left
                              · intro w'
                                go_simp
                                with_reducible rfl
                              rotate_left
                              · simp only [Act.put, List.setIfInBounds_toArray, List.set_cons_zero, List.set_cons_succ, i64_w, i32_w]
                                rfl
                              refine take_ (i := 12) (N := some 112) (v := ?_) (a' := ?_) #[true, true, true, true, true, true, true, true, true, true, true, true, true, true, false, true, false, false, false, true, false, true, false, false, false, false, false, false] rfl rfl (take_ofW HT_.out HW_.out (by kernel_rfl)) (fun _ _ _ h => h) (Or.inl ⟨by rfl, ?_⟩) hHeld ?_ ?_
                              rotate_left
                              · rintro w' ⟨s0, s1, s2, s3, s4, s5, s6, s7, s8, s9, s10, s11, s12, s13, s14, s15, s16, s17, s18, s19, s20⟩
                                go_simp
                                with_reducible rfl
                              rotate_left
                              · simp only [Act.put, List.setIfInBounds_toArray, List.set_cons_zero, List.set_cons_succ, i64_w, i32_w]
                                rfl
                              refine take_ (i := 14) (N := some 114) (v := ?_) (a' := ?_) #[true, true, true, true, true, true, true, true, true, true, true, true, true, true, true, true, false, false, false, true, false, true, false, false, false, false, false, false] rfl rfl (take_ofW HT_.out HW_.out (by kernel_rfl)) (fun _ _ _ h => h) (Or.inl ⟨by rfl, ?_⟩) hHeld ?_ ?_
                              rotate_left
                              · rintro w' ⟨s0, s1, s2, s3, s4, s5, s6, s7, s8, s9, s10, s11, s12, s13, s14, s15, s16, s17, s18, s19, s20⟩
                                go_simp
                                with_reducible rfl
                              rotate_left
                              · simp only [Act.put, List.setIfInBounds_toArray, List.set_cons_zero, List.set_cons_succ, i64_w, i32_w]
                                rfl
                              refine pure_ (i := 16) (N := some 116) (v := ?_) (a' := ?_) #[true, true, true, true, true, true, true, true, true, true, true, true, true, true, true, true, true, false, false, true, false, true, false, false, false, false, false, false] rfl rfl (any_of HT_.out (by kernel_rfl)) (fun _ _ _ h => h) (Or.inl ⟨by rfl, ?_⟩) ?_ ?_
                              rotate_left
                              · intro w'
                                go_simp
                                with_reducible rfl
                              rotate_left
                              · simp only [Act.put, List.setIfInBounds_toArray, List.set_cons_zero, List.set_cons_succ, i64_w, i32_w]
                                rfl
                              refine pure_ (i := 17) (N := some 117) (v := ?_) (a' := ?_) #[true, true, true, true, true, true, true, true, true, true, true, true, true, true, true, true, true, true, false, true, false, true, false, false, false, false, false, false] rfl rfl (any_of HT_.out (by kernel_rfl)) (fun _ _ _ h => h) (Or.inl ⟨by rfl, ?_⟩) ?_ ?_
                              rotate_left
                              · intro w'
                                go_simp
                                with_reducible rfl
                              rotate_left
                              · simp only [Act.put, List.setIfInBounds_toArray, List.set_cons_zero, List.set_cons_succ, i64_w, i32_w]
                                rfl
                              refine take_ (i := 18) (N := some 118) (v := ?_) (a' := ?_) #[true, true, true, true, true, true, true, true, true, true, true, true, true, true, true, true, true, true, true, true, false, true, false, false, false, false, false, false] rfl rfl (take_ofW HT_.out HW_.out (by kernel_rfl)) (fun _ _ _ h => h) (Or.inl ⟨by rfl, ?_⟩) hHeld ?_ ?_
                              rotate_left
                              · rintro w' ⟨s0, s1, s2, s3, s4, s5, s6, s7, s8, s9, s10, s11, s12, s13, s14, s15, s16, s17, s18, s19, s20⟩
                                go_simp
                                with_reducible rfl
                              rotate_left
                              · simp only [Act.put, List.setIfInBounds_toArray, List.set_cons_zero, List.set_cons_succ, i64_w, i32_w]
                                rfl
                              refine take_ (i := 20) (N := some 120) (v := ?_) (a' := ?_) #[true, true, true, true, true, true, true, true, true, true, true, true, true, true, true, true, true, true, true, true, true, true, false, false, false, false, false, false] rfl rfl (take_ofW HT_.out HW_.out (by kernel_rfl)) (fun _ _ _ h => h) (Or.inl ⟨by rfl, ?_⟩) hHeld ?_ ?_
                              rotate_left
                              · rintro w' ⟨s0, s1, s2, s3, s4, s5, s6, s7, s8, s9, s10, s11, s12, s13, s14, s15, s16, s17, s18, s19, s20⟩
                                go_simp
                                with_reducible rfl
                              rotate_left
                              · simp only [Act.put, List.setIfInBounds_toArray, List.set_cons_zero, List.set_cons_succ, i64_w, i32_w]
                                rfl
                              refine pure_ (i := 22) (N := some 122) (v := ?_) (a' := ?_) #[true, true, true, true, true, true, true, true, true, true, true, true, true, true, true, true, true, true, true, true, true, true, true, false, false, false, false, false] rfl rfl (any_of HT_.out (by kernel_rfl)) (fun _ _ _ h => h) (Or.inl ⟨by rfl, ?_⟩) ?_ ?_
                              rotate_left
                              · intro w'
                                go_simp
                                with_reducible rfl
                              rotate_left
                              · simp only [Act.put, List.setIfInBounds_toArray, List.set_cons_zero, List.set_cons_succ, i64_w, i32_w]
                                rfl
                              refine pure_ (i := 23) (N := some 123) (v := ?_) (a' := ?_) #[true, true, true, true, true, true, true, true, true, true, true, true, true, true, true, true, true, true, true, true, true, true, true, true, false, false, false, false] rfl rfl (any_of HT_.out (by kernel_rfl)) (fun _ _ _ h => h) (Or.inl ⟨by rfl, ?_⟩) ?_ ?_
                              rotate_left
                              · intro w'
                                go_simp
                                with_reducible rfl
                              rotate_left
                              · simp only [Act.put, List.setIfInBounds_toArray, List.set_cons_zero, List.set_cons_succ, i64_w, i32_w]
                                rfl
                              refine take_ (i := 24) (N := some 124) (v := ?_) (a' := ?_) #[true, true, true, true, true, true, true, true, true, true, true, true, true, true, true, true, true, true, true, true, true, true, true, true, true, false, false, false] rfl rfl (take_ofW HT_.out HW_.out (by kernel_rfl)) (fun _ _ _ h => h) (Or.inl ⟨by rfl, ?_⟩) hHeld ?_ ?_
                              rotate_left
                              · rintro w' ⟨s0, s1, s2, s3, s4, s5, s6, s7, s8, s9, s10, s11, s12, s13, s14, s15, s16, s17, s18, s19, s20⟩
                                go_simp
                                with_reducible rfl
                              rotate_left
                              · simp only [Act.put, List.setIfInBounds_toArray, List.set_cons_zero, List.set_cons_succ, i64_w, i32_w]
                                rfl
                              refine one_ (i := 25) (N := some 125) #[true, true, true, true, true, true, true, true, true, true, true, true, true, true, true, true, true, true, true, true, true, true, true, true, true, true, false, false] rfl rfl (one_of HT_.out (by kernel_rfl)) (by decide) (fun K hK => ?_)
                              refine Kd.R_lit_step (Kd.int .i64) _ 2 ?hg (N := 125) ?hd (xs := ([(rd_T42 ((rd_T40 l0_1 x7_2).f3) x9_3).f0, (rd_T42 ((rd_T40 l0_1 x7_2).f3) x9_3).f1, (rd_T42 ((rd_T40 l0_1 x7_2).f3) x9_3).f2, (rd_T42 ((rd_T40 l0_1 x7_2).f3) x9_3).f3] : List Int)) (inner := [.int .i64 ((rd_T42 ((rd_T40 l0_1 x7_2).f3) x9_3).f0), .int .i64 ((rd_T42 ((rd_T40 l0_1 x7_2).f3) x9_3).f1), .int .i64 ((rd_T42 ((rd_T40 l0_1 x7_2).f3) x9_3).f2), .int .i64 ((rd_T42 ((rd_T40 l0_1 x7_2).f3) x9_3).f3)]) (ok := fun _ => True) (okp := fun _ => True) ?hr ?hp (fun _ hk => hk) trivial (Below.refl _ _) (Nat.le_refl _) (by simp) ?_; (case hd => rfl); (case hg => rfl); (case hr => first | (go_simp; done) | (go_simp; rfl)); (case hp => exact (Reps.one (show Kd.M (Kd.int .i64) _ _ _ ((rd_T42 ((rd_T40 l0_1 x7_2).f3) x9_3).f0) [.int .i64 ((rd_T42 ((rd_T40 l0_1 x7_2).f3) x9_3).f0)] from rfl) (Reps.one (show Kd.M (Kd.int .i64) _ _ _ ((rd_T42 ((rd_T40 l0_1 x7_2).f3) x9_3).f1) [.int .i64 ((rd_T42 ((rd_T40 l0_1 x7_2).f3) x9_3).f1)] from rfl) (Reps.one (show Kd.M (Kd.int .i64) _ _ _ ((rd_T42 ((rd_T40 l0_1 x7_2).f3) x9_3).f2) [.int .i64 ((rd_T42 ((rd_T40 l0_1 x7_2).f3) x9_3).f2)] from rfl) (Reps.one (show Kd.M (Kd.int .i64) _ _ _ ((rd_T42 ((rd_T40 l0_1 x7_2).f3) x9_3).f3) [.int .i64 ((rd_T42 ((rd_T40 l0_1 x7_2).f3) x9_3).f3)] from rfl) (Reps.none _ _))))))
                              intro v244 w49 ho50 hb hg_ hnew_
                              clear hg_ hnew_
                              (first | rw [← Ny243.out] at ho50 | (simp only [Int.reduceToNat] at ho50; rw [← Ny243.out] at ho50))
                              have n0_ := Aside0.mk (Kd.R_elder' (by (with_reducible repeat (first | apply Kd.R_alloc | apply Kd.R_drewN | apply Kd.R_drew)); exact HO_3.out) (Kd.R_base ho50) hb)
                              have n1_ := Aside0.mk (Kd.R_lower (Kd.R_new' ho50 (Kd.R_lt (by (with_reducible repeat (first | apply Kd.R_alloc | apply Kd.R_drewN | apply Kd.R_drew)); exact HO_3.out))) (below_size (by repeat (first | (with_reducible first | exact HB.out | apply below_alloc | apply pw_below_drewN | apply below_drew1 | refine below_set ?_ GE208.out | refine below_set ?_ GE232.out) | exact HB.out))))
                              have n2_ := Aside0.mk (blk_below (g := gb208) (o := .cells #[.slice A0_0 l0_0.length c0_0, .slice (some ad231) l0_1.length c0_1, .int .i64 a0_2] 25 (0, 0)) (by (with_reducible repeat (first | refine blk_drewN ?_ _ | refine blk_drew ?_ | refine blk_alloc ?_ _)); exact BK208.out) hb)
                              have n3_ := Aside0.mk (blk_below (g := gb232) (o := .cells #[.int .i64 ((rd_T40 l0_1 x7_2).f0), .int .i64 ((rd_T40 l0_1 x7_2).f1), .int .i64 ((rd_T40 l0_1 x7_2).f2), .slice (some ad239) ((rd_T40 l0_1 x7_2).f3).length c231_3, .slice A231_4 ((rd_T40 l0_1 x7_2).f4).length c231_4] 40 (0, 0)) (by (with_reducible repeat (first | refine blk_drewN ?_ _ | refine blk_drew ?_ | refine blk_alloc ?_ _)); exact BK232.out) hb)
                              have n4_ := Aside0.mk (below_step (by repeat (first | (with_reducible first | exact HB.out | apply below_alloc | apply pw_below_drewN | apply below_drew1 | refine below_set ?_ GE208.out | refine below_set ?_ GE232.out) | exact HB.out)) hb)
                              clear HO_3
                              clear BK208
                              clear BK232
                              clear HB
                              have HO_3 := n0_
                              have HO245 := n1_
                              have BK208 := n2_
                              have BK232 := n3_
                              have HB := n4_
                              clear n0_ n1_ n2_ n3_ n4_
                              clear hb ho50
                              obtain ⟨Ao52, co52, eo52⟩ := Kd.R_slice HO245.out
                              (first | subst eo52 | (injection eo52 with f1_ f2_ f3_; have f4_ := f1_.symm; have f5_ := f3_.symm; clear f1_ f2_ f3_; subst f4_; subst f5_))
                              refine hK.out _ _ ⟨(blk_cell BK232.out 0).trans rfl, (blk_cell BK232.out 1).trans rfl, (blk_cell BK232.out 2).trans rfl, (blk_cell BK232.out 3).trans rfl, (blk_cell BK232.out 4).trans rfl, ((HB.out.cell (World.block_lt_of_cell? w _ hw239_0)).trans hw239_0), ((HB.out.cell (World.block_lt_of_cell? w _ hw239_1)).trans hw239_1), ((HB.out.cell (World.block_lt_of_cell? w _ hw239_2)).trans hw239_2), ((HB.out.cell (World.block_lt_of_cell? w _ hw239_3)).trans hw239_3), ((HB.out.cell (World.block_lt_of_cell? w _ hw240_0)).trans hw240_0), ((HB.out.cell (World.block_lt_of_cell? w _ hw240_1)).trans hw240_1), ((HB.out.cell (World.block_lt_of_cell? w _ hw240_2)).trans hw240_2), ((HB.out.cell (World.block_lt_of_cell? w _ hw240_3)).trans hw240_3), ((HB.out.cell (World.block_lt_of_cell? w _ hw241_0)).trans hw241_0), ((HB.out.cell (World.block_lt_of_cell? w _ hw241_1)).trans hw241_1), ((HB.out.cell (World.block_lt_of_cell? w _ hw241_2)).trans hw241_2), ((HB.out.cell (World.block_lt_of_cell? w _ hw241_3)).trans hw241_3), ((HB.out.cell (World.block_lt_of_cell? w _ hw242_0)).trans hw242_0), ((HB.out.cell (World.block_lt_of_cell? w _ hw242_1)).trans hw242_1), ((HB.out.cell (World.block_lt_of_cell? w _ hw242_2)).trans hw242_2), ((HB.out.cell (World.block_lt_of_cell? w _ hw242_3)).trans hw242_3)⟩ (fun hHeld => ?_)
                              clear hK K
                              refine norm_ (a' := ?_) ?_ ?_
                              rotate_left
                              · show Act.put _ (some 125) _ = _
                                simp only [Act.put, List.setIfInBounds_toArray, List.set_cons_zero, List.set_cons_succ, i64_w, i32_w]
                                rfl
                              refine one_ (i := 26) (N := some 126) #[true, true, true, true, true, true, true, true, true, true, true, true, true, true, true, true, true, true, true, true, true, true, true, true, true, true, true, false] rfl rfl (one_of HT_.out (by kernel_rfl)) (by decide) (fun K hK => ?_)
                              refine Kd.R_append_rows_step (Kd.int .i64) (w0 := w) w.heap.size (by rfl) (.tmp 100) (.tmp 125) 52 2 (.int .i64 0) 8 rfl Try.underlying52 info2 rfl (by decide) (by omega) u3 x3_3 y243 _ _ _ (fun k_ => some k_ ≠ (.slice Ao52 y243.length co52 : Value).ownBlock) (fun _ => False) rfl rfl ?aO ?aR (fun _ _ h => h) (fun _ h => h.elim) ?aF ?aB ?aS ?aL ?_
                              (case aR => repeat (first | exact (Kd.R_reads' HO245.out).2.2 | (with_reducible refine Kd.C_alloc ?_ _) | (with_reducible refine Kd.C_drewN ?_ _) | (with_reducible refine Kd.C_drew ?_)))
                              (case aB => exact (by repeat (first | (with_reducible first | exact HB.out | apply below_alloc | apply pw_below_drewN | apply below_drew1 | refine below_set ?_ GE208.out | refine below_set ?_ GE232.out) | exact HB.out)))
                              (case aF => exact (fun k_ hk => Kd.fresh' (Kd.R_lt (by (with_reducible repeat (first | apply Kd.R_alloc | apply Kd.R_drewN | apply Kd.R_drew)); exact HO245.out)) k_ hk))
                              (case aO => exact (by (with_reducible repeat (first | apply Kd.R_alloc | apply Kd.R_drewN | apply Kd.R_drew)); exact Kd.R_mono HO_3.out (fun _ hk => hk.2)))
                              (case aS => exact (below_size (by repeat (first | (with_reducible first | exact HB.out | apply below_alloc | apply pw_below_drewN | apply below_drew1 | refine below_set ?_ GE208.out | refine below_set ?_ GE232.out) | exact HB.out))))
                              (case aL => have := LMc45.out; omega)
                              intro v247 w51 ho hb hg hat
                              rw [← Ny246.out] at ho
                              have n0_ := Aside0.mk (blk_grown (g := gb208) (o := .cells #[.slice A0_0 l0_0.length c0_0, .slice (some ad231) l0_1.length c0_1, .int .i64 a0_2] 25 (0, 0)) (by (with_reducible repeat (first | refine blk_drewN ?_ _ | refine blk_drew ?_ | refine blk_alloc ?_ _)); exact BK208.out) hg (Kd.R_ne HO_3.out BK208.out (by decide)))
                              have n1_ := Aside0.mk (blk_grown (g := gb232) (o := .cells #[.int .i64 ((rd_T40 l0_1 x7_2).f0), .int .i64 ((rd_T40 l0_1 x7_2).f1), .int .i64 ((rd_T40 l0_1 x7_2).f2), .slice (some ad239) ((rd_T40 l0_1 x7_2).f3).length c231_3, .slice A231_4 ((rd_T40 l0_1 x7_2).f4).length c231_4] 40 (0, 0)) (by (with_reducible repeat (first | refine blk_drewN ?_ _ | refine blk_drew ?_ | refine blk_alloc ?_ _)); exact BK232.out) hg (Kd.R_ne HO_3.out BK232.out (by decide)))
                              have n2_ := Aside0.mk (Kd.R_after (ok := (fun _ => True)) (by (with_reducible repeat (first | apply Kd.R_alloc | apply Kd.R_drewN | apply Kd.R_drew)); exact HO245.out) hg hat)
                              have n3_ := Aside0.mk (hb)
                              have n4_ := Aside0.mk (ho)
                              clear BK208
                              clear BK232
                              clear HO245
                              clear HB
                              clear HO_3
                              have BK208 := n0_
                              have BK232 := n1_
                              have HO245 := n2_
                              have HB := n3_
                              have HO248 := n4_
                              clear n0_ n1_ n2_ n3_ n4_
                              clear ho hb hg hat
                              refine hK.out _ _ ⟨(blk_cell BK232.out 0).trans rfl, (blk_cell BK232.out 1).trans rfl, (blk_cell BK232.out 2).trans rfl, (blk_cell BK232.out 3).trans rfl, (blk_cell BK232.out 4).trans rfl, ((HB.out.cell (World.block_lt_of_cell? w _ hw239_0)).trans hw239_0), ((HB.out.cell (World.block_lt_of_cell? w _ hw239_1)).trans hw239_1), ((HB.out.cell (World.block_lt_of_cell? w _ hw239_2)).trans hw239_2), ((HB.out.cell (World.block_lt_of_cell? w _ hw239_3)).trans hw239_3), ((HB.out.cell (World.block_lt_of_cell? w _ hw240_0)).trans hw240_0), ((HB.out.cell (World.block_lt_of_cell? w _ hw240_1)).trans hw240_1), ((HB.out.cell (World.block_lt_of_cell? w _ hw240_2)).trans hw240_2), ((HB.out.cell (World.block_lt_of_cell? w _ hw240_3)).trans hw240_3), ((HB.out.cell (World.block_lt_of_cell? w _ hw241_0)).trans hw241_0), ((HB.out.cell (World.block_lt_of_cell? w _ hw241_1)).trans hw241_1), ((HB.out.cell (World.block_lt_of_cell? w _ hw241_2)).trans hw241_2), ((HB.out.cell (World.block_lt_of_cell? w _ hw241_3)).trans hw241_3), ((HB.out.cell (World.block_lt_of_cell? w _ hw242_0)).trans hw242_0), ((HB.out.cell (World.block_lt_of_cell? w _ hw242_1)).trans hw242_1), ((HB.out.cell (World.block_lt_of_cell? w _ hw242_2)).trans hw242_2), ((HB.out.cell (World.block_lt_of_cell? w _ hw242_3)).trans hw242_3)⟩ (fun hHeld => ?_)
                              clear hK K
                              refine norm_ (a' := ?_) ?_ ?_
                              rotate_left
                              · show Act.put _ (some 126) _ = _
                                simp only [Act.put, List.setIfInBounds_toArray, List.set_cons_zero, List.set_cons_succ, i64_w, i32_w]
                                rfl
                              refine pure_ (i := 27) (N := some 3) (v := ?_) (a' := ?_) #[true, true, true, true, true, true, true, true, true, true, true, true, true, true, true, true, true, true, true, true, true, true, true, true, true, true, true, true] rfl rfl (any_of HT_.out (by kernel_rfl)) (fun _ _ _ h => h) (Or.inl ⟨by rfl, ?_⟩) ?_ ?_
                              rotate_left
                              · intro w'
                                go_simp
                                with_reducible rfl
                              rotate_left
                              · simp only [Act.put, List.setIfInBounds_toArray, List.set_cons_zero, List.set_cons_succ, i64_w, i32_w]
                                rfl
                              refine done_ (done_of HT_.out (by kernel_rfl)) ?_
                              try go_wp2
                              go_roundg k3
                              case measure => have := HK1.out; have := HK2.out; have := HK3.out; omega
                              case rel => exact ⟨(y246), (wrap64 (x9_3 + 1)), (by first | rfl | (simp; done) | (simp [*]; done)), H', ⟨by have := HK1.out; have := HK2.out; have := HK3.out; omega⟩, ⟨by (with_reducible repeat (first | apply Kd.R_alloc | apply Kd.R_drewN | apply Kd.R_drew)); exact Kd.R_mono HO248.out (fun _ hk => trivial)⟩, ⟨by (with_reducible repeat (first | refine blk_drewN ?_ _ | refine blk_drew ?_ | refine blk_alloc ?_ _)); exact BK208.out⟩, ⟨by (with_reducible repeat (first | refine blk_drewN ?_ _ | refine blk_drew ?_ | refine blk_alloc ?_ _)); exact BK232.out⟩, ⟨by repeat (first | (with_reducible first | exact HB.out | apply below_alloc | apply pw_below_drewN | apply below_drew1 | refine below_set ?_ GE208.out | refine below_set ?_ GE232.out) | exact HB.out)⟩⟩
                            · rw [if_neg c45] at H
                              exact absurd H (by simp)
                          · rw [if_neg c44] at H
                            exact absurd H (by simp)
                        · rw [if_neg c43] at H
                          have c43b0 : decide (x9_3 < (((rd_T40 l0_1 x7_2).f3).length : Int)) = false := decide_eq_false c43
                          clear c43
                          by_cases c53 : x3_3.length < 17592186044416
                          · rw [if_pos c53] at H
                            have LMc53 := Aside0.mk c53
                            clear c53
                            obtain ⟨y249, hy249⟩ : ∃ y_ : List Int, y_ = (x3_3 ++ [(((rd_T40 l0_1 x7_2).f4).length : Int)]) := ⟨_, rfl⟩
                            replace H : (drogueref22_Numbers.l4 k3 y249 x7_2 0 l0_0 l0_1 a0_2 ((rd_T40 l0_1 x7_2).f0) ((rd_T40 l0_1 x7_2).f1) ((rd_T40 l0_1 x7_2).f2) ((rd_T40 l0_1 x7_2).f3) ((rd_T40 l0_1 x7_2).f4)) = some r := by first | (rw [hy249]; with_reducible exact H) | (have H2_ := (Option.bind_some _ _).symm.trans H; rw [hy249]; with_reducible exact H2_) | (have H2_ := (Option.bind_some _ _).symm.trans H; with_reducible exact H2_) | with_reducible exact H | (rw [hy249]; exact H) | exact H
                            have Ny249 := Aside0.mk hy249
                            clear hy249
                            have H' := Aside0.mk H
                            clear H
                            have hnb54 := NB232_208.out
                            have hnc54 := NB208_232.out
                            have hcz55_0 : wr.cell? ⟨gb232, 0, none⟩ = some (.int .i64 ((rd_T40 l0_1 x7_2).f0)) := (blk_cell BK232.out 0).trans rfl
                            have hcz55_1 : wr.cell? ⟨gb232, 1, none⟩ = some (.int .i64 ((rd_T40 l0_1 x7_2).f1)) := (blk_cell BK232.out 1).trans rfl
                            have hcz55_2 : wr.cell? ⟨gb232, 2, none⟩ = some (.int .i64 ((rd_T40 l0_1 x7_2).f2)) := (blk_cell BK232.out 2).trans rfl
                            have hcz55_3 : wr.cell? ⟨gb232, 3, none⟩ = some (.slice A231_3 ((rd_T40 l0_1 x7_2).f3).length c231_3) := (blk_cell BK232.out 3).trans rfl
                            have hcz55_4 : wr.cell? ⟨gb232, 4, none⟩ = some (.slice A231_4 ((rd_T40 l0_1 x7_2).f4).length c231_4) := (blk_cell BK232.out 4).trans rfl
                            have hfz55_0 := blk_frozen BK232.out 0
                            have hfz55_1 := blk_frozen BK232.out 1
                            have hfz55_2 := blk_frozen BK232.out 2
                            have hfz55_3 := blk_frozen BK232.out 3
                            have hfz55_4 := blk_frozen BK232.out 4
                            go_wp2_with (first | ((with_reducible refine gate_builtin (b := .append) (xs := #[.tmp 127, .tmp 131]) rfl ?_); at_builtin; refine Kd.R_append (Kd.int .i64) (w0 := w) w.heap.size rfl (.tmp 127) (.tmp 131) 52 2 (.int .i64 0) 8 rfl Try.underlying52 info2 rfl (by decide) (by omega) u3 x3_3 (((rd_T40 l0_1 x7_2).f4).length : Int) [.int .i64 (((rd_T40 l0_1 x7_2).f4).length : Int)] (fun _ => True) (fun _ => False) rfl rfl ?aP (fun _ hk => hk.elim) ?aF ?aO ?aB ?aS ?aL ?_; (case aP => exact rfl); (case aB => exact (by repeat (first | (with_reducible first | exact HB.out | apply below_alloc | apply pw_below_drewN | apply below_drew1 | refine below_set ?_ GE208.out | refine below_set ?_ GE232.out) | exact HB.out))); (case aF => exact (fun _ _ => trivial)); (case aO => exact (by (with_reducible repeat (first | apply Kd.R_alloc | apply Kd.R_drewN | apply Kd.R_drew)); exact HO_3.out)); (case aS => exact (below_size (by repeat (first | (with_reducible first | exact HB.out | apply below_alloc | apply pw_below_drewN | apply below_drew1 | refine below_set ?_ GE208.out | refine below_set ?_ GE232.out) | exact HB.out)))); (case aL => have := LMc53.out; omega); intro v250 w56 ho hb hg hat; rw [← Ny249.out] at ho; have n0_ := Aside0.mk (blk_grown (g := gb208) (o := .cells #[.slice A0_0 l0_0.length c0_0, .slice (some ad231) l0_1.length c0_1, .int .i64 a0_2] 25 (0, 0)) (by (with_reducible repeat (first | refine blk_drewN ?_ _ | refine blk_drew ?_ | refine blk_alloc ?_ _)); exact BK208.out) hg (Kd.R_ne HO_3.out BK208.out (by decide))); have n1_ := Aside0.mk (blk_grown (g := gb232) (o := .cells #[.int .i64 ((rd_T40 l0_1 x7_2).f0), .int .i64 ((rd_T40 l0_1 x7_2).f1), .int .i64 ((rd_T40 l0_1 x7_2).f2), .slice A231_3 ((rd_T40 l0_1 x7_2).f3).length c231_3, .slice A231_4 ((rd_T40 l0_1 x7_2).f4).length c231_4] 40 (0, 0)) (by (with_reducible repeat (first | refine blk_drewN ?_ _ | refine blk_drew ?_ | refine blk_alloc ?_ _)); exact BK232.out) hg (Kd.R_ne HO_3.out BK232.out (by decide))); have n2_ := Aside0.mk (hb); have n3_ := Aside0.mk (ho); clear BK208; clear BK232; clear HB; clear HO_3; have BK208 := n0_; have BK232 := n1_; have HB := n2_; have HO251 := n3_; clear n0_ n1_ n2_ n3_; clear ho hb hg hat))
                            go_loopg [3, 10] k3 (fun kq v3 v10 w' => ∃ (x3_4 : List Int) (x10_4 : Int), v10 = .int .i64 x10_4 ∧ Aside0 (drogueref22_Numbers.l4 kq x3_4 x7_2 x10_4 l0_0 l0_1 a0_2 ((rd_T40 l0_1 x7_2).f0) ((rd_T40 l0_1 x7_2).f1) ((rd_T40 l0_1 x7_2).f2) ((rd_T40 l0_1 x7_2).f3) ((rd_T40 l0_1 x7_2).f4) = some r) ∧ Aside0 (kq ≤ k3) ∧ Aside0 (Kd.R (Kd.int .i64) 2 w' w.heap.size (fun _ => True) v3 x3_4) ∧ Aside0 (w'.heap[gb208]? = some (.cells #[(.slice A0_0 l0_0.length c0_0), (.slice (some ad231) l0_1.length c0_1), .int .i64 a0_2] 25 (0, 0))) ∧ Aside0 (w'.heap[gb232]? = some (.cells #[.int .i64 ((rd_T40 l0_1 x7_2).f0), .int .i64 ((rd_T40 l0_1 x7_2).f1), .int .i64 ((rd_T40 l0_1 x7_2).f2), (.slice A231_3 ((rd_T40 l0_1 x7_2).f3).length c231_3), (.slice A231_4 ((rd_T40 l0_1 x7_2).f4).length c231_4)] 40 (0, 0))) ∧ Aside0 (Below w.heap.size w w'))
                            case atStart => exact ⟨(y249), (0), (by first | rfl | (simp; done) | (simp [*]; done)), H', ⟨Nat.le_refl _⟩, ⟨by (with_reducible repeat (first | apply Kd.R_alloc | apply Kd.R_drewN | apply Kd.R_drew)); exact HO251.out⟩, ⟨by (with_reducible repeat (first | refine blk_drewN ?_ _ | refine blk_drew ?_ | refine blk_alloc ?_ _)); exact BK208.out⟩, ⟨by (with_reducible repeat (first | refine blk_drewN ?_ _ | refine blk_drew ?_ | refine blk_alloc ?_ _)); exact BK232.out⟩, ⟨by repeat (first | (with_reducible first | exact HB.out | apply below_alloc | apply pw_below_drewN | apply below_drew1 | refine below_set ?_ GE208.out | refine below_set ?_ GE232.out) | exact HB.out)⟩⟩
                            case round =>
                              clear H'
                              try clear c1
                              try clear c2
                              try clear p2
                              try clear q2
                              try clear hx2
                              try clear c3
                              try clear c4
                              try clear c5
                              try clear c6
                              try clear c6b0
                              try clear p6
                              try clear c7
                              try clear c7b0
                              try clear c8
                              try clear c11
                              try clear c17
                              try clear c17b0
                              try clear c18
                              try clear c18b0
                              try clear c19
                              try clear c20
                              try clear c21
                              try clear p21
                              try clear q21
                              try clear hx21
                              try clear p22
                              try clear q22
                              try clear hx22
                              try clear c23
                              try clear p23
                              try clear q23
                              try clear hx23
                              try clear p24
                              try clear q24
                              try clear hx24
                              try clear c27
                              try clear c29
                              try clear c32
                              try clear c32b0
                              try clear c33
                              try clear c33b0
                              try clear c34
                              try clear c37
                              try clear c43
                              try clear c43b0
                              try clear c44
                              try clear c44b0
                              try clear c45
                              try clear c46
                              try clear c53
                              try clear c54
                              try clear hcz12_0
                              try clear hcz12_1
                              try clear hcz12_2
                              try clear hcz12_3
                              try clear hcz21_0
                              try clear hcz21_1
                              try clear hcz21_2
                              try clear hcz21_3
                              try clear hcz28_0
                              try clear hcz28_1
                              try clear hcz28_2
                              try clear hcz28_3
                              try clear hcz30_0
                              try clear hcz30_1
                              try clear hcz30_2
                              try clear hcz35_0
                              try clear hcz35_1
                              try clear hcz35_2
                              try clear hcz38_0
                              try clear hcz38_1
                              try clear hcz38_2
                              try clear hcz38_3
                              try clear hcz38_4
                              try clear hcz3_0
                              try clear hcz3_1
                              try clear hcz3_2
                              try clear hcz47_0
                              try clear hcz47_1
                              try clear hcz47_2
                              try clear hcz47_3
                              try clear hcz47_4
                              try clear hcz55_0
                              try clear hcz55_1
                              try clear hcz55_2
                              try clear hcz55_3
                              try clear hcz55_4
                              try clear hcz9_0
                              try clear hcz9_1
                              try clear hcz9_2
                              try clear hfz12_0
                              try clear hfz12_1
                              try clear hfz12_2
                              try clear hfz12_3
                              try clear hfz21_0
                              try clear hfz21_1
                              try clear hfz21_2
                              try clear hfz21_3
                              try clear hfz28_0
                              try clear hfz28_1
                              try clear hfz28_2
                              try clear hfz28_3
                              try clear hfz30_0
                              try clear hfz30_1
                              try clear hfz30_2
                              try clear hfz35_0
                              try clear hfz35_1
                              try clear hfz35_2
                              try clear hfz38_0
                              try clear hfz38_1
                              try clear hfz38_2
                              try clear hfz38_3
                              try clear hfz38_4
                              try clear hfz3_0
                              try clear hfz3_1
                              try clear hfz3_2
                              try clear hfz47_0
                              try clear hfz47_1
                              try clear hfz47_2
                              try clear hfz47_3
                              try clear hfz47_4
                              try clear hfz55_0
                              try clear hfz55_1
                              try clear hfz55_2
                              try clear hfz55_3
                              try clear hfz55_4
                              try clear hfz9_0
                              try clear hfz9_1
                              try clear hfz9_2
                              try clear hx212_0
                              try clear hx212_1
                              try clear hx212_2
                              try clear hx212_3
                              try clear hx220_0
                              try clear hx220_1
                              try clear hx221_0
                              try clear hx221_1
                              try clear hx231_0
                              try clear hx231_1
                              try clear hx231_2
                              try clear hx231_3
                              try clear hx231_4
                              try clear hx239_0
                              try clear hx239_1
                              try clear hx239_2
                              try clear hx239_3
                              try clear hx240_0
                              try clear hx240_1
                              try clear hx240_2
                              try clear hx240_3
                              try clear hx241_0
                              try clear hx241_1
                              try clear hx241_2
                              try clear hx241_3
                              try clear hx242_0
                              try clear hx242_1
                              try clear hx242_2
                              try clear hx242_3
                              try clear p2
                              try clear p21
                              try clear p212
                              try clear p22
                              try clear p220
                              try clear p221
                              try clear p23
                              try clear p231
                              try clear p239
                              try clear p240
                              try clear p241
                              try clear p242
                              try clear p6
                              try clear q2
                              try clear q21
                              try clear q212
                              try clear q22
                              try clear q220
                              try clear q221
                              try clear q23
                              try clear q231
                              try clear q239
                              try clear q240
                              try clear q241
                              try clear q242
                              obtain ⟨x3_4, x10_4, rfl, HA, HK4, HO_3, BK208, BK232, HB⟩ := hrel
                              cases gk with
                              | zero => exact absurd HA.out (by simp [drogueref22_Numbers.l4])
                              | succ k4 =>
                                have H := HA.out
                                clear HA
                                simp only [drogueref22_Numbers.l4] at H
                                by_cases c57 : x10_4 < (((rd_T40 l0_1 x7_2).f4).length : Int)
                                · rw [if_pos c57] at H
                                  have c57b0 : decide (x10_4 < (((rd_T40 l0_1 x7_2).f4).length : Int)) = true := decide_eq_true c57
                                  clear c57
                                  by_cases c58 : 0 ≤ x10_4
                                  · rw [if_pos c58] at H
                                    have c58b0 : decide (0 ≤ x10_4) = true := decide_eq_true c58
                                    clear c58
                                    obtain ⟨y255, hy255⟩ : ∃ y_ : List Int, y_ = (([(rd_T66 ((rd_T40 l0_1 x7_2).f4) x10_4).f0, (rd_T66 ((rd_T40 l0_1 x7_2).f4) x10_4).f1, (rd_T66 ((rd_T40 l0_1 x7_2).f4) x10_4).f2] : List Int)) := ⟨_, rfl⟩
                                    replace H : (if x3_4.length + y255.length < 17592186044416 then (drogueref22_Numbers.l4 k4 (x3_4 ++ y255) x7_2 (wrap64 (x10_4 + 1)) l0_0 l0_1 a0_2 ((rd_T40 l0_1 x7_2).f0) ((rd_T40 l0_1 x7_2).f1) ((rd_T40 l0_1 x7_2).f2) ((rd_T40 l0_1 x7_2).f3) ((rd_T40 l0_1 x7_2).f4)) else (none)) = some r := by first | (rw [hy255]; with_reducible exact H) | (have H2_ := (Option.bind_some _ _).symm.trans H; rw [hy255]; with_reducible exact H2_) | (have H2_ := (Option.bind_some _ _).symm.trans H; with_reducible exact H2_) | with_reducible exact H | (rw [hy255]; exact H) | exact H
                                    have Ny255 := Aside0.mk hy255
                                    clear hy255
                                    by_cases c59 : x3_4.length + y255.length < 17592186044416
                                    · rw [if_pos c59] at H
                                      have LMc59 := Aside0.mk c59
                                      clear c59
                                      obtain ⟨y258, hy258⟩ : ∃ y_ : List Int, y_ = (x3_4 ++ y255) := ⟨_, rfl⟩
                                      replace H : (drogueref22_Numbers.l4 k4 y258 x7_2 (wrap64 (x10_4 + 1)) l0_0 l0_1 a0_2 ((rd_T40 l0_1 x7_2).f0) ((rd_T40 l0_1 x7_2).f1) ((rd_T40 l0_1 x7_2).f2) ((rd_T40 l0_1 x7_2).f3) ((rd_T40 l0_1 x7_2).f4)) = some r := by first | (rw [hy258]; with_reducible exact H) | (have H2_ := (Option.bind_some _ _).symm.trans H; rw [hy258]; with_reducible exact H2_) | (have H2_ := (Option.bind_some _ _).symm.trans H; with_reducible exact H2_) | with_reducible exact H | (rw [hy258]; exact H) | exact H
                                      have Ny258 := Aside0.mk hy258
                                      clear hy258
                                      have H' := Aside0.mk H
                                      clear H
                                      have hnb60 := NB232_208.out
                                      have hnc60 := NB208_232.out
                                      have hcz61_0 : wr.cell? ⟨gb232, 0, none⟩ = some (.int .i64 ((rd_T40 l0_1 x7_2).f0)) := (blk_cell BK232.out 0).trans rfl
                                      have hcz61_1 : wr.cell? ⟨gb232, 1, none⟩ = some (.int .i64 ((rd_T40 l0_1 x7_2).f1)) := (blk_cell BK232.out 1).trans rfl
                                      have hcz61_2 : wr.cell? ⟨gb232, 2, none⟩ = some (.int .i64 ((rd_T40 l0_1 x7_2).f2)) := (blk_cell BK232.out 2).trans rfl
                                      have hcz61_3 : wr.cell? ⟨gb232, 3, none⟩ = some (.slice A231_3 ((rd_T40 l0_1 x7_2).f3).length c231_3) := (blk_cell BK232.out 3).trans rfl
                                      have hcz61_4 : wr.cell? ⟨gb232, 4, none⟩ = some (.slice A231_4 ((rd_T40 l0_1 x7_2).f4).length c231_4) := (blk_cell BK232.out 4).trans rfl
                                      have hfz61_0 := blk_frozen BK232.out 0
                                      have hfz61_1 := blk_frozen BK232.out 1
                                      have hfz61_2 := blk_frozen BK232.out 2
                                      have hfz61_3 := blk_frozen BK232.out 3
                                      have hfz61_4 := blk_frozen BK232.out 4
                                      try go_wp2
                                      have n0_ := Aside0.mk (Kd.R_drew HO_3.out)
                                      have n1_ := Aside0.mk (blk_drew BK208.out)
                                      have n2_ := Aside0.mk (blk_drew BK232.out)
                                      have n3_ := Aside0.mk (below_drew1 HB.out)
                                      clear HO_3
                                      clear BK208
                                      clear BK232
                                      clear HB
                                      have HO_3 := n0_
                                      have BK208 := n1_
                                      have BK232 := n2_
                                      have HB := n3_
                                      clear n0_ n1_ n2_ n3_
                                      have p252 : 0 ≤ (x10_4 : Int) := of_decide_eq_true (by first | (with_reducible assumption) | assumption)
                                      have q252 : x10_4 < (((rd_T40 l0_1 x7_2).f4).length : Int) := of_decide_eq_true (by first | (with_reducible assumption) | assumption)
                                      obtain ⟨ad252, e252, hx252_0, hx252_1, hx252_2⟩ := at_T66 HR231_4.out x10_4 p252 q252
                                      have hw252_2 := hx252_2
                                      have hw252_1 := hx252_1
                                      have hw252_0 := hx252_0
                                      cases e252
                                      replace hx252_0 := (HB.out.cell (World.block_lt_of_cell? w _ hx252_0)).trans hx252_0
                                      replace hx252_1 := (HB.out.cell (World.block_lt_of_cell? w _ hx252_1)).trans hx252_1
                                      replace hx252_2 := (HB.out.cell (World.block_lt_of_cell? w _ hx252_2)).trans hx252_2
                                      replace p252 := eq_true p252
                                      replace q252 := eq_true q252
                                      have p253 : 0 ≤ (x10_4 : Int) := of_decide_eq_true (by first | (with_reducible assumption) | assumption)
                                      have q253 : x10_4 < (((rd_T40 l0_1 x7_2).f4).length : Int) := of_decide_eq_true (by first | (with_reducible assumption) | assumption)
                                      obtain ⟨ad253, e253, hx253_0, hx253_1, hx253_2⟩ := at_T66 HR231_4.out x10_4 p253 q253
                                      have hw253_2 := hx253_2
                                      have hw253_1 := hx253_1
                                      have hw253_0 := hx253_0
                                      obtain rfl : ad252 = ad253 := (by injection e253)
                                      replace hx253_0 := (HB.out.cell (World.block_lt_of_cell? w _ hx253_0)).trans hx253_0
                                      replace hx253_1 := (HB.out.cell (World.block_lt_of_cell? w _ hx253_1)).trans hx253_1
                                      replace hx253_2 := (HB.out.cell (World.block_lt_of_cell? w _ hx253_2)).trans hx253_2
                                      replace p253 := eq_true p253
                                      replace q253 := eq_true q253
                                      have p254 : 0 ≤ (x10_4 : Int) := of_decide_eq_true (by first | (with_reducible assumption) | assumption)
                                      have q254 : x10_4 < (((rd_T40 l0_1 x7_2).f4).length : Int) := of_decide_eq_true (by first | (with_reducible assumption) | assumption)
                                      obtain ⟨ad254, e254, hx254_0, hx254_1, hx254_2⟩ := at_T66 HR231_4.out x10_4 p254 q254
                                      have hw254_2 := hx254_2
                                      have hw254_1 := hx254_1
                                      have hw254_0 := hx254_0
                                      obtain rfl : ad252 = ad254 := (by injection e254)
                                      replace hx254_0 := (HB.out.cell (World.block_lt_of_cell? w _ hx254_0)).trans hx254_0
                                      replace hx254_1 := (HB.out.cell (World.block_lt_of_cell? w _ hx254_1)).trans hx254_1
                                      replace hx254_2 := (HB.out.cell (World.block_lt_of_cell? w _ hx254_2)).trans hx254_2
                                      replace p254 := eq_true p254
                                      replace q254 := eq_true q254
                                      refine start_ (n := 22) (S := fun w' => w'.cell? ⟨gb232, 0, none⟩ = some (.int .i64 ((rd_T40 l0_1 x7_2).f0)) ∧ w'.cell? ⟨gb232, 1, none⟩ = some (.int .i64 ((rd_T40 l0_1 x7_2).f1)) ∧ w'.cell? ⟨gb232, 2, none⟩ = some (.int .i64 ((rd_T40 l0_1 x7_2).f2)) ∧ w'.cell? ⟨gb232, 3, none⟩ = some (.slice A231_3 ((rd_T40 l0_1 x7_2).f3).length c231_3) ∧ w'.cell? ⟨gb232, 4, none⟩ = some (.slice (some ad252) ((rd_T40 l0_1 x7_2).f4).length c231_4) ∧ w'.cell? (ad252.add ((x10_4).toNat * 3)) = some (.int .i64 ((rd_T66 ((rd_T40 l0_1 x7_2).f4) x10_4).f0)) ∧ w'.cell? ⟨(ad252.add ((x10_4).toNat * 3)).block, (ad252.add ((x10_4).toNat * 3)).off + 1, none⟩ = some (.int .i64 ((rd_T66 ((rd_T40 l0_1 x7_2).f4) x10_4).f1)) ∧ w'.cell? ⟨(ad252.add ((x10_4).toNat * 3)).block, (ad252.add ((x10_4).toNat * 3)).off + 2, none⟩ = some (.int .i64 ((rd_T66 ((rd_T40 l0_1 x7_2).f4) x10_4).f2)) ∧ w'.cell? (ad252.add ((x10_4).toNat * 3)) = some (.int .i64 ((rd_T66 ((rd_T40 l0_1 x7_2).f4) x10_4).f0)) ∧ w'.cell? ⟨(ad252.add ((x10_4).toNat * 3)).block, (ad252.add ((x10_4).toNat * 3)).off + 1, none⟩ = some (.int .i64 ((rd_T66 ((rd_T40 l0_1 x7_2).f4) x10_4).f1)) ∧ w'.cell? ⟨(ad252.add ((x10_4).toNat * 3)).block, (ad252.add ((x10_4).toNat * 3)).off + 2, none⟩ = some (.int .i64 ((rd_T66 ((rd_T40 l0_1 x7_2).f4) x10_4).f2)) ∧ w'.cell? (ad252.add ((x10_4).toNat * 3)) = some (.int .i64 ((rd_T66 ((rd_T40 l0_1 x7_2).f4) x10_4).f0)) ∧ w'.cell? ⟨(ad252.add ((x10_4).toNat * 3)).block, (ad252.add ((x10_4).toNat * 3)).off + 1, none⟩ = some (.int .i64 ((rd_T66 ((rd_T40 l0_1 x7_2).f4) x10_4).f1)) ∧ w'.cell? ⟨(ad252.add ((x10_4).toNat * 3)).block, (ad252.add ((x10_4).toNat * 3)).off + 2, none⟩ = some (.int .i64 ((rd_T66 ((rd_T40 l0_1 x7_2).f4) x10_4).f2))) (ds := []) #[false, false, false, false, false, false, false, false, false, false, false, false, false, false, false, false, false, false, false, false, false, false] (by kernel_rfl) rfl rfl ⟨(blk_cell BK232.out 0).trans rfl, (blk_cell BK232.out 1).trans rfl, (blk_cell BK232.out 2).trans rfl, (blk_cell BK232.out 3).trans rfl, (blk_cell BK232.out 4).trans rfl, ((HB.out.cell (World.block_lt_of_cell? w _ hw252_0)).trans hw252_0), ((HB.out.cell (World.block_lt_of_cell? w _ hw252_1)).trans hw252_1), ((HB.out.cell (World.block_lt_of_cell? w _ hw252_2)).trans hw252_2), ((HB.out.cell (World.block_lt_of_cell? w _ hw253_0)).trans hw253_0), ((HB.out.cell (World.block_lt_of_cell? w _ hw253_1)).trans hw253_1), ((HB.out.cell (World.block_lt_of_cell? w _ hw253_2)).trans hw253_2), ((HB.out.cell (World.block_lt_of_cell? w _ hw254_0)).trans hw254_0), ((HB.out.cell (World.block_lt_of_cell? w _ hw254_1)).trans hw254_1), ((HB.out.cell (World.block_lt_of_cell? w _ hw254_2)).trans hw254_2)⟩ (fun hHeld => ?_); refine with_tabW drogueref22_Numbers.tab25 drogueref22_Numbers.bits25 (fun HT_ HW_ => ?_)
                                      generalize wr.drew = w62 at HO_3 BK208 BK232 HB hx252_0 hx252_1 hx252_2 hx253_0 hx253_1 hx253_2 hx254_0 hx254_1 hx254_2 hHeld ⊢
                                      refine pure_ (i := 0) (N := some 140) (v := ?_) (a' := ?_) #[true, false, false, false, false, false, false, false, false, false, false, false, false, false, false, false, false, false, false, false, false, false] rfl rfl (any_of HT_.out (by kernel_rfl)) (fun _ _ _ h => h) (Or.inl ⟨by rfl, ?_⟩) ?_ ?_
                                      rotate_left
                                      · intro w'
                                        go_simp
                                        with_reducible rfl
                                      rotate_left
                                      · simp only [Act.put, List.setIfInBounds_toArray, List.set_cons_zero, List.set_cons_succ, i64_w, i32_w]
                                        rfl
                                      refine pure_ (i := 1) (N := some 141) (v := ?_) (a' := ?_) #[true, true, false, false, false, false, false, false, false, false, false, false, false, false, false, false, false, false, false, false, false, false] rfl rfl (any_of HT_.out (by kernel_rfl)) (fun _ _ _ h => h) (Or.inl ⟨by rfl, ?_⟩) ?_ ?_
                                      rotate_left
                                      · intro w'
                                        go_simp
                                        with_reducible rfl
                                      rotate_left
                                      · simp only [Act.put, List.setIfInBounds_toArray, List.set_cons_zero, List.set_cons_succ, i64_w, i32_w]
                                        rfl
                                      refine pure_ (i := 3) (N := some 143) (v := ?_) (a' := ?_) #[true, true, false, true, false, false, false, false, false, false, false, false, false, false, false, false, false, false, false, false, false, false] rfl rfl (any_of HT_.out (by kernel_rfl)) (fun _ _ _ h => h) (Or.inl ⟨by rfl, ?_⟩) ?_ ?_
                                      rotate_left
                                      · intro w'
                                        go_simp
                                        with_reducible rfl
                                      rotate_left
                                      · simp only [Act.put, List.setIfInBounds_toArray, List.set_cons_zero, List.set_cons_succ, i64_w, i32_w]
                                        rfl
                                      refine pure_ (i := 7) (N := some 147) (v := ?_) (a' := ?_) #[true, true, false, true, false, false, false, true, false, false, false, false, false, false, false, false, false, false, false, false, false, false] rfl rfl (any_of HT_.out (by kernel_rfl)) (fun _ _ _ h => h) (Or.inl ⟨by rfl, ?_⟩) ?_ ?_
                                      rotate_left
                                      · intro w'
                                        go_simp
                                        with_reducible rfl
                                      rotate_left
                                      · simp only [Act.put, List.setIfInBounds_toArray, List.set_cons_zero, List.set_cons_succ, i64_w, i32_w]
                                        rfl
                                      refine pure_ (i := 9) (N := some 149) (v := ?_) (a' := ?_) #[true, true, false, true, false, false, false, true, false, true, false, false, false, false, false, false, false, false, false, false, false, false] rfl rfl (any_of HT_.out (by kernel_rfl)) (fun _ _ _ h => h) (Or.inl ⟨by rfl, ?_⟩) ?_ ?_
                                      rotate_left
                                      · intro w'
                                        go_simp
                                        with_reducible rfl
                                      rotate_left
                                      · simp only [Act.put, List.setIfInBounds_toArray, List.set_cons_zero, List.set_cons_succ, i64_w, i32_w]
                                        rfl
                                      refine pure_ (i := 13) (N := some 153) (v := ?_) (a' := ?_) #[true, true, false, true, false, false, false, true, false, true, false, false, false, true, false, false, false, false, false, false, false, false] rfl rfl (any_of HT_.out (by kernel_rfl)) (fun _ _ _ h => h) (Or.inl ⟨by rfl, ?_⟩) ?_ ?_
                                      rotate_left
                                      · intro w'
                                        go_simp
                                        with_reducible rfl
                                      rotate_left
                                      · simp only [Act.put, List.setIfInBounds_toArray, List.set_cons_zero, List.set_cons_succ, i64_w, i32_w]
                                        rfl
                                      refine pure_ (i := 15) (N := some 155) (v := ?_) (a' := ?_) #[true, true, false, true, false, false, false, true, false, true, false, false, false, true, false, true, false, false, false, false, false, false] rfl rfl (any_of HT_.out (by kernel_rfl)) (fun _ _ _ h => h) (Or.inl ⟨by rfl, ?_⟩) ?_ ?_
                                      rotate_left
                                      · intro w'
                                        go_simp
                                        with_reducible rfl
                                      rotate_left
                                      · simp only [Act.put, List.setIfInBounds_toArray, List.set_cons_zero, List.set_cons_succ, i64_w, i32_w]
                                        rfl
                                      refine take_ (i := 2) (N := some 142) (v := ?_) (a' := ?_) #[true, true, true, true, false, false, false, true, false, true, false, false, false, true, false, true, false, false, false, false, false, false] rfl rfl (take_ofW HT_.out HW_.out (by kernel_rfl)) (fun _ _ _ h => h) (Or.inl ⟨by rfl, ?_⟩) hHeld ?_ ?_
                                      rotate_left
                                      · rintro w' ⟨s0, s1, s2, s3, s4, s5, s6, s7, s8, s9, s10, s11, s12, s13⟩
                                        go_simp
                                        with_reducible rfl
                                      rotate_left
                                      · simp only [Act.put, List.setIfInBounds_toArray, List.set_cons_zero, List.set_cons_succ, i64_w, i32_w]
                                        rfl
                                      refine pure_ (i := 4) (N := some 144) (v := ?_) (a' := ?_) #[true, true, true, true, true, false, false, true, false, true, false, false, false, true, false, true, false, false, false, false, false, false] rfl rfl (any_of HT_.out (by kernel_rfl)) (fun _ _ _ h => h) (Or.inl ⟨by rfl, ?_⟩) ?_ ?_
                                      rotate_left
                                      · intro w'
                                        go_simp
                                        with_reducible rfl
                                      rotate_left
                                      · simp only [Act.put, List.setIfInBounds_toArray, List.set_cons_zero, List.set_cons_succ, i64_w, i32_w]
                                        rfl
                                      refine pure_ (i := 5) (N := some 145) (v := ?_) (a' := ?_) #[true, true, true, true, true, true, false, true, false, true, false, false, false, true, false, true, false, false, false, false, false, false] rfl rfl (any_of HT_.out (by kernel_rfl)) (fun _ _ _ h => h) (Or.inl ⟨by rfl, ?_⟩) ?_ ?_
                                      rotate_left
                                      · intro w'
                                        go_simp
                                        with_reducible rfl
                                      rotate_left
                                      · simp only [Act.put, List.setIfInBounds_toArray, List.set_cons_zero, List.set_cons_succ, i64_w, i32_w]
                                        rfl
                                      refine take_ (i := 6) (N := some 146) (v := ?_) (a' := ?_) #[true, true, true, true, true, true, true, true, false, true, false, false, false, true, false, true, false, false, false, false, false, false] rfl rfl (take_ofW HT_.out HW_.out (by kernel_rfl)) (fun _ _ _ h => h) (Or.inl ⟨by rfl, ?_⟩) hHeld ?_ ?_
                                      rotate_left
                                      · rintro w' ⟨s0, s1, s2, s3, s4, s5, s6, s7, s8, s9, s10, s11, s12, s13⟩
                                        go_simp
                                        with_reducible rfl
                                      rotate_left
                                      · simp only [Act.put, List.setIfInBounds_toArray, List.set_cons_zero, List.set_cons_succ, i64_w, i32_w]
                                        rfl
                                      refine take_ (i := 8) (N := some 148) (v := ?_) (a' := ?_) #[true, true, true, true, true, true, true, true, true, true, false, false, false, true, false, true, false, false, false, false, false, false] rfl rfl (take_ofW HT_.out HW_.out (by kernel_rfl)) (fun _ _ _ h => h) (Or.inl ⟨by rfl, ?_⟩) hHeld ?_ ?_
                                      rotate_left
                                      · rintro w' ⟨s0, s1, s2, s3, s4, s5, s6, s7, s8, s9, s10, s11, s12, s13⟩
                                        go_simp
                                        with_reducible rfl
                                      rotate_left
                                      · simp only [Act.put, List.setIfInBounds_toArray, List.set_cons_zero, List.set_cons_succ, i64_w, i32_w]
                                        rfl
                                      refine pure_ (i := 10) (N := some 150) (v := ?_) (a' := ?_) #[true, true, true, true, true, true, true, true, true, true, true, false, false, true, false, true, false, false, false, false, false, false] rfl rfl (any_of HT_.out (by kernel_rfl)) (fun _ _ _ h => h) (Or.inl ⟨by rfl, ?_⟩) ?_ ?_
                                      rotate_left
                                      · intro w'
                                        go_simp
                                        with_reducible rfl
                                      rotate_left
                                      · simp only [Act.put, List.setIfInBounds_toArray, List.set_cons_zero, List.set_cons_succ, i64_w, i32_w]
                                        rfl
                                      refine pure_ (i := 11) (N := some 151) (v := ?_) (a' := ?_) #[true, true, true, true, true, true, true, true, true, true, true, true, false, true, false, true, false, false, false, false, false, false] rfl rfl (any_of HT_.out (by kernel_rfl)) (fun _ _ _ h => h) (Or.inl ⟨by rfl, ?_⟩) ?_ ?_
                                      rotate_left
                                      · intro w'
                                        go_simp
                                        with_reducible rfl
                                      rotate_left
                                      · simp only [Act.put, List.setIfInBounds_toArray, List.set_cons_zero, List.set_cons_succ, i64_w, i32_w]
                                        rfl
                                      refine take_ (i := 12) (N := some 152) (v := ?_) (a' := ?_) #[true, true, true, true, true, true, true, true, true, true, true, true, true, true, false, true, false, false, false, false, false, false] rfl rfl (take_ofW HT_.out HW_.out (by kernel_rfl)) (fun _ _ _ h => h) (Or.inl ⟨by rfl, ?_⟩) hHeld ?_ ?_
                                      rotate_left
                                      · rintro w' ⟨s0, s1, s2, s3, s4, s5, s6, s7, s8, s9, s10, s11, s12, s13⟩
                                        go_simp
                                        with_reducible rfl
                                      rotate_left
                                      · simp only [Act.put, List.setIfInBounds_toArray, List.set_cons_zero, List.set_cons_succ, i64_w, i32_w]
                                        rfl
                                      refine take_ (i := 14) (N := some 154) (v := ?_) (a' := ?_) #[true, true, true, true, true, true, true, true, true, true, true, true, true, true, true, true, false, false, false, false, false, false] rfl rfl (take_ofW HT_.out HW_.out (by kernel_rfl)) (fun _ _ _ h => h) (Or.inl ⟨by rfl, ?_⟩) hHeld ?_ ?_
                                      rotate_left
                                      · rintro w' ⟨s0, s1, s2, s3, s4, s5, s6, s7, s8, s9, s10, s11, s12, s13⟩
                                        go_simp
                                        with_reducible rfl
                                      rotate_left
                                      · simp only [Act.put, List.setIfInBounds_toArray, List.set_cons_zero, List.set_cons_succ, i64_w, i32_w]
                                        rfl
                                      refine pure_ (i := 16) (N := some 156) (v := ?_) (a' := ?_) #[true, true, true, true, true, true, true, true, true, true, true, true, true, true, true, true, true, false, false, false, false, false] rfl rfl (any_of HT_.out (by kernel_rfl)) (fun _ _ _ h => h) (Or.inl ⟨by rfl, ?_⟩) ?_ ?_
                                      rotate_left
                                      · intro w'
                                        go_simp
                                        with_reducible rfl
                                      rotate_left
                                      · simp only [Act.put, List.setIfInBounds_toArray, List.set_cons_zero, List.set_cons_succ, i64_w, i32_w]
                                        rfl
                                      refine pure_ (i := 17) (N := some 157) (v := ?_) (a' := ?_) #[true, true, true, true, true, true, true, true, true, true, true, true, true, true, true, true, true, true, false, false, false, false] rfl rfl (any_of HT_.out (by kernel_rfl)) (fun _ _ _ h => h) (Or.inl ⟨by rfl, ?_⟩) ?_ ?_
                                      rotate_left
                                      · intro w'
                                        go_simp
                                        with_reducible rfl
                                      rotate_left
                                      · simp only [Act.put, List.setIfInBounds_toArray, List.set_cons_zero, List.set_cons_succ, i64_w, i32_w]
                                        rfl
                                      refine take_ (i := 18) (N := some 158) (v := ?_) (a' := ?_) #[true, true, true, true, true, true, true, true, true, true, true, true, true, true, true, true, true, true, true, false, false, false] rfl rfl (take_ofW HT_.out HW_.out (by kernel_rfl)) (fun _ _ _ h => h) (Or.inl ⟨by rfl, ?_⟩) hHeld ?_ ?_
                                      rotate_left
                                      · rintro w' ⟨s0, s1, s2, s3, s4, s5, s6, s7, s8, s9, s10, s11, s12, s13⟩
                                        go_simp
                                        with_reducible rfl
                                      rotate_left
                                      · simp only [Act.put, List.setIfInBounds_toArray, List.set_cons_zero, List.set_cons_succ, i64_w, i32_w]
                                        rfl
                                      refine one_ (i := 19) (N := some 159) #[true, true, true, true, true, true, true, true, true, true, true, true, true, true, true, true, true, true, true, true, false, false] rfl rfl (one_of HT_.out (by kernel_rfl)) (by decide) (fun K hK => ?_)
                                      refine Kd.R_lit_step (Kd.int .i64) _ 2 ?hg (N := 159) ?hd (xs := ([(rd_T66 ((rd_T40 l0_1 x7_2).f4) x10_4).f0, (rd_T66 ((rd_T40 l0_1 x7_2).f4) x10_4).f1, (rd_T66 ((rd_T40 l0_1 x7_2).f4) x10_4).f2] : List Int)) (inner := [.int .i64 ((rd_T66 ((rd_T40 l0_1 x7_2).f4) x10_4).f0), .int .i64 ((rd_T66 ((rd_T40 l0_1 x7_2).f4) x10_4).f1), .int .i64 ((rd_T66 ((rd_T40 l0_1 x7_2).f4) x10_4).f2)]) (ok := fun _ => True) (okp := fun _ => True) ?hr ?hp (fun _ hk => hk) trivial (Below.refl _ _) (Nat.le_refl _) (by simp) ?_; (case hd => rfl); (case hg => rfl); (case hr => first | (go_simp; done) | (go_simp; rfl)); (case hp => exact (Reps.one (show Kd.M (Kd.int .i64) _ _ _ ((rd_T66 ((rd_T40 l0_1 x7_2).f4) x10_4).f0) [.int .i64 ((rd_T66 ((rd_T40 l0_1 x7_2).f4) x10_4).f0)] from rfl) (Reps.one (show Kd.M (Kd.int .i64) _ _ _ ((rd_T66 ((rd_T40 l0_1 x7_2).f4) x10_4).f1) [.int .i64 ((rd_T66 ((rd_T40 l0_1 x7_2).f4) x10_4).f1)] from rfl) (Reps.one (show Kd.M (Kd.int .i64) _ _ _ ((rd_T66 ((rd_T40 l0_1 x7_2).f4) x10_4).f2) [.int .i64 ((rd_T66 ((rd_T40 l0_1 x7_2).f4) x10_4).f2)] from rfl) (Reps.none _ _)))))
                                      intro v256 w63 ho64 hb hg_ hnew_
                                      clear hg_ hnew_
                                      (first | rw [← Ny255.out] at ho64 | (simp only [Int.reduceToNat] at ho64; rw [← Ny255.out] at ho64))
                                      have n0_ := Aside0.mk (Kd.R_elder' (by (with_reducible repeat (first | apply Kd.R_alloc | apply Kd.R_drewN | apply Kd.R_drew)); exact HO_3.out) (Kd.R_base ho64) hb)
                                      have n1_ := Aside0.mk (Kd.R_lower (Kd.R_new' ho64 (Kd.R_lt (by (with_reducible repeat (first | apply Kd.R_alloc | apply Kd.R_drewN | apply Kd.R_drew)); exact HO_3.out))) (below_size (by repeat (first | (with_reducible first | exact HB.out | apply below_alloc | apply pw_below_drewN | apply below_drew1 | refine below_set ?_ GE208.out | refine below_set ?_ GE232.out) | exact HB.out))))
                                      have n2_ := Aside0.mk (blk_below (g := gb208) (o := .cells #[.slice A0_0 l0_0.length c0_0, .slice (some ad231) l0_1.length c0_1, .int .i64 a0_2] 25 (0, 0)) (by (with_reducible repeat (first | refine blk_drewN ?_ _ | refine blk_drew ?_ | refine blk_alloc ?_ _)); exact BK208.out) hb)
                                      have n3_ := Aside0.mk (blk_below (g := gb232) (o := .cells #[.int .i64 ((rd_T40 l0_1 x7_2).f0), .int .i64 ((rd_T40 l0_1 x7_2).f1), .int .i64 ((rd_T40 l0_1 x7_2).f2), .slice A231_3 ((rd_T40 l0_1 x7_2).f3).length c231_3, .slice (some ad252) ((rd_T40 l0_1 x7_2).f4).length c231_4] 40 (0, 0)) (by (with_reducible repeat (first | refine blk_drewN ?_ _ | refine blk_drew ?_ | refine blk_alloc ?_ _)); exact BK232.out) hb)
                                      have n4_ := Aside0.mk (below_step (by repeat (first | (with_reducible first | exact HB.out | apply below_alloc | apply pw_below_drewN | apply below_drew1 | refine below_set ?_ GE208.out | refine below_set ?_ GE232.out) | exact HB.out)) hb)
                                      clear HO_3
                                      clear BK208
                                      clear BK232
                                      clear HB
                                      have HO_3 := n0_
                                      have HO257 := n1_
                                      have BK208 := n2_
                                      have BK232 := n3_
                                      have HB := n4_
                                      clear n0_ n1_ n2_ n3_ n4_
                                      clear hb ho64
                                      obtain ⟨Ao66, co66, eo66⟩ := Kd.R_slice HO257.out
                                      (first | subst eo66 | (injection eo66 with f1_ f2_ f3_; have f4_ := f1_.symm; have f5_ := f3_.symm; clear f1_ f2_ f3_; subst f4_; subst f5_))
                                      refine hK.out _ _ ⟨(blk_cell BK232.out 0).trans rfl, (blk_cell BK232.out 1).trans rfl, (blk_cell BK232.out 2).trans rfl, (blk_cell BK232.out 3).trans rfl, (blk_cell BK232.out 4).trans rfl, ((HB.out.cell (World.block_lt_of_cell? w _ hw252_0)).trans hw252_0), ((HB.out.cell (World.block_lt_of_cell? w _ hw252_1)).trans hw252_1), ((HB.out.cell (World.block_lt_of_cell? w _ hw252_2)).trans hw252_2), ((HB.out.cell (World.block_lt_of_cell? w _ hw253_0)).trans hw253_0), ((HB.out.cell (World.block_lt_of_cell? w _ hw253_1)).trans hw253_1), ((HB.out.cell (World.block_lt_of_cell? w _ hw253_2)).trans hw253_2), ((HB.out.cell (World.block_lt_of_cell? w _ hw254_0)).trans hw254_0), ((HB.out.cell (World.block_lt_of_cell? w _ hw254_1)).trans hw254_1), ((HB.out.cell (World.block_lt_of_cell? w _ hw254_2)).trans hw254_2)⟩ (fun hHeld => ?_)
                                      clear hK K
                                      refine norm_ (a' := ?_) ?_ ?_
                                      rotate_left
                                      · show Act.put _ (some 159) _ = _
                                        simp only [Act.put, List.setIfInBounds_toArray, List.set_cons_zero, List.set_cons_succ, i64_w, i32_w]
                                        rfl
                                      refine one_ (i := 20) (N := some 160) #[true, true, true, true, true, true, true, true, true, true, true, true, true, true, true, true, true, true, true, true, true, false] rfl rfl (one_of HT_.out (by kernel_rfl)) (by decide) (fun K hK => ?_)
                                      refine Kd.R_append_rows_step (Kd.int .i64) (w0 := w) w.heap.size (by rfl) (.tmp 140) (.tmp 159) 52 2 (.int .i64 0) 8 rfl Try.underlying52 info2 rfl (by decide) (by omega) u3 x3_4 y255 _ _ _ (fun k_ => some k_ ≠ (.slice Ao66 y255.length co66 : Value).ownBlock) (fun _ => False) rfl rfl ?aO ?aR (fun _ _ h => h) (fun _ h => h.elim) ?aF ?aB ?aS ?aL ?_
                                      (case aR => repeat (first | exact (Kd.R_reads' HO257.out).2.2 | (with_reducible refine Kd.C_alloc ?_ _) | (with_reducible refine Kd.C_drewN ?_ _) | (with_reducible refine Kd.C_drew ?_)))
                                      (case aB => exact (by repeat (first | (with_reducible first | exact HB.out | apply below_alloc | apply pw_below_drewN | apply below_drew1 | refine below_set ?_ GE208.out | refine below_set ?_ GE232.out) | exact HB.out)))
                                      (case aF => exact (fun k_ hk => Kd.fresh' (Kd.R_lt (by (with_reducible repeat (first | apply Kd.R_alloc | apply Kd.R_drewN | apply Kd.R_drew)); exact HO257.out)) k_ hk))
                                      (case aO => exact (by (with_reducible repeat (first | apply Kd.R_alloc | apply Kd.R_drewN | apply Kd.R_drew)); exact Kd.R_mono HO_3.out (fun _ hk => hk.2)))
                                      (case aS => exact (below_size (by repeat (first | (with_reducible first | exact HB.out | apply below_alloc | apply pw_below_drewN | apply below_drew1 | refine below_set ?_ GE208.out | refine below_set ?_ GE232.out) | exact HB.out))))
                                      (case aL => have := LMc59.out; omega)
                                      intro v259 w65 ho hb hg hat
                                      rw [← Ny258.out] at ho
                                      have n0_ := Aside0.mk (blk_grown (g := gb208) (o := .cells #[.slice A0_0 l0_0.length c0_0, .slice (some ad231) l0_1.length c0_1, .int .i64 a0_2] 25 (0, 0)) (by (with_reducible repeat (first | refine blk_drewN ?_ _ | refine blk_drew ?_ | refine blk_alloc ?_ _)); exact BK208.out) hg (Kd.R_ne HO_3.out BK208.out (by decide)))
                                      have n1_ := Aside0.mk (blk_grown (g := gb232) (o := .cells #[.int .i64 ((rd_T40 l0_1 x7_2).f0), .int .i64 ((rd_T40 l0_1 x7_2).f1), .int .i64 ((rd_T40 l0_1 x7_2).f2), .slice A231_3 ((rd_T40 l0_1 x7_2).f3).length c231_3, .slice (some ad252) ((rd_T40 l0_1 x7_2).f4).length c231_4] 40 (0, 0)) (by (with_reducible repeat (first | refine blk_drewN ?_ _ | refine blk_drew ?_ | refine blk_alloc ?_ _)); exact BK232.out) hg (Kd.R_ne HO_3.out BK232.out (by decide)))
                                      have n2_ := Aside0.mk (Kd.R_after (ok := (fun _ => True)) (by (with_reducible repeat (first | apply Kd.R_alloc | apply Kd.R_drewN | apply Kd.R_drew)); exact HO257.out) hg hat)
                                      have n3_ := Aside0.mk (hb)
                                      have n4_ := Aside0.mk (ho)
                                      clear BK208
                                      clear BK232
                                      clear HO257
                                      clear HB
                                      clear HO_3
                                      have BK208 := n0_
                                      have BK232 := n1_
                                      have HO257 := n2_
                                      have HB := n3_
                                      have HO260 := n4_
                                      clear n0_ n1_ n2_ n3_ n4_
                                      clear ho hb hg hat
                                      refine hK.out _ _ ⟨(blk_cell BK232.out 0).trans rfl, (blk_cell BK232.out 1).trans rfl, (blk_cell BK232.out 2).trans rfl, (blk_cell BK232.out 3).trans rfl, (blk_cell BK232.out 4).trans rfl, ((HB.out.cell (World.block_lt_of_cell? w _ hw252_0)).trans hw252_0), ((HB.out.cell (World.block_lt_of_cell? w _ hw252_1)).trans hw252_1), ((HB.out.cell (World.block_lt_of_cell? w _ hw252_2)).trans hw252_2), ((HB.out.cell (World.block_lt_of_cell? w _ hw253_0)).trans hw253_0), ((HB.out.cell (World.block_lt_of_cell? w _ hw253_1)).trans hw253_1), ((HB.out.cell (World.block_lt_of_cell? w _ hw253_2)).trans hw253_2), ((HB.out.cell (World.block_lt_of_cell? w _ hw254_0)).trans hw254_0), ((HB.out.cell (World.block_lt_of_cell? w _ hw254_1)).trans hw254_1), ((HB.out.cell (World.block_lt_of_cell? w _ hw254_2)).trans hw254_2)⟩ (fun hHeld => ?_)
                                      clear hK K
                                      refine norm_ (a' := ?_) ?_ ?_
                                      rotate_left
                                      · show Act.put _ (some 160) _ = _
                                        simp only [Act.put, List.setIfInBounds_toArray, List.set_cons_zero, List.set_cons_succ, i64_w, i32_w]
                                        rfl
                                      refine pure_ (i := 21) (N := some 3) (v := ?_) (a' := ?_) #[true, true, true, true, true, true, true, true, true, true, true, true, true, true, true, true, true, true, true, true, true, true] rfl rfl (any_of HT_.out (by kernel_rfl)) (fun _ _ _ h => h) (Or.inl ⟨by rfl, ?_⟩) ?_ ?_
                                      rotate_left
                                      · intro w'
                                        go_simp
                                        with_reducible rfl
                                      rotate_left
                                      · simp only [Act.put, List.setIfInBounds_toArray, List.set_cons_zero, List.set_cons_succ, i64_w, i32_w]
                                        rfl
                                      refine done_ (done_of HT_.out (by kernel_rfl)) ?_
                                      try go_wp2
                                      go_roundg k4
                                      case measure => have := HK1.out; have := HK2.out; have := HK3.out; have := HK4.out; omega
                                      case rel => exact ⟨(y258), (wrap64 (x10_4 + 1)), (by first | rfl | (simp; done) | (simp [*]; done)), H', ⟨by have := HK1.out; have := HK2.out; have := HK3.out; have := HK4.out; omega⟩, ⟨by (with_reducible repeat (first | apply Kd.R_alloc | apply Kd.R_drewN | apply Kd.R_drew)); exact Kd.R_mono HO260.out (fun _ hk => trivial)⟩, ⟨by (with_reducible repeat (first | refine blk_drewN ?_ _ | refine blk_drew ?_ | refine blk_alloc ?_ _)); exact BK208.out⟩, ⟨by (with_reducible repeat (first | refine blk_drewN ?_ _ | refine blk_drew ?_ | refine blk_alloc ?_ _)); exact BK232.out⟩, ⟨by repeat (first | (with_reducible first | exact HB.out | apply below_alloc | apply pw_below_drewN | apply below_drew1 | refine below_set ?_ GE208.out | refine below_set ?_ GE232.out) | exact HB.out)⟩⟩
                                    · rw [if_neg c59] at H
                                      exact absurd H (by simp)
                                  · rw [if_neg c58] at H
                                    exact absurd H (by simp)
                                · rw [if_neg c57] at H
                                  have c57b0 : decide (x10_4 < (((rd_T40 l0_1 x7_2).f4).length : Int)) = false := decide_eq_false c57
                                  clear c57
                                  have H' := Aside0.mk H
                                  clear H
                                  have hnb67 := NB232_208.out
                                  have hnc67 := NB208_232.out
                                  have hcz68_0 : wr.cell? ⟨gb232, 0, none⟩ = some (.int .i64 ((rd_T40 l0_1 x7_2).f0)) := (blk_cell BK232.out 0).trans rfl
                                  have hcz68_1 : wr.cell? ⟨gb232, 1, none⟩ = some (.int .i64 ((rd_T40 l0_1 x7_2).f1)) := (blk_cell BK232.out 1).trans rfl
                                  have hcz68_2 : wr.cell? ⟨gb232, 2, none⟩ = some (.int .i64 ((rd_T40 l0_1 x7_2).f2)) := (blk_cell BK232.out 2).trans rfl
                                  have hcz68_3 : wr.cell? ⟨gb232, 3, none⟩ = some (.slice A231_3 ((rd_T40 l0_1 x7_2).f3).length c231_3) := (blk_cell BK232.out 3).trans rfl
                                  have hcz68_4 : wr.cell? ⟨gb232, 4, none⟩ = some (.slice A231_4 ((rd_T40 l0_1 x7_2).f4).length c231_4) := (blk_cell BK232.out 4).trans rfl
                                  have hfz68_0 := blk_frozen BK232.out 0
                                  have hfz68_1 := blk_frozen BK232.out 1
                                  have hfz68_2 := blk_frozen BK232.out 2
                                  have hfz68_3 := blk_frozen BK232.out 3
                                  have hfz68_4 := blk_frozen BK232.out 4
                                  go_wp2
                                  go_roundg k4
                                  case measure => have := HK1.out; have := HK2.out; have := HK3.out; have := HK4.out; omega
                                  case rel => exact ⟨(x3_4), (wrap64 (x7_2 + 1)), (by first | rfl | (simp; done) | (simp [*]; done)), H', ⟨by have := HK1.out; have := HK2.out; have := HK3.out; have := HK4.out; omega⟩, ⟨by (with_reducible repeat (first | apply Kd.R_alloc | apply Kd.R_drewN | apply Kd.R_drew)); exact HO_3.out⟩, ⟨by (with_reducible repeat (first | refine blk_drewN ?_ _ | refine blk_drew ?_ | refine blk_alloc ?_ _)); exact BK208.out⟩, ⟨by repeat (first | (with_reducible first | exact HB.out | apply below_alloc | apply pw_below_drewN | apply below_drew1 | refine below_set ?_ GE208.out | refine below_set ?_ GE232.out) | exact HB.out)⟩⟩
                          · rw [if_neg c53] at H
                            exact absurd H (by simp)
                  · rw [if_neg c34] at H
                    exact absurd H (by simp)
                · rw [if_neg c33] at H
                  exact absurd H (by simp)
              · rw [if_neg c32] at H
                have c32b0 : decide (x7_2 < (l0_1.length : Int)) = false := decide_eq_false c32
                clear c32
                obtain rfl := Option.some.inj H
                have hcz69_0 : wr.cell? ⟨gb208, 0, none⟩ = some (.slice A0_0 l0_0.length c0_0) := (blk_cell BK208.out 0).trans rfl
                have hcz69_1 : wr.cell? ⟨gb208, 1, none⟩ = some (.slice A0_1 l0_1.length c0_1) := (blk_cell BK208.out 1).trans rfl
                have hcz69_2 : wr.cell? ⟨gb208, 2, none⟩ = some (.int .i64 a0_2) := (blk_cell BK208.out 2).trans rfl
                have hfz69_0 := blk_frozen BK208.out 0
                have hfz69_1 := blk_frozen BK208.out 1
                have hfz69_2 := blk_frozen BK208.out 2
                go_wp2
                go_ret
                exact ⟨_, by first | rfl | (simp [errW_none, errW_some] <;> rfl) | (simp [*, errW_none, errW_some] <;> rfl), by (with_reducible repeat (first | apply Kd.R_alloc | apply Kd.R_drewN | apply Kd.R_drew)); exact HO_3.out, by repeat (first | (with_reducible first | exact HB.out | apply below_alloc | apply pw_below_drewN | apply below_drew1 | refine below_set ?_ GE208.out) | exact HB.out)⟩
        · rw [if_neg c29] at H
          exact absurd H (by simp)

end Go.Proofs.Ytoiakaagbgfocaa.PC
