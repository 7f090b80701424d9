-- PRINTED by print.py (a twelfth state) out of the translation. Not trusted: Lean checks it.
import Derived.Test.YtlkppkmfpinocaaDoorPTx0
namespace Go.Proofs.YtlkppkmfpinocaaDoor.PT
open Go.RowKit Go.Proofs.YtlkppkmfpinocaaDoorW.PrintWords Go.Proofs.YtlkppkmfpinocaaDoorW.PrintLast Go.Proofs.YtlkppkmfpinocaaDoorW.PrintMore
attribute [local go_sem] max2_int min2_int max_two min_two max_three min_three max_four min_four   -- for this text's walks alone
set_option linter.unusedVariables false
set_option linter.unusedSimpArgs false

/-! ### drogueref20_Alike: function 26 -/
mutual
def drogueref20_Alike.l0 : Nat → List (S26) → List (S26) → Int → Option (Bool)
  | 0, _, _, _ => none
  | k + 1, x0, x1, x5 => if x5 < (x0.length : Int) then (if 0 ≤ x5 then (if x5 < (x1.length : Int) then (if ((rd_T26 x0 x5).f0) = ((rd_T26 x1 x5).f0) then (if ((rd_T26 x0 x5).f0) = 1 then (drogueref20_Alike.j1 k x0 x1 x5 false) else (drogueref20_Alike.j1 k x0 x1 x5 (((rd_T26 x0 x5).f0) != 2))) else (some false)) else (none)) else (none)) else (some true)
def drogueref20_Alike.j1 : Nat → List (S26) → List (S26) → Int → Bool → Option (Bool)
  | 0, _, _, _, _ => none
  | k + 1, x0, x1, x5, x42 => if x42 = true then (if 0 ≤ x5 then (if x5 < (x0.length : Int) then (if x5 < (x1.length : Int) then (if ((rd_T26 x0 x5).f1) = ((rd_T26 x1 x5).f1) then (drogueref20_Alike.l0 k x0 x1 (wrap64 (x5 + 1))) else (some false)) else (none)) else (none)) else (none)) else (drogueref20_Alike.l1 k x0 x1 x5 0)
def drogueref20_Alike.l1 : Nat → List (S26) → List (S26) → Int → Int → Option (Bool)
  | 0, _, _, _, _ => none
  | k + 1, x0, x1, x5, x6 => if x6 < x5 then (if 0 ≤ x6 then (if x6 < (x0.length : Int) then (if ((rd_T26 x0 x6).f0) = 1 then (if 0 ≤ x5 then (if x5 < (x0.length : Int) then (if x6 < (x1.length : Int) then (if x5 < (x1.length : Int) then (drogueref20_Alike.j3 k x0 x1 x5 x6 ((((rd_T26 x0 x6).f1) == ((rd_T26 x0 x5).f1)) != (((rd_T26 x1 x6).f1) == ((rd_T26 x1 x5).f1)))) else (none)) else (none)) else (none)) else (none)) else (if ((rd_T26 x0 x6).f0) = 2 then (if 0 ≤ x5 then (if x5 < (x0.length : Int) then (if x6 < (x1.length : Int) then (if x5 < (x1.length : Int) then (drogueref20_Alike.j3 k x0 x1 x5 x6 ((((rd_T26 x0 x6).f1) == ((rd_T26 x0 x5).f1)) != (((rd_T26 x1 x6).f1) == ((rd_T26 x1 x5).f1)))) else (none)) else (none)) else (none)) else (none)) else (drogueref20_Alike.j3 k x0 x1 x5 x6 false))) else (none)) else (none)) else (drogueref20_Alike.l0 k x0 x1 (wrap64 (x5 + 1)))
def drogueref20_Alike.j3 : Nat → List (S26) → List (S26) → Int → Int → Bool → Option (Bool)
  | 0, _, _, _, _, _ => none
  | k + 1, x0, x1, x5, x6, x97 => if x97 = true then (some false) else (drogueref20_Alike.l1 k x0 x1 x5 (wrap64 (x6 + 1)))
end
def drogueref20_Alike.f (k : Nat) (l0 : List (S26)) (l1 : List (S26)) : Option (Bool) := if (l0.length : Int) = (l1.length : Int) then (drogueref20_Alike.l0 k l0 l1 0) else (some false)
theorem drogueref20_Alike.mono_l : ∀ k, (∀ y0 y1 y2, LeO (drogueref20_Alike.l0 k y0 y1 y2) (drogueref20_Alike.l0 (k + 1) y0 y1 y2)) ∧ (∀ y0 y1 y2 y3, LeO (drogueref20_Alike.j1 k y0 y1 y2 y3) (drogueref20_Alike.j1 (k + 1) y0 y1 y2 y3)) ∧ (∀ y0 y1 y2 y3, LeO (drogueref20_Alike.l1 k y0 y1 y2 y3) (drogueref20_Alike.l1 (k + 1) y0 y1 y2 y3)) ∧ (∀ y0 y1 y2 y3 y4, LeO (drogueref20_Alike.j3 k y0 y1 y2 y3 y4) (drogueref20_Alike.j3 (k + 1) y0 y1 y2 y3 y4))
  | 0 => ⟨fun _ _ _ r h => by simp [drogueref20_Alike.l0] at h, fun _ _ _ _ r h => by simp [drogueref20_Alike.j1] at h, fun _ _ _ _ r h => by simp [drogueref20_Alike.l1] at h, fun _ _ _ _ _ r h => by simp [drogueref20_Alike.j3] at h⟩
  | k + 1 => by
    obtain ⟨ih0, ih1, ih2, ih3⟩ := drogueref20_Alike.mono_l k
    refine ⟨?_, ?_, ?_, ?_⟩
    · intro y0 y1 y2
      unfold drogueref20_Alike.l0
      repeat' first
      | (with_reducible exact ih0 _ _ _)
      | (with_reducible exact ih1 _ _ _ _)
      | (with_reducible exact ih2 _ _ _ _)
      | (with_reducible exact ih3 _ _ _ _ _)
      | (with_reducible exact LeO.refl _)
      | (with_reducible exact LeO.none _)
      | (with_reducible refine LeO.ite ?_ ?_)
      | (with_reducible refine LeO.bind ?_ (fun _ => ?_))
      | exact ih0 _ _ _
      | exact ih1 _ _ _ _
      | exact ih2 _ _ _ _
      | exact ih3 _ _ _ _ _
      | exact LeO.none _
      | refine LeO.ite ?_ ?_
      | refine LeO.bind ?_ (fun _ => ?_)
    · intro y0 y1 y2 y3
      unfold drogueref20_Alike.j1
      repeat' first
      | (with_reducible exact ih0 _ _ _)
      | (with_reducible exact ih1 _ _ _ _)
      | (with_reducible exact ih2 _ _ _ _)
      | (with_reducible exact ih3 _ _ _ _ _)
      | (with_reducible exact LeO.refl _)
      | (with_reducible exact LeO.none _)
      | (with_reducible refine LeO.ite ?_ ?_)
      | (with_reducible refine LeO.bind ?_ (fun _ => ?_))
      | exact ih0 _ _ _
      | exact ih1 _ _ _ _
      | exact ih2 _ _ _ _
      | exact ih3 _ _ _ _ _
      | exact LeO.none _
      | refine LeO.ite ?_ ?_
      | refine LeO.bind ?_ (fun _ => ?_)
    · intro y0 y1 y2 y3
      unfold drogueref20_Alike.l1
      repeat' first
      | (with_reducible exact ih0 _ _ _)
      | (with_reducible exact ih1 _ _ _ _)
      | (with_reducible exact ih2 _ _ _ _)
      | (with_reducible exact ih3 _ _ _ _ _)
      | (with_reducible exact LeO.refl _)
      | (with_reducible exact LeO.none _)
      | (with_reducible refine LeO.ite ?_ ?_)
      | (with_reducible refine LeO.bind ?_ (fun _ => ?_))
      | exact ih0 _ _ _
      | exact ih1 _ _ _ _
      | exact ih2 _ _ _ _
      | exact ih3 _ _ _ _ _
      | exact LeO.none _
      | refine LeO.ite ?_ ?_
      | refine LeO.bind ?_ (fun _ => ?_)
    · intro y0 y1 y2 y3 y4
      unfold drogueref20_Alike.j3
      repeat' first
      | (with_reducible exact ih0 _ _ _)
      | (with_reducible exact ih1 _ _ _ _)
      | (with_reducible exact ih2 _ _ _ _)
      | (with_reducible exact ih3 _ _ _ _ _)
      | (with_reducible exact LeO.refl _)
      | (with_reducible exact LeO.none _)
      | (with_reducible refine LeO.ite ?_ ?_)
      | (with_reducible refine LeO.bind ?_ (fun _ => ?_))
      | exact ih0 _ _ _
      | exact ih1 _ _ _ _
      | exact ih2 _ _ _ _
      | exact ih3 _ _ _ _ _
      | exact LeO.none _
      | refine LeO.ite ?_ ?_
      | refine LeO.bind ?_ (fun _ => ?_)
theorem drogueref20_Alike.mono : ∀ a0 a1 k, LeO (drogueref20_Alike.f k a0 a1) (drogueref20_Alike.f (k + 1) a0 a1) := by
  intro a0 a1 k
  obtain ⟨ih0, ih1, ih2, ih3⟩ := drogueref20_Alike.mono_l k
  unfold drogueref20_Alike.f
  repeat' first
      | (with_reducible exact ih0 _ _ _)
      | (with_reducible exact ih1 _ _ _ _)
      | (with_reducible exact ih2 _ _ _ _)
      | (with_reducible exact ih3 _ _ _ _ _)
      | (with_reducible exact LeO.refl _)
      | (with_reducible exact LeO.none _)
      | (with_reducible refine LeO.ite ?_ ?_)
      | (with_reducible refine LeO.bind ?_ (fun _ => ?_))
      | exact ih0 _ _ _
      | exact ih1 _ _ _ _
      | exact ih2 _ _ _ _
      | exact ih3 _ _ _ _ _
      | exact LeO.none _
      | refine LeO.ite ?_ ?_
      | refine LeO.bind ?_ (fun _ => ?_)
set_option maxHeartbeats 8000000 in
set_option maxRecDepth 100000 in
theorem drogueref20_Alike.calls (k : Nat) (A0 : Option Addr) (c0 : Nat) (l0 : List (S26)) (A1 : Option Addr) (c1 : Nat) (l1 : List (S26)) (r : Bool) (w : World) (hr0 : Kd.C k26 w A0 l0.length l0) (hc0 : l0.length ≤ c0) (hr1 : Kd.C k26 w A1 l1.length l1) (hc1 : l1.length ≤ c1) (h : drogueref20_Alike.f k l0 l1 = some r) :
    Calls Tryd.prog 26 #[.slice A0 l0.length c0, .slice A1 l1.length c1] w fun e w' => e = .returned (.bool r) ∧ Drawn0 w w' := by
  have HR0 := Aside0.mk hr0
  have HC0 := Aside0.mk hc0
  clear hr0 hc0
  have HR1 := Aside0.mk hr1
  have HC1 := Aside0.mk hc1
  clear hr1 hc1
  have H : (if (l0.length : Int) = (l1.length : Int) then (drogueref20_Alike.l0 k l0 l1 0) else (some false)) = some r := h
  clear h
  by_cases c3 : (l0.length : Int) = (l1.length : Int)
  · rw [if_pos c3] at H
    have c3b0 : ((l0.length : Int) == (l1.length : Int)) = true := beq_iff_eq.mpr c3
    have c3b1 : ((l0.length : Int) != (l1.length : Int)) = false := bne_eq_false_iff_eq.mpr c3
    have c3b2 : (l0.length == l1.length) = true := by first | simpa using c3 | (simp at c3 ⊢; omega)
    clear c3
    have H' := Aside0.mk H
    clear H
    go_enter Tryd.func26, Tryd.ntmps26
    go_wp2
    repeat (go_quiet (fail); try go_wp2)
    go_loopg [5] k (fun kq v5 w' => ∃ (x5_1 : Int), v5 = .int .i64 x5_1 ∧ Aside0 (drogueref20_Alike.l0 kq l0 l1 x5_1 = some r) ∧ Aside0 (kq ≤ k) ∧ Drawn0 w w')
    case atStart => exact ⟨(0), (by first | rfl | (simp; done) | (simp [*]; done)), H', ⟨Nat.le_refl _⟩, by repeat (first | exact Drawn0.refl _ | apply Drawn0.step)⟩
    case round =>
      clear H'
      try clear c1
      try clear c2
      try clear p2
      try clear c3
      try clear c3b0
      try clear c3b1
      try clear c3b2
      obtain ⟨x5_1, rfl, HA, HK1, ⟨m1, rfl⟩⟩ := hrel
      cases gk with
      | zero => exact absurd HA.out (by simp [drogueref20_Alike.l0])
      | succ k1 =>
        have H := HA.out
        clear HA
        simp only [drogueref20_Alike.l0] at H
        by_cases c4 : x5_1 < (l0.length : Int)
        · rw [if_pos c4] at H
          have c4b0 : decide (x5_1 < (l0.length : Int)) = true := decide_eq_true c4
          clear c4
          by_cases c5 : 0 ≤ x5_1
          · rw [if_pos c5] at H
            have c5b0 : decide (0 ≤ x5_1) = true := decide_eq_true c5
            clear c5
            by_cases c6 : x5_1 < (l1.length : Int)
            · rw [if_pos c6] at H
              have c6b0 : decide (x5_1 < (l1.length : Int)) = true := decide_eq_true c6
              clear c6
              by_cases c7 : ((rd_T26 l0 x5_1).f0) = ((rd_T26 l1 x5_1).f0)
              · rw [if_pos c7] at H
                have c7b0 : (((rd_T26 l0 x5_1).f0) == ((rd_T26 l1 x5_1).f0)) = true := beq_iff_eq.mpr c7
                have c7b1 : (((rd_T26 l0 x5_1).f0) != ((rd_T26 l1 x5_1).f0)) = false := bne_eq_false_iff_eq.mpr c7
                clear c7
                have HC8 := Aside0.mk H
                clear H
                have p195 : 0 ≤ (x5_1 : Int) := of_decide_eq_true (by first | (with_reducible assumption) | assumption)
                have q195 : x5_1 < (l0.length : Int) := of_decide_eq_true (by first | (with_reducible assumption) | assumption)
                obtain ⟨ad195, e195, hx195_0, hx195_1⟩ := at_T26 HR0.out x5_1 p195 q195
                cases e195
                replace p195 := eq_true p195
                replace q195 := eq_true q195
                have p196 : 0 ≤ (x5_1 : Int) := of_decide_eq_true (by first | (with_reducible assumption) | assumption)
                have q196 : x5_1 < (l1.length : Int) := of_decide_eq_true (by first | (with_reducible assumption) | assumption)
                obtain ⟨ad196, e196, hx196_0, hx196_1⟩ := at_T26 HR1.out x5_1 p196 q196
                cases e196
                replace p196 := eq_true p196
                replace q196 := eq_true q196
                go_upto_region 8 with (fail)
                repeat (go_quiet (fail); go_upto_region 8 with (fail))
                go_cut [42] (fun v42 wc => ∃ (kq : Nat) (x42_7 : Bool), v42 = .bool x42_7 ∧ Aside0 (drogueref20_Alike.j1 kq l0 l1 x5_1 x42_7 = some r) ∧ Aside0 (kq ≤ k1) ∧ Drawn0 w wc)
                case first =>
                  have H := HC8.out
                  clear HC8
                  by_cases c9 : ((rd_T26 l0 x5_1).f0) = 1
                  · rw [if_pos c9] at H
                    have c9b0 : (((rd_T26 l0 x5_1).f0) == 1) = true := beq_iff_eq.mpr c9
                    have c9b1 : (((rd_T26 l0 x5_1).f0) != 1) = false := bne_eq_false_iff_eq.mpr c9
                    clear c9
                    (first | rw [c9b0] | (simp only [i64_w, i32_w]; rw [c9b0]) | skip)
                    have H' := Aside0.mk H
                    clear H
                    have p197 : 0 ≤ (x5_1 : Int) := of_decide_eq_true (by first | (with_reducible assumption) | assumption)
                    have q197 : x5_1 < (l0.length : Int) := of_decide_eq_true (by first | (with_reducible assumption) | assumption)
                    obtain ⟨ad197, e197, hx197_0, hx197_1⟩ := at_T26 HR0.out x5_1 p197 q197
                    obtain rfl : ad195 = ad197 := (by injection e197)
                    replace p197 := eq_true p197
                    replace q197 := eq_true q197
                    go_wp2
                    repeat (go_quiet (fail); try go_wp2)
                    go_meet
                    case rel => exact ⟨_, (false), (by first | rfl | (simp; done) | (simp [*]; done)), H', ⟨by have := HK1.out; first | omega | exact Nat.le_refl _⟩, by repeat (first | exact Drawn0.refl _ | apply Drawn0.step)⟩
                  · rw [if_neg c9] at H
                    have c9b0 : (((rd_T26 l0 x5_1).f0) == 1) = false := beq_eq_false_iff_ne.mpr c9
                    have c9b1 : (((rd_T26 l0 x5_1).f0) != 1) = true := bne_iff_ne.mpr c9
                    (first | rw [c9b0] | (simp only [i64_w, i32_w]; rw [c9b0]) | skip)
                    have H' := Aside0.mk H
                    clear H
                    have p197 : 0 ≤ (x5_1 : Int) := of_decide_eq_true (by first | (with_reducible assumption) | assumption)
                    have q197 : x5_1 < (l0.length : Int) := of_decide_eq_true (by first | (with_reducible assumption) | assumption)
                    obtain ⟨ad197, e197, hx197_0, hx197_1⟩ := at_T26 HR0.out x5_1 p197 q197
                    obtain rfl : ad195 = ad197 := (by injection e197)
                    replace p197 := eq_true p197
                    replace q197 := eq_true q197
                    have p198 : 0 ≤ (x5_1 : Int) := of_decide_eq_true (by first | (with_reducible assumption) | assumption)
                    have q198 : x5_1 < (l0.length : Int) := of_decide_eq_true (by first | (with_reducible assumption) | assumption)
                    obtain ⟨ad198, e198, hx198_0, hx198_1⟩ := at_T26 HR0.out x5_1 p198 q198
                    obtain rfl : ad195 = ad198 := (by injection e198)
                    replace p198 := eq_true p198
                    replace q198 := eq_true q198
                    go_wp2
                    repeat (go_quiet (fail); try go_wp2)
                    go_meet
                    case rel => exact ⟨_, ((((rd_T26 l0 x5_1).f0) != 2)), (by first | rfl | (simp; done) | (simp [*]; done)), H', ⟨by have := HK1.out; first | omega | exact Nat.le_refl _⟩, by repeat (first | exact Drawn0.refl _ | apply Drawn0.step)⟩
                case rest =>
                  clear HC8
                  try clear c1
                  try clear p1
                  try clear q1
                  try clear hx1
                  try clear c2
                  try clear p2
                  try clear c3
                  try clear c3b0
                  try clear c3b1
                  try clear c3b2
                  try clear c4
                  try clear c4b0
                  try clear c5
                  try clear c5b0
                  try clear c6
                  try clear c6b0
                  try clear c7
                  try clear c7b0
                  try clear c7b1
                  try clear c9
                  try clear c9b0
                  try clear c9b1
                  try clear hx195_0
                  try clear hx195_1
                  try clear hx196_0
                  try clear hx196_1
                  try clear hx197_0
                  try clear hx197_1
                  try clear hx198_0
                  try clear hx198_1
                  try clear p195
                  try clear p196
                  try clear p197
                  try clear p198
                  try clear p2
                  try clear q195
                  try clear q196
                  try clear q197
                  try clear q198
                  obtain ⟨kq, x42_7, rfl, HA, HJ7, ⟨mc7, rfl⟩⟩ := hcut
                  cases kq with
                  | zero => exact absurd HA.out (by simp [drogueref20_Alike.j1])
                  | succ kj7 =>
                    have H := HA.out
                    clear HA
                    simp only [drogueref20_Alike.j1] at H
                    by_cases c10 : x42_7 = true
                    · subst c10
                      have H1 : (if 0 ≤ x5_1 then (if x5_1 < (l0.length : Int) then (if x5_1 < (l1.length : Int) then (if ((rd_T26 l0 x5_1).f1) = ((rd_T26 l1 x5_1).f1) then (drogueref20_Alike.l0 kj7 l0 l1 (wrap64 (x5_1 + 1))) else (some false)) else (none)) else (none)) else (none)) = some r := by rw [if_pos rfl] at H; exact H
                      clear H
                      have H := H1
                      clear H1
                      by_cases c11 : 0 ≤ x5_1
                      · rw [if_pos c11] at H
                        have c11b0 : decide (0 ≤ x5_1) = true := decide_eq_true c11
                        clear c11
                        by_cases c12 : x5_1 < (l0.length : Int)
                        · rw [if_pos c12] at H
                          have c12b0 : decide (x5_1 < (l0.length : Int)) = true := decide_eq_true c12
                          clear c12
                          by_cases c13 : x5_1 < (l1.length : Int)
                          · rw [if_pos c13] at H
                            have c13b0 : decide (x5_1 < (l1.length : Int)) = true := decide_eq_true c13
                            clear c13
                            by_cases c14 : ((rd_T26 l0 x5_1).f1) = ((rd_T26 l1 x5_1).f1)
                            · rw [if_pos c14] at H
                              have c14b0 : (((rd_T26 l0 x5_1).f1) == ((rd_T26 l1 x5_1).f1)) = true := beq_iff_eq.mpr c14
                              have c14b1 : (((rd_T26 l0 x5_1).f1) != ((rd_T26 l1 x5_1).f1)) = false := bne_eq_false_iff_eq.mpr c14
                              clear c14
                              have H' := Aside0.mk H
                              clear H
                              have p199 : 0 ≤ (x5_1 : Int) := of_decide_eq_true (by first | (with_reducible assumption) | assumption)
                              have q199 : x5_1 < (l0.length : Int) := of_decide_eq_true (by first | (with_reducible assumption) | assumption)
                              obtain ⟨ad199, e199, hx199_0, hx199_1⟩ := at_T26 HR0.out x5_1 p199 q199
                              obtain rfl : ad195 = ad199 := (by injection e199)
                              replace p199 := eq_true p199
                              replace q199 := eq_true q199
                              have p200 : 0 ≤ (x5_1 : Int) := of_decide_eq_true (by first | (with_reducible assumption) | assumption)
                              have q200 : x5_1 < (l1.length : Int) := of_decide_eq_true (by first | (with_reducible assumption) | assumption)
                              obtain ⟨ad200, e200, hx200_0, hx200_1⟩ := at_T26 HR1.out x5_1 p200 q200
                              obtain rfl : ad196 = ad200 := (by injection e200)
                              replace p200 := eq_true p200
                              replace q200 := eq_true q200
                              go_wp2
                              repeat (go_quiet (fail); try go_wp2)
                              go_roundg kj7
                              case measure => have := HK1.out; have := HJ7.out; omega
                              case rel => exact ⟨(wrap64 (x5_1 + 1)), (by first | rfl | (simp; done) | (simp [*]; done)), H', ⟨by have := HK1.out; have := HJ7.out; omega⟩, by repeat (first | exact Drawn0.refl _ | apply Drawn0.step)⟩
                            · rw [if_neg c14] at H
                              have c14b0 : (((rd_T26 l0 x5_1).f1) == ((rd_T26 l1 x5_1).f1)) = false := beq_eq_false_iff_ne.mpr c14
                              have c14b1 : (((rd_T26 l0 x5_1).f1) != ((rd_T26 l1 x5_1).f1)) = true := bne_iff_ne.mpr c14
                              obtain rfl := Option.some.inj H
                              have p199 : 0 ≤ (x5_1 : Int) := of_decide_eq_true (by first | (with_reducible assumption) | assumption)
                              have q199 : x5_1 < (l0.length : Int) := of_decide_eq_true (by first | (with_reducible assumption) | assumption)
                              obtain ⟨ad199, e199, hx199_0, hx199_1⟩ := at_T26 HR0.out x5_1 p199 q199
                              obtain rfl : ad195 = ad199 := (by injection e199)
                              replace p199 := eq_true p199
                              replace q199 := eq_true q199
                              have p200 : 0 ≤ (x5_1 : Int) := of_decide_eq_true (by first | (with_reducible assumption) | assumption)
                              have q200 : x5_1 < (l1.length : Int) := of_decide_eq_true (by first | (with_reducible assumption) | assumption)
                              obtain ⟨ad200, e200, hx200_0, hx200_1⟩ := at_T26 HR1.out x5_1 p200 q200
                              obtain rfl : ad196 = ad200 := (by injection e200)
                              replace p200 := eq_true p200
                              replace q200 := eq_true q200
                              go_wp2
                              repeat (go_quiet (fail); try go_wp2)
                              go_ret
                              exact ⟨by first | rfl | (simp; done) | (simp [*]; done), by repeat (first | exact Drawn0.refl _ | apply Drawn0.step)⟩
                          · rw [if_neg c13] at H
                            exact absurd H (by simp)
                        · rw [if_neg c12] at H
                          exact absurd H (by simp)
                      · rw [if_neg c11] at H
                        exact absurd H (by simp)
                    · replace c10 := Bool.eq_false_iff.mpr c10
                      subst c10
                      have H1 : (drogueref20_Alike.l1 kj7 l0 l1 x5_1 0) = some r := by rw [if_neg (show ¬ (false = true) by decide)] at H; exact H
                      clear H
                      have H := H1
                      clear H1
                      have H' := Aside0.mk H
                      clear H
                      go_wp2
                      repeat (go_quiet (fail); try go_wp2)
                      go_loopg [6] kj7 (fun kq v6 w' => ∃ (x6_3 : Int), v6 = .int .i64 x6_3 ∧ Aside0 (drogueref20_Alike.l1 kq l0 l1 x5_1 x6_3 = some r) ∧ Aside0 (kq ≤ kj7) ∧ Drawn0 w w')
                      case atStart => exact ⟨(0), (by first | rfl | (simp; done) | (simp [*]; done)), H', ⟨Nat.le_refl _⟩, by repeat (first | exact Drawn0.refl _ | apply Drawn0.step)⟩
                      case round =>
                        clear H'
                        try clear c1
                        try clear p1
                        try clear q1
                        try clear hx1
                        try clear c2
                        try clear p2
                        try clear q2
                        try clear hx2
                        try clear c3
                        try clear c3b0
                        try clear c3b1
                        try clear c3b2
                        try clear c4
                        try clear c4b0
                        try clear c5
                        try clear c5b0
                        try clear c6
                        try clear c6b0
                        try clear p6
                        try clear c7
                        try clear c7b0
                        try clear c7b1
                        try clear c9
                        try clear c9b0
                        try clear c9b1
                        try clear c10
                        try clear c11
                        try clear c11b0
                        try clear c12
                        try clear c12b0
                        try clear c13
                        try clear c13b0
                        try clear c14
                        try clear c14b0
                        try clear c14b1
                        try clear hx195_0
                        try clear hx195_1
                        try clear hx196_0
                        try clear hx196_1
                        try clear hx197_0
                        try clear hx197_1
                        try clear hx198_0
                        try clear hx198_1
                        try clear hx199_0
                        try clear hx199_1
                        try clear hx200_0
                        try clear hx200_1
                        try clear p1
                        try clear p195
                        try clear p196
                        try clear p197
                        try clear p198
                        try clear p199
                        try clear p2
                        try clear p200
                        try clear q1
                        try clear q195
                        try clear q196
                        try clear q197
                        try clear q198
                        try clear q199
                        try clear q200
                        obtain ⟨x6_3, rfl, HA, HK3, ⟨m3, rfl⟩⟩ := hrel
                        cases gk with
                        | zero => exact absurd HA.out (by simp [drogueref20_Alike.l1])
                        | succ k3 =>
                          have H := HA.out
                          clear HA
                          simp only [drogueref20_Alike.l1] at H
                          by_cases c15 : x6_3 < x5_1
                          · rw [if_pos c15] at H
                            have c15b0 : decide (x6_3 < x5_1) = true := decide_eq_true c15
                            clear c15
                            have HC16 := Aside0.mk H
                            clear H
                            go_upto_region 14 with (fail)
                            repeat (go_quiet (fail); go_upto_region 14 with (fail))
                            go_cut [97] (fun v97 wc => ∃ (kq : Nat) (x97_15 : Bool), v97 = .bool x97_15 ∧ Aside0 (drogueref20_Alike.j3 kq l0 l1 x5_1 x6_3 x97_15 = some r) ∧ Aside0 (kq ≤ k3) ∧ Drawn0 w wc)
                            case first =>
                              have H := HC16.out
                              clear HC16
                              by_cases c17 : 0 ≤ x6_3
                              · rw [if_pos c17] at H
                                have c17b0 : decide (0 ≤ x6_3) = true := decide_eq_true c17
                                clear c17
                                (first | rw [c17b0] | (simp only [i64_w, i32_w]; rw [c17b0]) | skip)
                                by_cases c18 : x6_3 < (l0.length : Int)
                                · rw [if_pos c18] at H
                                  have c18b0 : decide (x6_3 < (l0.length : Int)) = true := decide_eq_true c18
                                  clear c18
                                  by_cases c19 : ((rd_T26 l0 x6_3).f0) = 1
                                  · rw [if_pos c19] at H
                                    have c19b0 : (((rd_T26 l0 x6_3).f0) == 1) = true := beq_iff_eq.mpr c19
                                    have c19b1 : (((rd_T26 l0 x6_3).f0) != 1) = false := bne_eq_false_iff_eq.mpr c19
                                    clear c19
                                    by_cases c20 : 0 ≤ x5_1
                                    · rw [if_pos c20] at H
                                      have c20b0 : decide (0 ≤ x5_1) = true := decide_eq_true c20
                                      clear c20
                                      by_cases c21 : x5_1 < (l0.length : Int)
                                      · rw [if_pos c21] at H
                                        have c21b0 : decide (x5_1 < (l0.length : Int)) = true := decide_eq_true c21
                                        clear c21
                                        by_cases c22 : x6_3 < (l1.length : Int)
                                        · rw [if_pos c22] at H
                                          have c22b0 : decide (x6_3 < (l1.length : Int)) = true := decide_eq_true c22
                                          clear c22
                                          by_cases c23 : x5_1 < (l1.length : Int)
                                          · rw [if_pos c23] at H
                                            have c23b0 : decide (x5_1 < (l1.length : Int)) = true := decide_eq_true c23
                                            clear c23
                                            have H' := Aside0.mk H
                                            clear H
                                            have p201 : 0 ≤ (x6_3 : Int) := of_decide_eq_true (by first | (with_reducible assumption) | assumption)
                                            have q201 : x6_3 < (l0.length : Int) := of_decide_eq_true (by first | (with_reducible assumption) | assumption)
                                            obtain ⟨ad201, e201, hx201_0, hx201_1⟩ := at_T26 HR0.out x6_3 p201 q201
                                            obtain rfl : ad195 = ad201 := (by injection e201)
                                            replace p201 := eq_true p201
                                            replace q201 := eq_true q201
                                            have p202 : 0 ≤ (x6_3 : Int) := of_decide_eq_true (by first | (with_reducible assumption) | assumption)
                                            have q202 : x6_3 < (l0.length : Int) := of_decide_eq_true (by first | (with_reducible assumption) | assumption)
                                            obtain ⟨ad202, e202, hx202_0, hx202_1⟩ := at_T26 HR0.out x6_3 p202 q202
                                            obtain rfl : ad195 = ad202 := (by injection e202)
                                            replace p202 := eq_true p202
                                            replace q202 := eq_true q202
                                            have p203 : 0 ≤ (x5_1 : Int) := of_decide_eq_true (by first | (with_reducible assumption) | assumption)
                                            have q203 : x5_1 < (l0.length : Int) := of_decide_eq_true (by first | (with_reducible assumption) | assumption)
                                            obtain ⟨ad203, e203, hx203_0, hx203_1⟩ := at_T26 HR0.out x5_1 p203 q203
                                            obtain rfl : ad195 = ad203 := (by injection e203)
                                            replace p203 := eq_true p203
                                            replace q203 := eq_true q203
                                            have p204 : 0 ≤ (x6_3 : Int) := of_decide_eq_true (by first | (with_reducible assumption) | assumption)
                                            have q204 : x6_3 < (l1.length : Int) := of_decide_eq_true (by first | (with_reducible assumption) | assumption)
                                            obtain ⟨ad204, e204, hx204_0, hx204_1⟩ := at_T26 HR1.out x6_3 p204 q204
                                            obtain rfl : ad196 = ad204 := (by injection e204)
                                            replace p204 := eq_true p204
                                            replace q204 := eq_true q204
                                            have p205 : 0 ≤ (x5_1 : Int) := of_decide_eq_true (by first | (with_reducible assumption) | assumption)
                                            have q205 : x5_1 < (l1.length : Int) := of_decide_eq_true (by first | (with_reducible assumption) | assumption)
                                            obtain ⟨ad205, e205, hx205_0, hx205_1⟩ := at_T26 HR1.out x5_1 p205 q205
                                            obtain rfl : ad196 = ad205 := (by injection e205)
                                            replace p205 := eq_true p205
                                            replace q205 := eq_true q205
                                            go_wp2
                                            repeat (go_quiet (fail); try go_wp2)
                                            go_meet
                                            case rel => exact ⟨_, (((((rd_T26 l0 x6_3).f1) == ((rd_T26 l0 x5_1).f1)) != (((rd_T26 l1 x6_3).f1) == ((rd_T26 l1 x5_1).f1)))), (by first | rfl | (simp; done) | (simp [*]; done)), H', ⟨by have := HK1.out; have := HJ7.out; have := HK3.out; first | omega | exact Nat.le_refl _⟩, by repeat (first | exact Drawn0.refl _ | apply Drawn0.step)⟩
                                          · rw [if_neg c23] at H
                                            exact absurd H (by simp)
                                        · rw [if_neg c22] at H
                                          exact absurd H (by simp)
                                      · rw [if_neg c21] at H
                                        exact absurd H (by simp)
                                    · rw [if_neg c20] at H
                                      exact absurd H (by simp)
                                  · rw [if_neg c19] at H
                                    have c19b0 : (((rd_T26 l0 x6_3).f0) == 1) = false := beq_eq_false_iff_ne.mpr c19
                                    have c19b1 : (((rd_T26 l0 x6_3).f0) != 1) = true := bne_iff_ne.mpr c19
                                    by_cases c24 : ((rd_T26 l0 x6_3).f0) = 2
                                    · rw [if_pos c24] at H
                                      have c24b0 : (((rd_T26 l0 x6_3).f0) == 2) = true := beq_iff_eq.mpr c24
                                      have c24b1 : (((rd_T26 l0 x6_3).f0) != 2) = false := bne_eq_false_iff_eq.mpr c24
                                      clear c24
                                      by_cases c25 : 0 ≤ x5_1
                                      · rw [if_pos c25] at H
                                        have c25b0 : decide (0 ≤ x5_1) = true := decide_eq_true c25
                                        clear c25
                                        by_cases c26 : x5_1 < (l0.length : Int)
                                        · rw [if_pos c26] at H
                                          have c26b0 : decide (x5_1 < (l0.length : Int)) = true := decide_eq_true c26
                                          clear c26
                                          by_cases c27 : x6_3 < (l1.length : Int)
                                          · rw [if_pos c27] at H
                                            have c27b0 : decide (x6_3 < (l1.length : Int)) = true := decide_eq_true c27
                                            clear c27
                                            by_cases c28 : x5_1 < (l1.length : Int)
                                            · rw [if_pos c28] at H
                                              have c28b0 : decide (x5_1 < (l1.length : Int)) = true := decide_eq_true c28
                                              clear c28
                                              have H' := Aside0.mk H
                                              clear H
                                              have p201 : 0 ≤ (x6_3 : Int) := of_decide_eq_true (by first | (with_reducible assumption) | assumption)
                                              have q201 : x6_3 < (l0.length : Int) := of_decide_eq_true (by first | (with_reducible assumption) | assumption)
                                              obtain ⟨ad201, e201, hx201_0, hx201_1⟩ := at_T26 HR0.out x6_3 p201 q201
                                              obtain rfl : ad195 = ad201 := (by injection e201)
                                              replace p201 := eq_true p201
                                              replace q201 := eq_true q201
                                              have p206 : 0 ≤ (x6_3 : Int) := of_decide_eq_true (by first | (with_reducible assumption) | assumption)
                                              have q206 : x6_3 < (l0.length : Int) := of_decide_eq_true (by first | (with_reducible assumption) | assumption)
                                              obtain ⟨ad206, e206, hx206_0, hx206_1⟩ := at_T26 HR0.out x6_3 p206 q206
                                              obtain rfl : ad195 = ad206 := (by injection e206)
                                              replace p206 := eq_true p206
                                              replace q206 := eq_true q206
                                              have p207 : 0 ≤ (x6_3 : Int) := of_decide_eq_true (by first | (with_reducible assumption) | assumption)
                                              have q207 : x6_3 < (l0.length : Int) := of_decide_eq_true (by first | (with_reducible assumption) | assumption)
                                              obtain ⟨ad207, e207, hx207_0, hx207_1⟩ := at_T26 HR0.out x6_3 p207 q207
                                              obtain rfl : ad195 = ad207 := (by injection e207)
                                              replace p207 := eq_true p207
                                              replace q207 := eq_true q207
                                              have p208 : 0 ≤ (x5_1 : Int) := of_decide_eq_true (by first | (with_reducible assumption) | assumption)
                                              have q208 : x5_1 < (l0.length : Int) := of_decide_eq_true (by first | (with_reducible assumption) | assumption)
                                              obtain ⟨ad208, e208, hx208_0, hx208_1⟩ := at_T26 HR0.out x5_1 p208 q208
                                              obtain rfl : ad195 = ad208 := (by injection e208)
                                              replace p208 := eq_true p208
                                              replace q208 := eq_true q208
                                              have p209 : 0 ≤ (x6_3 : Int) := of_decide_eq_true (by first | (with_reducible assumption) | assumption)
                                              have q209 : x6_3 < (l1.length : Int) := of_decide_eq_true (by first | (with_reducible assumption) | assumption)
                                              obtain ⟨ad209, e209, hx209_0, hx209_1⟩ := at_T26 HR1.out x6_3 p209 q209
                                              obtain rfl : ad196 = ad209 := (by injection e209)
                                              replace p209 := eq_true p209
                                              replace q209 := eq_true q209
                                              have p210 : 0 ≤ (x5_1 : Int) := of_decide_eq_true (by first | (with_reducible assumption) | assumption)
                                              have q210 : x5_1 < (l1.length : Int) := of_decide_eq_true (by first | (with_reducible assumption) | assumption)
                                              obtain ⟨ad210, e210, hx210_0, hx210_1⟩ := at_T26 HR1.out x5_1 p210 q210
                                              obtain rfl : ad196 = ad210 := (by injection e210)
                                              replace p210 := eq_true p210
                                              replace q210 := eq_true q210
                                              go_wp2
                                              repeat (go_quiet (fail); try go_wp2)
                                              go_meet
                                              case rel => exact ⟨_, (((((rd_T26 l0 x6_3).f1) == ((rd_T26 l0 x5_1).f1)) != (((rd_T26 l1 x6_3).f1) == ((rd_T26 l1 x5_1).f1)))), (by first | rfl | (simp; done) | (simp [*]; done)), H', ⟨by have := HK1.out; have := HJ7.out; have := HK3.out; first | omega | exact Nat.le_refl _⟩, by repeat (first | exact Drawn0.refl _ | apply Drawn0.step)⟩
                                            · rw [if_neg c28] at H
                                              exact absurd H (by simp)
                                          · rw [if_neg c27] at H
                                            exact absurd H (by simp)
                                        · rw [if_neg c26] at H
                                          exact absurd H (by simp)
                                      · rw [if_neg c25] at H
                                        exact absurd H (by simp)
                                    · rw [if_neg c24] at H
                                      have c24b0 : (((rd_T26 l0 x6_3).f0) == 2) = false := beq_eq_false_iff_ne.mpr c24
                                      have c24b1 : (((rd_T26 l0 x6_3).f0) != 2) = true := bne_iff_ne.mpr c24
                                      have H' := Aside0.mk H
                                      clear H
                                      have p201 : 0 ≤ (x6_3 : Int) := of_decide_eq_true (by first | (with_reducible assumption) | assumption)
                                      have q201 : x6_3 < (l0.length : Int) := of_decide_eq_true (by first | (with_reducible assumption) | assumption)
                                      obtain ⟨ad201, e201, hx201_0, hx201_1⟩ := at_T26 HR0.out x6_3 p201 q201
                                      obtain rfl : ad195 = ad201 := (by injection e201)
                                      replace p201 := eq_true p201
                                      replace q201 := eq_true q201
                                      have p206 : 0 ≤ (x6_3 : Int) := of_decide_eq_true (by first | (with_reducible assumption) | assumption)
                                      have q206 : x6_3 < (l0.length : Int) := of_decide_eq_true (by first | (with_reducible assumption) | assumption)
                                      obtain ⟨ad206, e206, hx206_0, hx206_1⟩ := at_T26 HR0.out x6_3 p206 q206
                                      obtain rfl : ad195 = ad206 := (by injection e206)
                                      replace p206 := eq_true p206
                                      replace q206 := eq_true q206
                                      go_wp2
                                      repeat (go_quiet (fail); try go_wp2)
                                      go_meet
                                      case rel => exact ⟨_, (false), (by first | rfl | (simp; done) | (simp [*]; done)), H', ⟨by have := HK1.out; have := HJ7.out; have := HK3.out; first | omega | exact Nat.le_refl _⟩, by repeat (first | exact Drawn0.refl _ | apply Drawn0.step)⟩
                                · rw [if_neg c18] at H
                                  exact absurd H (by simp)
                              · rw [if_neg c17] at H
                                exact absurd H (by simp)
                            case rest =>
                              clear HC16
                              try clear c1
                              try clear p1
                              try clear q1
                              try clear hx1
                              try clear c2
                              try clear p2
                              try clear q2
                              try clear hx2
                              try clear c3
                              try clear c3b0
                              try clear c3b1
                              try clear c3b2
                              try clear c4
                              try clear c4b0
                              try clear c5
                              try clear c5b0
                              try clear c6
                              try clear c6b0
                              try clear p6
                              try clear c7
                              try clear c7b0
                              try clear c7b1
                              try clear c9
                              try clear c9b0
                              try clear c9b1
                              try clear c10
                              try clear c11
                              try clear c11b0
                              try clear c12
                              try clear c12b0
                              try clear c13
                              try clear c13b0
                              try clear c14
                              try clear c14b0
                              try clear c14b1
                              try clear c15
                              try clear c15b0
                              try clear c17
                              try clear c17b0
                              try clear c18
                              try clear c18b0
                              try clear c19
                              try clear c19b0
                              try clear c19b1
                              try clear p19
                              try clear q19
                              try clear hx19
                              try clear c20
                              try clear c20b0
                              try clear p20
                              try clear q20
                              try clear hx20
                              try clear c21
                              try clear c21b0
                              try clear p21
                              try clear q21
                              try clear hx21
                              try clear c22
                              try clear c22b0
                              try clear c23
                              try clear c23b0
                              try clear c24
                              try clear c24b0
                              try clear c24b1
                              try clear c25
                              try clear c25b0
                              try clear c26
                              try clear c26b0
                              try clear c27
                              try clear c27b0
                              try clear c28
                              try clear c28b0
                              try clear hx195_0
                              try clear hx195_1
                              try clear hx196_0
                              try clear hx196_1
                              try clear hx197_0
                              try clear hx197_1
                              try clear hx198_0
                              try clear hx198_1
                              try clear hx199_0
                              try clear hx199_1
                              try clear hx200_0
                              try clear hx200_1
                              try clear hx201_0
                              try clear hx201_1
                              try clear hx202_0
                              try clear hx202_1
                              try clear hx203_0
                              try clear hx203_1
                              try clear hx204_0
                              try clear hx204_1
                              try clear hx205_0
                              try clear hx205_1
                              try clear hx206_0
                              try clear hx206_1
                              try clear hx207_0
                              try clear hx207_1
                              try clear hx208_0
                              try clear hx208_1
                              try clear hx209_0
                              try clear hx209_1
                              try clear hx210_0
                              try clear hx210_1
                              try clear p1
                              try clear p195
                              try clear p196
                              try clear p197
                              try clear p198
                              try clear p199
                              try clear p2
                              try clear p200
                              try clear p201
                              try clear p202
                              try clear p203
                              try clear p204
                              try clear p205
                              try clear p206
                              try clear p207
                              try clear p208
                              try clear p209
                              try clear p210
                              try clear p6
                              try clear q1
                              try clear q195
                              try clear q196
                              try clear q197
                              try clear q198
                              try clear q199
                              try clear q2
                              try clear q200
                              try clear q201
                              try clear q202
                              try clear q203
                              try clear q204
                              try clear q205
                              try clear q206
                              try clear q207
                              try clear q208
                              try clear q209
                              try clear q210
                              obtain ⟨kq, x97_15, rfl, HA, HJ15, ⟨mc15, rfl⟩⟩ := hcut
                              cases kq with
                              | zero => exact absurd HA.out (by simp [drogueref20_Alike.j3])
                              | succ kj15 =>
                                have H := HA.out
                                clear HA
                                simp only [drogueref20_Alike.j3] at H
                                by_cases c29 : x97_15 = true
                                · subst c29
                                  have H1 : (some false) = some r := by rw [if_pos rfl] at H; exact H
                                  clear H
                                  have H := H1
                                  clear H1
                                  obtain rfl := Option.some.inj H
                                  go_wp2
                                  repeat (go_quiet (fail); try go_wp2)
                                  go_ret
                                  exact ⟨by first | rfl | (simp; done) | (simp [*]; done), by repeat (first | exact Drawn0.refl _ | apply Drawn0.step)⟩
                                · replace c29 := Bool.eq_false_iff.mpr c29
                                  subst c29
                                  have H1 : (drogueref20_Alike.l1 kj15 l0 l1 x5_1 (wrap64 (x6_3 + 1))) = some r := by rw [if_neg (show ¬ (false = true) by decide)] at H; exact H
                                  clear H
                                  have H := H1
                                  clear H1
                                  have H' := Aside0.mk H
                                  clear H
                                  go_wp2
                                  repeat (go_quiet (fail); try go_wp2)
                                  go_roundg kj15
                                  case measure => have := HK1.out; have := HJ7.out; have := HK3.out; have := HJ15.out; omega
                                  case rel => exact ⟨(wrap64 (x6_3 + 1)), (by first | rfl | (simp; done) | (simp [*]; done)), H', ⟨by have := HK1.out; have := HJ7.out; have := HK3.out; have := HJ15.out; omega⟩, by repeat (first | exact Drawn0.refl _ | apply Drawn0.step)⟩
                          · rw [if_neg c15] at H
                            have c15b0 : decide (x6_3 < x5_1) = false := decide_eq_false c15
                            clear c15
                            have H' := Aside0.mk H
                            clear H
                            go_wp2
                            repeat (go_quiet (fail); try go_wp2)
                            go_roundg k3
                            case measure => have := HK1.out; have := HJ7.out; have := HK3.out; omega
                            case rel => exact ⟨(wrap64 (x5_1 + 1)), (by first | rfl | (simp; done) | (simp [*]; done)), H', ⟨by have := HK1.out; have := HJ7.out; have := HK3.out; omega⟩, by repeat (first | exact Drawn0.refl _ | apply Drawn0.step)⟩
              · rw [if_neg c7] at H
                have c7b0 : (((rd_T26 l0 x5_1).f0) == ((rd_T26 l1 x5_1).f0)) = false := beq_eq_false_iff_ne.mpr c7
                have c7b1 : (((rd_T26 l0 x5_1).f0) != ((rd_T26 l1 x5_1).f0)) = true := bne_iff_ne.mpr c7
                obtain rfl := Option.some.inj H
                have p195 : 0 ≤ (x5_1 : Int) := of_decide_eq_true (by first | (with_reducible assumption) | assumption)
                have q195 : x5_1 < (l0.length : Int) := of_decide_eq_true (by first | (with_reducible assumption) | assumption)
                obtain ⟨ad195, e195, hx195_0, hx195_1⟩ := at_T26 HR0.out x5_1 p195 q195
                cases e195
                replace p195 := eq_true p195
                replace q195 := eq_true q195
                have p196 : 0 ≤ (x5_1 : Int) := of_decide_eq_true (by first | (with_reducible assumption) | assumption)
                have q196 : x5_1 < (l1.length : Int) := of_decide_eq_true (by first | (with_reducible assumption) | assumption)
                obtain ⟨ad196, e196, hx196_0, hx196_1⟩ := at_T26 HR1.out x5_1 p196 q196
                cases e196
                replace p196 := eq_true p196
                replace q196 := eq_true q196
                go_wp2
                repeat (go_quiet (fail); try go_wp2)
                go_ret
                exact ⟨by first | rfl | (simp; done) | (simp [*]; done), by repeat (first | exact Drawn0.refl _ | apply Drawn0.step)⟩
            · rw [if_neg c6] at H
              exact absurd H (by simp)
          · rw [if_neg c5] at H
            exact absurd H (by simp)
        · rw [if_neg c4] at H
          have c4b0 : decide (x5_1 < (l0.length : Int)) = false := decide_eq_false c4
          clear c4
          obtain rfl := Option.some.inj H
          go_wp2
          repeat (go_quiet (fail); try go_wp2)
          go_ret
          exact ⟨by first | rfl | (simp; done) | (simp [*]; done), by repeat (first | exact Drawn0.refl _ | apply Drawn0.step)⟩
  · rw [if_neg c3] at H
    have c3b0 : ((l0.length : Int) == (l1.length : Int)) = false := beq_eq_false_iff_ne.mpr c3
    have c3b1 : ((l0.length : Int) != (l1.length : Int)) = true := bne_iff_ne.mpr c3
    have c3b2 : (l0.length == l1.length) = false := by first | simpa using c3 | (simp at c3 ⊢; omega)
    obtain rfl := Option.some.inj H
    go_enter Tryd.func26, Tryd.ntmps26
    go_wp2
    repeat (go_quiet (fail); try go_wp2)
    go_ret
    exact ⟨by first | rfl | (simp; done) | (simp [*]; done), by repeat (first | exact Drawn0.refl _ | apply Drawn0.step)⟩

end Go.Proofs.YtlkppkmfpinocaaDoor.PT
