-- PRINTED by print.py (a twelfth state) out of the translation. Not trusted: Lean checks it.
import Derived.Test.YtnlbbpandnpgoaaDoorPLx0
import Derived.Test.YtnlbbpandnpgoaaDoorPLx1
import Derived.Test.YtnlbbpandnpgoaaDoorLexAlive
import Derived.Test.YtnlbbpandnpgoaaDoorLexGlobs
import Derived.Test.YtnlbbpandnpgoaaDoorLexLex
namespace Go.Proofs.YtnlbbpandnpgoaaDoor.PL
open Go.RowKit Go.Proofs.YtnlbbpandnpgoaaDoorW.PrintWords Go.Proofs.YtnlbbpandnpgoaaDoorW.PrintLast Go.Proofs.YtnlbbpandnpgoaaDoorW.PrintMore
attribute [local go_sem] max2_int min2_int max_two min_two max_three min_three max_four min_four   -- for this text's walks alone
set_option linter.unusedVariables false
set_option linter.unusedSimpArgs false

attribute [local go_sem high] eqA25
/-! ### droguelaw03_LexPlaces: function 5 -/
mutual
def droguelaw03_LexPlaces.l0 : Nat → ByteArray → List (S35) → Int → Int → Option (Bool)
  | 0, _, _, _, _ => none
  | k + 1, x0, x3, x5, x6 => if x6 ≤ (x3.length : Int) then (if x6 < (x3.length : Int) then (if 0 ≤ x6 then (droguelaw03_LexPlaces.j1 k x0 x3 x5 x6 ((rd_T35 x3 x6).f1)) else (none)) else (droguelaw03_LexPlaces.j1 k x0 x3 x5 x6 (x0.size : Int))) else (some true)
def droguelaw03_LexPlaces.j1 : Nat → ByteArray → List (S35) → Int → Int → Int → Option (Bool)
  | 0, _, _, _, _, _ => none
  | k + 1, x0, x3, x5, x6, x7 => if x7 < x5 then (droguelaw03_LexPlaces.j2 k x0 x3 x5 x6 x7 true) else (droguelaw03_LexPlaces.j2 k x0 x3 x5 x6 x7 (decide (x7 > (x0.size : Int))))
def droguelaw03_LexPlaces.j2 : Nat → ByteArray → List (S35) → Int → Int → Int → Bool → Option (Bool)
  | 0, _, _, _, _, _, _ => none
  | k + 1, x0, x3, x5, x6, x7, x64 => if x64 = true then (some false) else (droguelaw03_LexPlaces.l1 k x0 x3 x5 x6 x7 false x5)
def droguelaw03_LexPlaces.l1 : Nat → ByteArray → List (S35) → Int → Int → Int → Bool → Int → Option (Bool)
  | 0, _, _, _, _, _, _, _ => none
  | k + 1, x0, x3, x5, x6, x7, x8, x9 => if x9 < x7 then (if 0 ≤ x9 then (if x9 < (x0.size : Int) then (if (bt x0 x9) = 35 then (droguelaw03_LexPlaces.j4 k x0 x3 x5 x6 x7 true x9 (bt x0 x9)) else (droguelaw03_LexPlaces.j4 k x0 x3 x5 x6 x7 x8 x9 (bt x0 x9))) else (none)) else (none)) else (if x6 < (x3.length : Int) then (if 0 ≤ x6 then (if x8 = true then (some false) else (if (wrap64 (x7 + (((rd_T35 x3 x6).f2).size : Int))) > (x0.size : Int) then (some false) else (if 0 ≤ x7 then (if x7 ≤ (wrap64 (x7 + (((rd_T35 x3 x6).f2).size : Int))) then (if (wrap64 (x7 + (((rd_T35 x3 x6).f2).size : Int))) ≤ (x0.size : Int) then (if (x0.extract (x7 : Int).toNat ((wrap64 (x7 + (((rd_T35 x3 x6).f2).size : Int))) : Int).toNat).toList = ((rd_T35 x3 x6).f2).toList then (if (wrap64 (x7 + (((rd_T35 x3 x6).f2).size : Int))) = x7 then (some false) else (droguelaw03_LexPlaces.l0 k x0 x3 (wrap64 (x7 + (((rd_T35 x3 x6).f2).size : Int))) (wrap64 (x6 + 1)))) else (some false)) else (none)) else (none)) else (none)))) else (none)) else (droguelaw03_LexPlaces.l0 k x0 x3 x5 (wrap64 (x6 + 1))))
def droguelaw03_LexPlaces.j4 : Nat → ByteArray → List (S35) → Int → Int → Int → Bool → Int → Int → Option (Bool)
  | 0, _, _, _, _, _, _, _, _ => none
  | k + 1, x0, x3, x5, x6, x7, x8, x9, x10 => if x8 = true then (droguelaw03_LexPlaces.j5 k x0 x3 x5 x6 x7 x8 x9 x10 false) else (if x10 = 32 then (droguelaw03_LexPlaces.j5 k x0 x3 x5 x6 x7 x8 x9 x10 false) else (if x10 = 9 then (droguelaw03_LexPlaces.j5 k x0 x3 x5 x6 x7 x8 x9 x10 false) else (droguelaw03_LexPlaces.j5 k x0 x3 x5 x6 x7 x8 x9 x10 (x10 != 10))))
def droguelaw03_LexPlaces.j5 : Nat → ByteArray → List (S35) → Int → Int → Int → Bool → Int → Int → Bool → Option (Bool)
  | 0, _, _, _, _, _, _, _, _, _ => none
  | k + 1, x0, x3, x5, x6, x7, x8, x9, x10, x89 => if x89 = true then (some false) else (if x10 = 10 then (droguelaw03_LexPlaces.l1 k x0 x3 x5 x6 x7 false (wrap64 (x9 + 1))) else (droguelaw03_LexPlaces.l1 k x0 x3 x5 x6 x7 x8 (wrap64 (x9 + 1))))
end
def droguelaw03_LexPlaces.f (k : Nat) (a0 : ByteArray) : Option (Bool) := (droguelaw03_alive.f).bind fun t218 => (if t218 = true then (if (a0.size : Int) > 8000 then (some true) else ((lex_Lex.f a0).bind fun bt219 => (if (!(bt219.2.1 == 0) || (!(bt219.2.2 == 0))) = true then (if bt219.2.2 = 1 then (if bt219.2.1 ≥ 0 then (some (decide (bt219.2.1 < (a0.size : Int)))) else (some false)) else (some false)) else (droguelaw03_LexPlaces.l0 k a0 bt219.1 0 0)))) else (some false))
theorem droguelaw03_LexPlaces.mono_l : ∀ k, (∀ y0 y1 y2 y3, LeO (droguelaw03_LexPlaces.l0 k y0 y1 y2 y3) (droguelaw03_LexPlaces.l0 (k + 1) y0 y1 y2 y3)) ∧ (∀ y0 y1 y2 y3 y4, LeO (droguelaw03_LexPlaces.j1 k y0 y1 y2 y3 y4) (droguelaw03_LexPlaces.j1 (k + 1) y0 y1 y2 y3 y4)) ∧ (∀ y0 y1 y2 y3 y4 y5, LeO (droguelaw03_LexPlaces.j2 k y0 y1 y2 y3 y4 y5) (droguelaw03_LexPlaces.j2 (k + 1) y0 y1 y2 y3 y4 y5)) ∧ (∀ y0 y1 y2 y3 y4 y5 y6, LeO (droguelaw03_LexPlaces.l1 k y0 y1 y2 y3 y4 y5 y6) (droguelaw03_LexPlaces.l1 (k + 1) y0 y1 y2 y3 y4 y5 y6)) ∧ (∀ y0 y1 y2 y3 y4 y5 y6 y7, LeO (droguelaw03_LexPlaces.j4 k y0 y1 y2 y3 y4 y5 y6 y7) (droguelaw03_LexPlaces.j4 (k + 1) y0 y1 y2 y3 y4 y5 y6 y7)) ∧ (∀ y0 y1 y2 y3 y4 y5 y6 y7 y8, LeO (droguelaw03_LexPlaces.j5 k y0 y1 y2 y3 y4 y5 y6 y7 y8) (droguelaw03_LexPlaces.j5 (k + 1) y0 y1 y2 y3 y4 y5 y6 y7 y8))
  | 0 => ⟨fun _ _ _ _ r h => by simp [droguelaw03_LexPlaces.l0] at h, fun _ _ _ _ _ r h => by simp [droguelaw03_LexPlaces.j1] at h, fun _ _ _ _ _ _ r h => by simp [droguelaw03_LexPlaces.j2] at h, fun _ _ _ _ _ _ _ r h => by simp [droguelaw03_LexPlaces.l1] at h, fun _ _ _ _ _ _ _ _ r h => by simp [droguelaw03_LexPlaces.j4] at h, fun _ _ _ _ _ _ _ _ _ r h => by simp [droguelaw03_LexPlaces.j5] at h⟩
  | k + 1 => by
    obtain ⟨ih0, ih1, ih2, ih3, ih4, ih5⟩ := droguelaw03_LexPlaces.mono_l k
    refine ⟨?_, ?_, ?_, ?_, ?_, ?_⟩
    · intro y0 y1 y2 y3
      unfold droguelaw03_LexPlaces.l0
      repeat' first
      | (with_reducible exact ih0 _ _ _ _)
      | (with_reducible exact ih1 _ _ _ _ _)
      | (with_reducible exact ih2 _ _ _ _ _ _)
      | (with_reducible exact ih3 _ _ _ _ _ _ _)
      | (with_reducible exact ih4 _ _ _ _ _ _ _ _)
      | (with_reducible exact ih5 _ _ _ _ _ _ _ _ _)
      | (with_reducible exact LeO.refl _)
      | (with_reducible exact LeO.none _)
      | (with_reducible refine LeO.ite ?_ ?_)
      | (with_reducible refine LeO.bind ?_ (fun _ => ?_))
      | exact ih0 _ _ _ _
      | exact ih1 _ _ _ _ _
      | exact ih2 _ _ _ _ _ _
      | exact ih3 _ _ _ _ _ _ _
      | exact ih4 _ _ _ _ _ _ _ _
      | exact ih5 _ _ _ _ _ _ _ _ _
      | exact LeO.none _
      | refine LeO.ite ?_ ?_
      | refine LeO.bind ?_ (fun _ => ?_)
    · intro y0 y1 y2 y3 y4
      unfold droguelaw03_LexPlaces.j1
      repeat' first
      | (with_reducible exact ih0 _ _ _ _)
      | (with_reducible exact ih1 _ _ _ _ _)
      | (with_reducible exact ih2 _ _ _ _ _ _)
      | (with_reducible exact ih3 _ _ _ _ _ _ _)
      | (with_reducible exact ih4 _ _ _ _ _ _ _ _)
      | (with_reducible exact ih5 _ _ _ _ _ _ _ _ _)
      | (with_reducible exact LeO.refl _)
      | (with_reducible exact LeO.none _)
      | (with_reducible refine LeO.ite ?_ ?_)
      | (with_reducible refine LeO.bind ?_ (fun _ => ?_))
      | exact ih0 _ _ _ _
      | exact ih1 _ _ _ _ _
      | exact ih2 _ _ _ _ _ _
      | exact ih3 _ _ _ _ _ _ _
      | exact ih4 _ _ _ _ _ _ _ _
      | exact ih5 _ _ _ _ _ _ _ _ _
      | exact LeO.none _
      | refine LeO.ite ?_ ?_
      | refine LeO.bind ?_ (fun _ => ?_)
    · intro y0 y1 y2 y3 y4 y5
      unfold droguelaw03_LexPlaces.j2
      repeat' first
      | (with_reducible exact ih0 _ _ _ _)
      | (with_reducible exact ih1 _ _ _ _ _)
      | (with_reducible exact ih2 _ _ _ _ _ _)
      | (with_reducible exact ih3 _ _ _ _ _ _ _)
      | (with_reducible exact ih4 _ _ _ _ _ _ _ _)
      | (with_reducible exact ih5 _ _ _ _ _ _ _ _ _)
      | (with_reducible exact LeO.refl _)
      | (with_reducible exact LeO.none _)
      | (with_reducible refine LeO.ite ?_ ?_)
      | (with_reducible refine LeO.bind ?_ (fun _ => ?_))
      | exact ih0 _ _ _ _
      | exact ih1 _ _ _ _ _
      | exact ih2 _ _ _ _ _ _
      | exact ih3 _ _ _ _ _ _ _
      | exact ih4 _ _ _ _ _ _ _ _
      | exact ih5 _ _ _ _ _ _ _ _ _
      | exact LeO.none _
      | refine LeO.ite ?_ ?_
      | refine LeO.bind ?_ (fun _ => ?_)
    · intro y0 y1 y2 y3 y4 y5 y6
      unfold droguelaw03_LexPlaces.l1
      repeat' first
      | (with_reducible exact ih0 _ _ _ _)
      | (with_reducible exact ih1 _ _ _ _ _)
      | (with_reducible exact ih2 _ _ _ _ _ _)
      | (with_reducible exact ih3 _ _ _ _ _ _ _)
      | (with_reducible exact ih4 _ _ _ _ _ _ _ _)
      | (with_reducible exact ih5 _ _ _ _ _ _ _ _ _)
      | (with_reducible exact LeO.refl _)
      | (with_reducible exact LeO.none _)
      | (with_reducible refine LeO.ite ?_ ?_)
      | (with_reducible refine LeO.bind ?_ (fun _ => ?_))
      | exact ih0 _ _ _ _
      | exact ih1 _ _ _ _ _
      | exact ih2 _ _ _ _ _ _
      | exact ih3 _ _ _ _ _ _ _
      | exact ih4 _ _ _ _ _ _ _ _
      | exact ih5 _ _ _ _ _ _ _ _ _
      | exact LeO.none _
      | refine LeO.ite ?_ ?_
      | refine LeO.bind ?_ (fun _ => ?_)
    · intro y0 y1 y2 y3 y4 y5 y6 y7
      unfold droguelaw03_LexPlaces.j4
      repeat' first
      | (with_reducible exact ih0 _ _ _ _)
      | (with_reducible exact ih1 _ _ _ _ _)
      | (with_reducible exact ih2 _ _ _ _ _ _)
      | (with_reducible exact ih3 _ _ _ _ _ _ _)
      | (with_reducible exact ih4 _ _ _ _ _ _ _ _)
      | (with_reducible exact ih5 _ _ _ _ _ _ _ _ _)
      | (with_reducible exact LeO.refl _)
      | (with_reducible exact LeO.none _)
      | (with_reducible refine LeO.ite ?_ ?_)
      | (with_reducible refine LeO.bind ?_ (fun _ => ?_))
      | exact ih0 _ _ _ _
      | exact ih1 _ _ _ _ _
      | exact ih2 _ _ _ _ _ _
      | exact ih3 _ _ _ _ _ _ _
      | exact ih4 _ _ _ _ _ _ _ _
      | exact ih5 _ _ _ _ _ _ _ _ _
      | exact LeO.none _
      | refine LeO.ite ?_ ?_
      | refine LeO.bind ?_ (fun _ => ?_)
    · intro y0 y1 y2 y3 y4 y5 y6 y7 y8
      unfold droguelaw03_LexPlaces.j5
      repeat' first
      | (with_reducible exact ih0 _ _ _ _)
      | (with_reducible exact ih1 _ _ _ _ _)
      | (with_reducible exact ih2 _ _ _ _ _ _)
      | (with_reducible exact ih3 _ _ _ _ _ _ _)
      | (with_reducible exact ih4 _ _ _ _ _ _ _ _)
      | (with_reducible exact ih5 _ _ _ _ _ _ _ _ _)
      | (with_reducible exact LeO.refl _)
      | (with_reducible exact LeO.none _)
      | (with_reducible refine LeO.ite ?_ ?_)
      | (with_reducible refine LeO.bind ?_ (fun _ => ?_))
      | exact ih0 _ _ _ _
      | exact ih1 _ _ _ _ _
      | exact ih2 _ _ _ _ _ _
      | exact ih3 _ _ _ _ _ _ _
      | exact ih4 _ _ _ _ _ _ _ _
      | exact ih5 _ _ _ _ _ _ _ _ _
      | exact LeO.none _
      | refine LeO.ite ?_ ?_
      | refine LeO.bind ?_ (fun _ => ?_)
theorem droguelaw03_LexPlaces.mono : ∀ a0 k, LeO (droguelaw03_LexPlaces.f k a0) (droguelaw03_LexPlaces.f (k + 1) a0) := by
  intro a0 k
  obtain ⟨ih0, ih1, ih2, ih3, ih4, ih5⟩ := droguelaw03_LexPlaces.mono_l k
  unfold droguelaw03_LexPlaces.f
  repeat' first
      | (with_reducible exact ih0 _ _ _ _)
      | (with_reducible exact ih1 _ _ _ _ _)
      | (with_reducible exact ih2 _ _ _ _ _ _)
      | (with_reducible exact ih3 _ _ _ _ _ _ _)
      | (with_reducible exact ih4 _ _ _ _ _ _ _ _)
      | (with_reducible exact ih5 _ _ _ _ _ _ _ _ _)
      | (with_reducible exact LeO.refl _)
      | (with_reducible exact LeO.none _)
      | (with_reducible refine LeO.ite ?_ ?_)
      | (with_reducible refine LeO.bind ?_ (fun _ => ?_))
      | exact ih0 _ _ _ _
      | exact ih1 _ _ _ _ _
      | exact ih2 _ _ _ _ _ _
      | exact ih3 _ _ _ _ _ _ _
      | exact ih4 _ _ _ _ _ _ _ _
      | exact ih5 _ _ _ _ _ _ _ _ _
      | exact LeO.none _
      | refine LeO.ite ?_ ?_
      | refine LeO.bind ?_ (fun _ => ?_)
set_option maxHeartbeats 8000000 in
set_option maxRecDepth 100000 in
theorem droguelaw03_LexPlaces.calls (k : Nat) (a0 : ByteArray) (r : Bool) (w : World) (hG : Globs w) (h : droguelaw03_LexPlaces.f k a0 = some r) :
    Calls Tryd.prog 5 #[.string a0] w fun e w' => e = .returned (.bool r) ∧ Below w.heap.size w w' := by
  have hu25 := Tryd.underlying25
  have HG := Aside0.mk hG
  clear hG
  have HB := Aside0.mk (Below.refl w.heap.size w)
  have H : ((droguelaw03_alive.f).bind fun t218 => (if t218 = true then (if (a0.size : Int) > 8000 then (some true) else ((lex_Lex.f a0).bind fun bt219 => (if (!(bt219.2.1 == 0) || (!(bt219.2.2 == 0))) = true then (if bt219.2.2 = 1 then (if bt219.2.1 ≥ 0 then (some (decide (bt219.2.1 < (a0.size : Int)))) else (some false)) else (some false)) else (droguelaw03_LexPlaces.l0 k a0 bt219.1 0 0)))) else (some false))) = some r := h
  clear h
  replace H := Option.bind_eq_some_iff.mp H
  obtain ⟨t218, A20, H⟩ := H
  replace H : (if t218 = true then (if (a0.size : Int) > 8000 then (some true) else ((lex_Lex.f a0).bind fun bt219 => (if (!(bt219.2.1 == 0) || (!(bt219.2.2 == 0))) = true then (if bt219.2.2 = 1 then (if bt219.2.1 ≥ 0 then (some (decide (bt219.2.1 < (a0.size : Int)))) else (some false)) else (some false)) else (droguelaw03_LexPlaces.l0 k a0 bt219.1 0 0)))) else (some false)) = some r := H
  have A2 := Aside0.mk A20
  clear A20
  by_cases c3 : t218 = true
  · subst c3
    have H1 : (if (a0.size : Int) > 8000 then (some true) else ((lex_Lex.f a0).bind fun bt219 => (if (!(bt219.2.1 == 0) || (!(bt219.2.2 == 0))) = true then (if bt219.2.2 = 1 then (if bt219.2.1 ≥ 0 then (some (decide (bt219.2.1 < (a0.size : Int)))) else (some false)) else (some false)) else (droguelaw03_LexPlaces.l0 k a0 bt219.1 0 0)))) = some r := by rw [if_pos rfl] at H; exact H
    clear H
    have H := H1
    clear H1
    by_cases c4 : (a0.size : Int) > 8000
    · rw [if_pos c4] at H
      have c4b0 : decide (8000 < (a0.size : Int)) = true := decide_eq_true c4
      have c4b1 : decide (8000 < a0.size) = true := decide_eq_true (by omega)
      clear c4
      obtain rfl := Option.some.inj H
      go_enter Tryd.func5, Tryd.ntmps5
      go_wp2_with (first | (go_at_call 9; (with_reducible refine (droguelaw03_alive.calls  true _ ?side1 A2.out).mono ?_); (case side1 => exact Globs.below HG.out (by repeat (first | (with_reducible first | exact HB.out | apply below_alloc | apply pw_below_drewN | apply below_drew1) | exact HB.out))); rintro e w5 ⟨rfl, hb⟩; have n0_ := Aside0.mk (below_step (by repeat (first | (with_reducible first | exact HB.out | apply below_alloc | apply pw_below_drewN | apply below_drew1) | exact HB.out)) hb); clear HB; have HB := n0_; clear n0_; (try clear hb); (try clear hb2); (try clear hk); (try clear hi)))
      repeat (go_quiet (first | (go_at_call 9; (with_reducible refine (droguelaw03_alive.calls  true _ ?side1 A2.out).mono ?_); (case side1 => exact Globs.below HG.out (by repeat (first | (with_reducible first | exact HB.out | apply below_alloc | apply pw_below_drewN | apply below_drew1) | exact HB.out))); rintro e w5 ⟨rfl, hb⟩; have n0_ := Aside0.mk (below_step (by repeat (first | (with_reducible first | exact HB.out | apply below_alloc | apply pw_below_drewN | apply below_drew1) | exact HB.out)) hb); clear HB; have HB := n0_; clear n0_; (try clear hb); (try clear hb2); (try clear hk); (try clear hi))); try go_wp2_with (first | (go_at_call 9; (with_reducible refine (droguelaw03_alive.calls  true _ ?side1 A2.out).mono ?_); (case side1 => exact Globs.below HG.out (by repeat (first | (with_reducible first | exact HB.out | apply below_alloc | apply pw_below_drewN | apply below_drew1) | exact HB.out))); rintro e w5 ⟨rfl, hb⟩; have n0_ := Aside0.mk (below_step (by repeat (first | (with_reducible first | exact HB.out | apply below_alloc | apply pw_below_drewN | apply below_drew1) | exact HB.out)) hb); clear HB; have HB := n0_; clear n0_; (try clear hb); (try clear hb2); (try clear hk); (try clear hi))))
      go_ret
      exact ⟨by first | rfl | (simp [errW_none, errW_some] <;> rfl) | (simp [*, errW_none, errW_some] <;> rfl), by repeat (first | (with_reducible first | exact HB.out | apply below_alloc | apply pw_below_drewN | apply below_drew1) | exact HB.out)⟩
    · rw [if_neg c4] at H
      have c4b0 : decide (8000 < (a0.size : Int)) = false := decide_eq_false c4
      have c4b1 : decide (8000 < a0.size) = false := decide_eq_false (by omega)
      clear c4
      replace H := Option.bind_eq_some_iff.mp H
      obtain ⟨⟨t219, t222, t223⟩, A60, H⟩ := H
      replace H : (if (!(t222 == 0) || (!(t223 == 0))) = true then (if t223 = 1 then (if t222 ≥ 0 then (some (decide (t222 < (a0.size : Int)))) else (some false)) else (some false)) else (droguelaw03_LexPlaces.l0 k a0 t219 0 0)) = some r := H
      have A6 := Aside0.mk A60
      clear A60
      by_cases c7 : (!(t222 == 0) || (!(t223 == 0))) = true
      · rw [if_pos c7] at H
        have c7b0 : (!(t222 == 0) || (!(t223 == 0))) = true := c7
        clear c7
        by_cases c8 : t223 = 1
        · rw [if_pos c8] at H
          have c8b0 : (t223 == 1) = true := beq_iff_eq.mpr c8
          have c8b1 : (t223 != 1) = false := bne_eq_false_iff_eq.mpr c8
          clear c8
          by_cases c9 : t222 ≥ 0
          · rw [if_pos c9] at H
            have c9b0 : decide (0 ≤ t222) = true := decide_eq_true c9
            clear c9
            obtain rfl := Option.some.inj H
            go_enter Tryd.func5, Tryd.ntmps5
            go_wp2_with (first | (go_at_call 9; (with_reducible refine (droguelaw03_alive.calls  true _ ?side1 A2.out).mono ?_); (case side1 => exact Globs.below HG.out (by repeat (first | (with_reducible first | exact HB.out | apply below_alloc | apply pw_below_drewN | apply below_drew1) | exact HB.out))); rintro e w10 ⟨rfl, hb⟩; have n0_ := Aside0.mk (below_step (by repeat (first | (with_reducible first | exact HB.out | apply below_alloc | apply pw_below_drewN | apply below_drew1) | exact HB.out)) hb); clear HB; have HB := n0_; clear n0_; (try clear hb); (try clear hb2); (try clear hk); (try clear hi)) | (go_at_call 10; (with_reducible refine (lex_Lex.calls a0 t219 t222 t223 _ ?side1 A6.out).mono ?_); (case side1 => exact Globs.below HG.out (by repeat (first | (with_reducible first | exact HB.out | apply below_alloc | apply pw_below_drewN | apply below_drew1) | exact HB.out))); rintro e w11 ⟨v220, rfl, ho0, hb⟩; have n0_ := Aside0.mk (Kd.R_lower ho0 (below_size (by repeat (first | (with_reducible first | exact HB.out | apply below_alloc | apply pw_below_drewN | apply below_drew1) | exact HB.out)))); have n1_ := Aside0.mk (below_step (by repeat (first | (with_reducible first | exact HB.out | apply below_alloc | apply pw_below_drewN | apply below_drew1) | exact HB.out)) hb); clear HB; have HO221 := n0_; have HB := n1_; clear n0_ n1_; (try clear hb); (try clear hb2); (try clear hk); (try clear hi); (try clear ho0)) | ((with_reducible refine gate_dst (N := 4) rfl ?_); (try (refine gate_guard (by rfl) ?_; dsimp only)); refine box_event ?hg (N := 4) ?hd (cs := #[.int .i64 0, .int .i64 0]) (t := 25) ?hr ?_; (case hd => rfl); (case hg => rfl); (case hr => first | (go_simp; done) | (go_simp; rfl)); intro gb224 hg w12 hbox hb; have n0_ := Aside0.mk (Kd.R_below (by (with_reducible repeat (first | apply Kd.R_alloc | apply Kd.R_drewN | apply Kd.R_drew)); exact HO221.out) hb); have n1_ := Aside0.mk (below_step (by repeat (first | (with_reducible first | exact HB.out | apply below_alloc | apply pw_below_drewN | apply below_drew1) | exact HB.out)) hb); have n2_ := Aside0.mk (hbox); have n3_ := Aside0.mk ((by rw [hg]; exact (below_size (by repeat (first | (with_reducible first | exact HB.out | apply below_alloc | apply pw_below_drewN | apply below_drew1) | exact HB.out))) : w.heap.size ≤ gb224)); have n4_ := Aside0.mk ((by rw [hg]; exact (below_size (by repeat (first | (with_reducible first | exact HB.out | apply below_alloc | apply pw_below_drewN | apply below_drew1) | exact HB.out))) : w.heap.size ≤ gb224)); clear HO221; clear HB; have HO221 := n0_; have HB := n1_; have BK224 := n2_; have GW224 := n3_; have GE224 := n4_; clear n0_ n1_ n2_ n3_ n4_; clear hb hbox hg; have hcz13_0 : w12.cell? ⟨gb224, 0, none⟩ = some (.int .i64 0) := (blk_cell BK224.out 0).trans rfl; have hcz13_1 : w12.cell? ⟨gb224, 1, none⟩ = some (.int .i64 0) := (blk_cell BK224.out 1).trans rfl; have hfz13_0 := blk_frozen BK224.out 0; have hfz13_1 := blk_frozen BK224.out 1))
            repeat (go_quiet (first | (go_at_call 9; (with_reducible refine (droguelaw03_alive.calls  true _ ?side1 A2.out).mono ?_); (case side1 => exact Globs.below HG.out (by repeat (first | (with_reducible first | exact HB.out | apply below_alloc | apply pw_below_drewN | apply below_drew1) | exact HB.out))); rintro e w10 ⟨rfl, hb⟩; have n0_ := Aside0.mk (below_step (by repeat (first | (with_reducible first | exact HB.out | apply below_alloc | apply pw_below_drewN | apply below_drew1) | exact HB.out)) hb); clear HB; have HB := n0_; clear n0_; (try clear hb); (try clear hb2); (try clear hk); (try clear hi)) | (go_at_call 10; (with_reducible refine (lex_Lex.calls a0 t219 t222 t223 _ ?side1 A6.out).mono ?_); (case side1 => exact Globs.below HG.out (by repeat (first | (with_reducible first | exact HB.out | apply below_alloc | apply pw_below_drewN | apply below_drew1) | exact HB.out))); rintro e w11 ⟨v220, rfl, ho0, hb⟩; have n0_ := Aside0.mk (Kd.R_lower ho0 (below_size (by repeat (first | (with_reducible first | exact HB.out | apply below_alloc | apply pw_below_drewN | apply below_drew1) | exact HB.out)))); have n1_ := Aside0.mk (below_step (by repeat (first | (with_reducible first | exact HB.out | apply below_alloc | apply pw_below_drewN | apply below_drew1) | exact HB.out)) hb); clear HB; have HO221 := n0_; have HB := n1_; clear n0_ n1_; (try clear hb); (try clear hb2); (try clear hk); (try clear hi); (try clear ho0)) | ((with_reducible refine gate_dst (N := 4) rfl ?_); (try (refine gate_guard (by rfl) ?_; dsimp only)); refine box_event ?hg (N := 4) ?hd (cs := #[.int .i64 0, .int .i64 0]) (t := 25) ?hr ?_; (case hd => rfl); (case hg => rfl); (case hr => first | (go_simp; done) | (go_simp; rfl)); intro gb224 hg w12 hbox hb; have n0_ := Aside0.mk (Kd.R_below (by (with_reducible repeat (first | apply Kd.R_alloc | apply Kd.R_drewN | apply Kd.R_drew)); exact HO221.out) hb); have n1_ := Aside0.mk (below_step (by repeat (first | (with_reducible first | exact HB.out | apply below_alloc | apply pw_below_drewN | apply below_drew1) | exact HB.out)) hb); have n2_ := Aside0.mk (hbox); have n3_ := Aside0.mk ((by rw [hg]; exact (below_size (by repeat (first | (with_reducible first | exact HB.out | apply below_alloc | apply pw_below_drewN | apply below_drew1) | exact HB.out))) : w.heap.size ≤ gb224)); have n4_ := Aside0.mk ((by rw [hg]; exact (below_size (by repeat (first | (with_reducible first | exact HB.out | apply below_alloc | apply pw_below_drewN | apply below_drew1) | exact HB.out))) : w.heap.size ≤ gb224)); clear HO221; clear HB; have HO221 := n0_; have HB := n1_; have BK224 := n2_; have GW224 := n3_; have GE224 := n4_; clear n0_ n1_ n2_ n3_ n4_; clear hb hbox hg; have hcz13_0 : w12.cell? ⟨gb224, 0, none⟩ = some (.int .i64 0) := (blk_cell BK224.out 0).trans rfl; have hcz13_1 : w12.cell? ⟨gb224, 1, none⟩ = some (.int .i64 0) := (blk_cell BK224.out 1).trans rfl; have hfz13_0 := blk_frozen BK224.out 0; have hfz13_1 := blk_frozen BK224.out 1)); try go_wp2_with (first | (go_at_call 9; (with_reducible refine (droguelaw03_alive.calls  true _ ?side1 A2.out).mono ?_); (case side1 => exact Globs.below HG.out (by repeat (first | (with_reducible first | exact HB.out | apply below_alloc | apply pw_below_drewN | apply below_drew1) | exact HB.out))); rintro e w10 ⟨rfl, hb⟩; have n0_ := Aside0.mk (below_step (by repeat (first | (with_reducible first | exact HB.out | apply below_alloc | apply pw_below_drewN | apply below_drew1) | exact HB.out)) hb); clear HB; have HB := n0_; clear n0_; (try clear hb); (try clear hb2); (try clear hk); (try clear hi)) | (go_at_call 10; (with_reducible refine (lex_Lex.calls a0 t219 t222 t223 _ ?side1 A6.out).mono ?_); (case side1 => exact Globs.below HG.out (by repeat (first | (with_reducible first | exact HB.out | apply below_alloc | apply pw_below_drewN | apply below_drew1) | exact HB.out))); rintro e w11 ⟨v220, rfl, ho0, hb⟩; have n0_ := Aside0.mk (Kd.R_lower ho0 (below_size (by repeat (first | (with_reducible first | exact HB.out | apply below_alloc | apply pw_below_drewN | apply below_drew1) | exact HB.out)))); have n1_ := Aside0.mk (below_step (by repeat (first | (with_reducible first | exact HB.out | apply below_alloc | apply pw_below_drewN | apply below_drew1) | exact HB.out)) hb); clear HB; have HO221 := n0_; have HB := n1_; clear n0_ n1_; (try clear hb); (try clear hb2); (try clear hk); (try clear hi); (try clear ho0)) | ((with_reducible refine gate_dst (N := 4) rfl ?_); (try (refine gate_guard (by rfl) ?_; dsimp only)); refine box_event ?hg (N := 4) ?hd (cs := #[.int .i64 0, .int .i64 0]) (t := 25) ?hr ?_; (case hd => rfl); (case hg => rfl); (case hr => first | (go_simp; done) | (go_simp; rfl)); intro gb224 hg w12 hbox hb; have n0_ := Aside0.mk (Kd.R_below (by (with_reducible repeat (first | apply Kd.R_alloc | apply Kd.R_drewN | apply Kd.R_drew)); exact HO221.out) hb); have n1_ := Aside0.mk (below_step (by repeat (first | (with_reducible first | exact HB.out | apply below_alloc | apply pw_below_drewN | apply below_drew1) | exact HB.out)) hb); have n2_ := Aside0.mk (hbox); have n3_ := Aside0.mk ((by rw [hg]; exact (below_size (by repeat (first | (with_reducible first | exact HB.out | apply below_alloc | apply pw_below_drewN | apply below_drew1) | exact HB.out))) : w.heap.size ≤ gb224)); have n4_ := Aside0.mk ((by rw [hg]; exact (below_size (by repeat (first | (with_reducible first | exact HB.out | apply below_alloc | apply pw_below_drewN | apply below_drew1) | exact HB.out))) : w.heap.size ≤ gb224)); clear HO221; clear HB; have HO221 := n0_; have HB := n1_; have BK224 := n2_; have GW224 := n3_; have GE224 := n4_; clear n0_ n1_ n2_ n3_ n4_; clear hb hbox hg; have hcz13_0 : w12.cell? ⟨gb224, 0, none⟩ = some (.int .i64 0) := (blk_cell BK224.out 0).trans rfl; have hcz13_1 : w12.cell? ⟨gb224, 1, none⟩ = some (.int .i64 0) := (blk_cell BK224.out 1).trans rfl; have hfz13_0 := blk_frozen BK224.out 0; have hfz13_1 := blk_frozen BK224.out 1)))
            go_ret
            exact ⟨by first | rfl | (simp [errW_none, errW_some] <;> rfl) | (simp [*, errW_none, errW_some] <;> rfl), by repeat (first | (with_reducible first | exact HB.out | apply below_alloc | apply pw_below_drewN | apply below_drew1 | refine below_set ?_ GE224.out) | exact HB.out)⟩
          · rw [if_neg c9] at H
            have c9b0 : decide (0 ≤ t222) = false := decide_eq_false c9
            clear c9
            obtain rfl := Option.some.inj H
            go_enter Tryd.func5, Tryd.ntmps5
            go_wp2_with (first | (go_at_call 9; (with_reducible refine (droguelaw03_alive.calls  true _ ?side1 A2.out).mono ?_); (case side1 => exact Globs.below HG.out (by repeat (first | (with_reducible first | exact HB.out | apply below_alloc | apply pw_below_drewN | apply below_drew1) | exact HB.out))); rintro e w14 ⟨rfl, hb⟩; have n0_ := Aside0.mk (below_step (by repeat (first | (with_reducible first | exact HB.out | apply below_alloc | apply pw_below_drewN | apply below_drew1) | exact HB.out)) hb); clear HB; have HB := n0_; clear n0_; (try clear hb); (try clear hb2); (try clear hk); (try clear hi)) | (go_at_call 10; (with_reducible refine (lex_Lex.calls a0 t219 t222 t223 _ ?side1 A6.out).mono ?_); (case side1 => exact Globs.below HG.out (by repeat (first | (with_reducible first | exact HB.out | apply below_alloc | apply pw_below_drewN | apply below_drew1) | exact HB.out))); rintro e w15 ⟨v220, rfl, ho0, hb⟩; have n0_ := Aside0.mk (Kd.R_lower ho0 (below_size (by repeat (first | (with_reducible first | exact HB.out | apply below_alloc | apply pw_below_drewN | apply below_drew1) | exact HB.out)))); have n1_ := Aside0.mk (below_step (by repeat (first | (with_reducible first | exact HB.out | apply below_alloc | apply pw_below_drewN | apply below_drew1) | exact HB.out)) hb); clear HB; have HO221 := n0_; have HB := n1_; clear n0_ n1_; (try clear hb); (try clear hb2); (try clear hk); (try clear hi); (try clear ho0)) | ((with_reducible refine gate_dst (N := 4) rfl ?_); (try (refine gate_guard (by rfl) ?_; dsimp only)); refine box_event ?hg (N := 4) ?hd (cs := #[.int .i64 0, .int .i64 0]) (t := 25) ?hr ?_; (case hd => rfl); (case hg => rfl); (case hr => first | (go_simp; done) | (go_simp; rfl)); intro gb224 hg w16 hbox hb; have n0_ := Aside0.mk (Kd.R_below (by (with_reducible repeat (first | apply Kd.R_alloc | apply Kd.R_drewN | apply Kd.R_drew)); exact HO221.out) hb); have n1_ := Aside0.mk (below_step (by repeat (first | (with_reducible first | exact HB.out | apply below_alloc | apply pw_below_drewN | apply below_drew1) | exact HB.out)) hb); have n2_ := Aside0.mk (hbox); have n3_ := Aside0.mk ((by rw [hg]; exact (below_size (by repeat (first | (with_reducible first | exact HB.out | apply below_alloc | apply pw_below_drewN | apply below_drew1) | exact HB.out))) : w.heap.size ≤ gb224)); have n4_ := Aside0.mk ((by rw [hg]; exact (below_size (by repeat (first | (with_reducible first | exact HB.out | apply below_alloc | apply pw_below_drewN | apply below_drew1) | exact HB.out))) : w.heap.size ≤ gb224)); clear HO221; clear HB; have HO221 := n0_; have HB := n1_; have BK224 := n2_; have GW224 := n3_; have GE224 := n4_; clear n0_ n1_ n2_ n3_ n4_; clear hb hbox hg; have hcz17_0 : w16.cell? ⟨gb224, 0, none⟩ = some (.int .i64 0) := (blk_cell BK224.out 0).trans rfl; have hcz17_1 : w16.cell? ⟨gb224, 1, none⟩ = some (.int .i64 0) := (blk_cell BK224.out 1).trans rfl; have hfz17_0 := blk_frozen BK224.out 0; have hfz17_1 := blk_frozen BK224.out 1))
            repeat (go_quiet (first | (go_at_call 9; (with_reducible refine (droguelaw03_alive.calls  true _ ?side1 A2.out).mono ?_); (case side1 => exact Globs.below HG.out (by repeat (first | (with_reducible first | exact HB.out | apply below_alloc | apply pw_below_drewN | apply below_drew1) | exact HB.out))); rintro e w14 ⟨rfl, hb⟩; have n0_ := Aside0.mk (below_step (by repeat (first | (with_reducible first | exact HB.out | apply below_alloc | apply pw_below_drewN | apply below_drew1) | exact HB.out)) hb); clear HB; have HB := n0_; clear n0_; (try clear hb); (try clear hb2); (try clear hk); (try clear hi)) | (go_at_call 10; (with_reducible refine (lex_Lex.calls a0 t219 t222 t223 _ ?side1 A6.out).mono ?_); (case side1 => exact Globs.below HG.out (by repeat (first | (with_reducible first | exact HB.out | apply below_alloc | apply pw_below_drewN | apply below_drew1) | exact HB.out))); rintro e w15 ⟨v220, rfl, ho0, hb⟩; have n0_ := Aside0.mk (Kd.R_lower ho0 (below_size (by repeat (first | (with_reducible first | exact HB.out | apply below_alloc | apply pw_below_drewN | apply below_drew1) | exact HB.out)))); have n1_ := Aside0.mk (below_step (by repeat (first | (with_reducible first | exact HB.out | apply below_alloc | apply pw_below_drewN | apply below_drew1) | exact HB.out)) hb); clear HB; have HO221 := n0_; have HB := n1_; clear n0_ n1_; (try clear hb); (try clear hb2); (try clear hk); (try clear hi); (try clear ho0)) | ((with_reducible refine gate_dst (N := 4) rfl ?_); (try (refine gate_guard (by rfl) ?_; dsimp only)); refine box_event ?hg (N := 4) ?hd (cs := #[.int .i64 0, .int .i64 0]) (t := 25) ?hr ?_; (case hd => rfl); (case hg => rfl); (case hr => first | (go_simp; done) | (go_simp; rfl)); intro gb224 hg w16 hbox hb; have n0_ := Aside0.mk (Kd.R_below (by (with_reducible repeat (first | apply Kd.R_alloc | apply Kd.R_drewN | apply Kd.R_drew)); exact HO221.out) hb); have n1_ := Aside0.mk (below_step (by repeat (first | (with_reducible first | exact HB.out | apply below_alloc | apply pw_below_drewN | apply below_drew1) | exact HB.out)) hb); have n2_ := Aside0.mk (hbox); have n3_ := Aside0.mk ((by rw [hg]; exact (below_size (by repeat (first | (with_reducible first | exact HB.out | apply below_alloc | apply pw_below_drewN | apply below_drew1) | exact HB.out))) : w.heap.size ≤ gb224)); have n4_ := Aside0.mk ((by rw [hg]; exact (below_size (by repeat (first | (with_reducible first | exact HB.out | apply below_alloc | apply pw_below_drewN | apply below_drew1) | exact HB.out))) : w.heap.size ≤ gb224)); clear HO221; clear HB; have HO221 := n0_; have HB := n1_; have BK224 := n2_; have GW224 := n3_; have GE224 := n4_; clear n0_ n1_ n2_ n3_ n4_; clear hb hbox hg; have hcz17_0 : w16.cell? ⟨gb224, 0, none⟩ = some (.int .i64 0) := (blk_cell BK224.out 0).trans rfl; have hcz17_1 : w16.cell? ⟨gb224, 1, none⟩ = some (.int .i64 0) := (blk_cell BK224.out 1).trans rfl; have hfz17_0 := blk_frozen BK224.out 0; have hfz17_1 := blk_frozen BK224.out 1)); try go_wp2_with (first | (go_at_call 9; (with_reducible refine (droguelaw03_alive.calls  true _ ?side1 A2.out).mono ?_); (case side1 => exact Globs.below HG.out (by repeat (first | (with_reducible first | exact HB.out | apply below_alloc | apply pw_below_drewN | apply below_drew1) | exact HB.out))); rintro e w14 ⟨rfl, hb⟩; have n0_ := Aside0.mk (below_step (by repeat (first | (with_reducible first | exact HB.out | apply below_alloc | apply pw_below_drewN | apply below_drew1) | exact HB.out)) hb); clear HB; have HB := n0_; clear n0_; (try clear hb); (try clear hb2); (try clear hk); (try clear hi)) | (go_at_call 10; (with_reducible refine (lex_Lex.calls a0 t219 t222 t223 _ ?side1 A6.out).mono ?_); (case side1 => exact Globs.below HG.out (by repeat (first | (with_reducible first | exact HB.out | apply below_alloc | apply pw_below_drewN | apply below_drew1) | exact HB.out))); rintro e w15 ⟨v220, rfl, ho0, hb⟩; have n0_ := Aside0.mk (Kd.R_lower ho0 (below_size (by repeat (first | (with_reducible first | exact HB.out | apply below_alloc | apply pw_below_drewN | apply below_drew1) | exact HB.out)))); have n1_ := Aside0.mk (below_step (by repeat (first | (with_reducible first | exact HB.out | apply below_alloc | apply pw_below_drewN | apply below_drew1) | exact HB.out)) hb); clear HB; have HO221 := n0_; have HB := n1_; clear n0_ n1_; (try clear hb); (try clear hb2); (try clear hk); (try clear hi); (try clear ho0)) | ((with_reducible refine gate_dst (N := 4) rfl ?_); (try (refine gate_guard (by rfl) ?_; dsimp only)); refine box_event ?hg (N := 4) ?hd (cs := #[.int .i64 0, .int .i64 0]) (t := 25) ?hr ?_; (case hd => rfl); (case hg => rfl); (case hr => first | (go_simp; done) | (go_simp; rfl)); intro gb224 hg w16 hbox hb; have n0_ := Aside0.mk (Kd.R_below (by (with_reducible repeat (first | apply Kd.R_alloc | apply Kd.R_drewN | apply Kd.R_drew)); exact HO221.out) hb); have n1_ := Aside0.mk (below_step (by repeat (first | (with_reducible first | exact HB.out | apply below_alloc | apply pw_below_drewN | apply below_drew1) | exact HB.out)) hb); have n2_ := Aside0.mk (hbox); have n3_ := Aside0.mk ((by rw [hg]; exact (below_size (by repeat (first | (with_reducible first | exact HB.out | apply below_alloc | apply pw_below_drewN | apply below_drew1) | exact HB.out))) : w.heap.size ≤ gb224)); have n4_ := Aside0.mk ((by rw [hg]; exact (below_size (by repeat (first | (with_reducible first | exact HB.out | apply below_alloc | apply pw_below_drewN | apply below_drew1) | exact HB.out))) : w.heap.size ≤ gb224)); clear HO221; clear HB; have HO221 := n0_; have HB := n1_; have BK224 := n2_; have GW224 := n3_; have GE224 := n4_; clear n0_ n1_ n2_ n3_ n4_; clear hb hbox hg; have hcz17_0 : w16.cell? ⟨gb224, 0, none⟩ = some (.int .i64 0) := (blk_cell BK224.out 0).trans rfl; have hcz17_1 : w16.cell? ⟨gb224, 1, none⟩ = some (.int .i64 0) := (blk_cell BK224.out 1).trans rfl; have hfz17_0 := blk_frozen BK224.out 0; have hfz17_1 := blk_frozen BK224.out 1)))
            go_ret
            exact ⟨by first | rfl | (simp [errW_none, errW_some] <;> rfl) | (simp [*, errW_none, errW_some] <;> rfl), by repeat (first | (with_reducible first | exact HB.out | apply below_alloc | apply pw_below_drewN | apply below_drew1 | refine below_set ?_ GE224.out) | exact HB.out)⟩
        · rw [if_neg c8] at H
          have c8b0 : (t223 == 1) = false := beq_eq_false_iff_ne.mpr c8
          have c8b1 : (t223 != 1) = true := bne_iff_ne.mpr c8
          obtain rfl := Option.some.inj H
          go_enter Tryd.func5, Tryd.ntmps5
          go_wp2_with (first | (go_at_call 9; (with_reducible refine (droguelaw03_alive.calls  true _ ?side1 A2.out).mono ?_); (case side1 => exact Globs.below HG.out (by repeat (first | (with_reducible first | exact HB.out | apply below_alloc | apply pw_below_drewN | apply below_drew1) | exact HB.out))); rintro e w18 ⟨rfl, hb⟩; have n0_ := Aside0.mk (below_step (by repeat (first | (with_reducible first | exact HB.out | apply below_alloc | apply pw_below_drewN | apply below_drew1) | exact HB.out)) hb); clear HB; have HB := n0_; clear n0_; (try clear hb); (try clear hb2); (try clear hk); (try clear hi)) | (go_at_call 10; (with_reducible refine (lex_Lex.calls a0 t219 t222 t223 _ ?side1 A6.out).mono ?_); (case side1 => exact Globs.below HG.out (by repeat (first | (with_reducible first | exact HB.out | apply below_alloc | apply pw_below_drewN | apply below_drew1) | exact HB.out))); rintro e w19 ⟨v220, rfl, ho0, hb⟩; have n0_ := Aside0.mk (Kd.R_lower ho0 (below_size (by repeat (first | (with_reducible first | exact HB.out | apply below_alloc | apply pw_below_drewN | apply below_drew1) | exact HB.out)))); have n1_ := Aside0.mk (below_step (by repeat (first | (with_reducible first | exact HB.out | apply below_alloc | apply pw_below_drewN | apply below_drew1) | exact HB.out)) hb); clear HB; have HO221 := n0_; have HB := n1_; clear n0_ n1_; (try clear hb); (try clear hb2); (try clear hk); (try clear hi); (try clear ho0)) | ((with_reducible refine gate_dst (N := 4) rfl ?_); (try (refine gate_guard (by rfl) ?_; dsimp only)); refine box_event ?hg (N := 4) ?hd (cs := #[.int .i64 0, .int .i64 0]) (t := 25) ?hr ?_; (case hd => rfl); (case hg => rfl); (case hr => first | (go_simp; done) | (go_simp; rfl)); intro gb224 hg w20 hbox hb; have n0_ := Aside0.mk (Kd.R_below (by (with_reducible repeat (first | apply Kd.R_alloc | apply Kd.R_drewN | apply Kd.R_drew)); exact HO221.out) hb); have n1_ := Aside0.mk (below_step (by repeat (first | (with_reducible first | exact HB.out | apply below_alloc | apply pw_below_drewN | apply below_drew1) | exact HB.out)) hb); have n2_ := Aside0.mk (hbox); have n3_ := Aside0.mk ((by rw [hg]; exact (below_size (by repeat (first | (with_reducible first | exact HB.out | apply below_alloc | apply pw_below_drewN | apply below_drew1) | exact HB.out))) : w.heap.size ≤ gb224)); have n4_ := Aside0.mk ((by rw [hg]; exact (below_size (by repeat (first | (with_reducible first | exact HB.out | apply below_alloc | apply pw_below_drewN | apply below_drew1) | exact HB.out))) : w.heap.size ≤ gb224)); clear HO221; clear HB; have HO221 := n0_; have HB := n1_; have BK224 := n2_; have GW224 := n3_; have GE224 := n4_; clear n0_ n1_ n2_ n3_ n4_; clear hb hbox hg; have hcz21_0 : w20.cell? ⟨gb224, 0, none⟩ = some (.int .i64 0) := (blk_cell BK224.out 0).trans rfl; have hcz21_1 : w20.cell? ⟨gb224, 1, none⟩ = some (.int .i64 0) := (blk_cell BK224.out 1).trans rfl; have hfz21_0 := blk_frozen BK224.out 0; have hfz21_1 := blk_frozen BK224.out 1))
          repeat (go_quiet (first | (go_at_call 9; (with_reducible refine (droguelaw03_alive.calls  true _ ?side1 A2.out).mono ?_); (case side1 => exact Globs.below HG.out (by repeat (first | (with_reducible first | exact HB.out | apply below_alloc | apply pw_below_drewN | apply below_drew1) | exact HB.out))); rintro e w18 ⟨rfl, hb⟩; have n0_ := Aside0.mk (below_step (by repeat (first | (with_reducible first | exact HB.out | apply below_alloc | apply pw_below_drewN | apply below_drew1) | exact HB.out)) hb); clear HB; have HB := n0_; clear n0_; (try clear hb); (try clear hb2); (try clear hk); (try clear hi)) | (go_at_call 10; (with_reducible refine (lex_Lex.calls a0 t219 t222 t223 _ ?side1 A6.out).mono ?_); (case side1 => exact Globs.below HG.out (by repeat (first | (with_reducible first | exact HB.out | apply below_alloc | apply pw_below_drewN | apply below_drew1) | exact HB.out))); rintro e w19 ⟨v220, rfl, ho0, hb⟩; have n0_ := Aside0.mk (Kd.R_lower ho0 (below_size (by repeat (first | (with_reducible first | exact HB.out | apply below_alloc | apply pw_below_drewN | apply below_drew1) | exact HB.out)))); have n1_ := Aside0.mk (below_step (by repeat (first | (with_reducible first | exact HB.out | apply below_alloc | apply pw_below_drewN | apply below_drew1) | exact HB.out)) hb); clear HB; have HO221 := n0_; have HB := n1_; clear n0_ n1_; (try clear hb); (try clear hb2); (try clear hk); (try clear hi); (try clear ho0)) | ((with_reducible refine gate_dst (N := 4) rfl ?_); (try (refine gate_guard (by rfl) ?_; dsimp only)); refine box_event ?hg (N := 4) ?hd (cs := #[.int .i64 0, .int .i64 0]) (t := 25) ?hr ?_; (case hd => rfl); (case hg => rfl); (case hr => first | (go_simp; done) | (go_simp; rfl)); intro gb224 hg w20 hbox hb; have n0_ := Aside0.mk (Kd.R_below (by (with_reducible repeat (first | apply Kd.R_alloc | apply Kd.R_drewN | apply Kd.R_drew)); exact HO221.out) hb); have n1_ := Aside0.mk (below_step (by repeat (first | (with_reducible first | exact HB.out | apply below_alloc | apply pw_below_drewN | apply below_drew1) | exact HB.out)) hb); have n2_ := Aside0.mk (hbox); have n3_ := Aside0.mk ((by rw [hg]; exact (below_size (by repeat (first | (with_reducible first | exact HB.out | apply below_alloc | apply pw_below_drewN | apply below_drew1) | exact HB.out))) : w.heap.size ≤ gb224)); have n4_ := Aside0.mk ((by rw [hg]; exact (below_size (by repeat (first | (with_reducible first | exact HB.out | apply below_alloc | apply pw_below_drewN | apply below_drew1) | exact HB.out))) : w.heap.size ≤ gb224)); clear HO221; clear HB; have HO221 := n0_; have HB := n1_; have BK224 := n2_; have GW224 := n3_; have GE224 := n4_; clear n0_ n1_ n2_ n3_ n4_; clear hb hbox hg; have hcz21_0 : w20.cell? ⟨gb224, 0, none⟩ = some (.int .i64 0) := (blk_cell BK224.out 0).trans rfl; have hcz21_1 : w20.cell? ⟨gb224, 1, none⟩ = some (.int .i64 0) := (blk_cell BK224.out 1).trans rfl; have hfz21_0 := blk_frozen BK224.out 0; have hfz21_1 := blk_frozen BK224.out 1)); try go_wp2_with (first | (go_at_call 9; (with_reducible refine (droguelaw03_alive.calls  true _ ?side1 A2.out).mono ?_); (case side1 => exact Globs.below HG.out (by repeat (first | (with_reducible first | exact HB.out | apply below_alloc | apply pw_below_drewN | apply below_drew1) | exact HB.out))); rintro e w18 ⟨rfl, hb⟩; have n0_ := Aside0.mk (below_step (by repeat (first | (with_reducible first | exact HB.out | apply below_alloc | apply pw_below_drewN | apply below_drew1) | exact HB.out)) hb); clear HB; have HB := n0_; clear n0_; (try clear hb); (try clear hb2); (try clear hk); (try clear hi)) | (go_at_call 10; (with_reducible refine (lex_Lex.calls a0 t219 t222 t223 _ ?side1 A6.out).mono ?_); (case side1 => exact Globs.below HG.out (by repeat (first | (with_reducible first | exact HB.out | apply below_alloc | apply pw_below_drewN | apply below_drew1) | exact HB.out))); rintro e w19 ⟨v220, rfl, ho0, hb⟩; have n0_ := Aside0.mk (Kd.R_lower ho0 (below_size (by repeat (first | (with_reducible first | exact HB.out | apply below_alloc | apply pw_below_drewN | apply below_drew1) | exact HB.out)))); have n1_ := Aside0.mk (below_step (by repeat (first | (with_reducible first | exact HB.out | apply below_alloc | apply pw_below_drewN | apply below_drew1) | exact HB.out)) hb); clear HB; have HO221 := n0_; have HB := n1_; clear n0_ n1_; (try clear hb); (try clear hb2); (try clear hk); (try clear hi); (try clear ho0)) | ((with_reducible refine gate_dst (N := 4) rfl ?_); (try (refine gate_guard (by rfl) ?_; dsimp only)); refine box_event ?hg (N := 4) ?hd (cs := #[.int .i64 0, .int .i64 0]) (t := 25) ?hr ?_; (case hd => rfl); (case hg => rfl); (case hr => first | (go_simp; done) | (go_simp; rfl)); intro gb224 hg w20 hbox hb; have n0_ := Aside0.mk (Kd.R_below (by (with_reducible repeat (first | apply Kd.R_alloc | apply Kd.R_drewN | apply Kd.R_drew)); exact HO221.out) hb); have n1_ := Aside0.mk (below_step (by repeat (first | (with_reducible first | exact HB.out | apply below_alloc | apply pw_below_drewN | apply below_drew1) | exact HB.out)) hb); have n2_ := Aside0.mk (hbox); have n3_ := Aside0.mk ((by rw [hg]; exact (below_size (by repeat (first | (with_reducible first | exact HB.out | apply below_alloc | apply pw_below_drewN | apply below_drew1) | exact HB.out))) : w.heap.size ≤ gb224)); have n4_ := Aside0.mk ((by rw [hg]; exact (below_size (by repeat (first | (with_reducible first | exact HB.out | apply below_alloc | apply pw_below_drewN | apply below_drew1) | exact HB.out))) : w.heap.size ≤ gb224)); clear HO221; clear HB; have HO221 := n0_; have HB := n1_; have BK224 := n2_; have GW224 := n3_; have GE224 := n4_; clear n0_ n1_ n2_ n3_ n4_; clear hb hbox hg; have hcz21_0 : w20.cell? ⟨gb224, 0, none⟩ = some (.int .i64 0) := (blk_cell BK224.out 0).trans rfl; have hcz21_1 : w20.cell? ⟨gb224, 1, none⟩ = some (.int .i64 0) := (blk_cell BK224.out 1).trans rfl; have hfz21_0 := blk_frozen BK224.out 0; have hfz21_1 := blk_frozen BK224.out 1)))
          go_ret
          exact ⟨by first | rfl | (simp [errW_none, errW_some] <;> rfl) | (simp [*, errW_none, errW_some] <;> rfl), by repeat (first | (with_reducible first | exact HB.out | apply below_alloc | apply pw_below_drewN | apply below_drew1 | refine below_set ?_ GE224.out) | exact HB.out)⟩
      · rw [if_neg c7] at H
        have c7b0 : (!(t222 == 0) || (!(t223 == 0))) = false := by simpa using c7
        clear c7
        have H' := Aside0.mk H
        clear H
        go_enter Tryd.func5, Tryd.ntmps5
        go_wp2_with (first | (go_at_call 9; (with_reducible refine (droguelaw03_alive.calls  true _ ?side1 A2.out).mono ?_); (case side1 => exact Globs.below HG.out (by repeat (first | (with_reducible first | exact HB.out | apply below_alloc | apply pw_below_drewN | apply below_drew1) | exact HB.out))); rintro e w22 ⟨rfl, hb⟩; have n0_ := Aside0.mk (below_step (by repeat (first | (with_reducible first | exact HB.out | apply below_alloc | apply pw_below_drewN | apply below_drew1) | exact HB.out)) hb); clear HB; have HB := n0_; clear n0_; (try clear hb); (try clear hb2); (try clear hk); (try clear hi)) | (go_at_call 10; (with_reducible refine (lex_Lex.calls a0 t219 t222 t223 _ ?side1 A6.out).mono ?_); (case side1 => exact Globs.below HG.out (by repeat (first | (with_reducible first | exact HB.out | apply below_alloc | apply pw_below_drewN | apply below_drew1) | exact HB.out))); rintro e w23 ⟨v220, rfl, ho0, hb⟩; have n0_ := Aside0.mk (Kd.R_lower ho0 (below_size (by repeat (first | (with_reducible first | exact HB.out | apply below_alloc | apply pw_below_drewN | apply below_drew1) | exact HB.out)))); have n1_ := Aside0.mk (below_step (by repeat (first | (with_reducible first | exact HB.out | apply below_alloc | apply pw_below_drewN | apply below_drew1) | exact HB.out)) hb); clear HB; have HO221 := n0_; have HB := n1_; clear n0_ n1_; (try clear hb); (try clear hb2); (try clear hk); (try clear hi); (try clear ho0)) | ((with_reducible refine gate_dst (N := 4) rfl ?_); (try (refine gate_guard (by rfl) ?_; dsimp only)); refine box_event ?hg (N := 4) ?hd (cs := #[.int .i64 0, .int .i64 0]) (t := 25) ?hr ?_; (case hd => rfl); (case hg => rfl); (case hr => first | (go_simp; done) | (go_simp; rfl)); intro gb224 hg w24 hbox hb; have n0_ := Aside0.mk (Kd.R_below (by (with_reducible repeat (first | apply Kd.R_alloc | apply Kd.R_drewN | apply Kd.R_drew)); exact HO221.out) hb); have n1_ := Aside0.mk (below_step (by repeat (first | (with_reducible first | exact HB.out | apply below_alloc | apply pw_below_drewN | apply below_drew1) | exact HB.out)) hb); have n2_ := Aside0.mk (hbox); have n3_ := Aside0.mk ((by rw [hg]; exact (below_size (by repeat (first | (with_reducible first | exact HB.out | apply below_alloc | apply pw_below_drewN | apply below_drew1) | exact HB.out))) : w.heap.size ≤ gb224)); have n4_ := Aside0.mk ((by rw [hg]; exact (below_size (by repeat (first | (with_reducible first | exact HB.out | apply below_alloc | apply pw_below_drewN | apply below_drew1) | exact HB.out))) : w.heap.size ≤ gb224)); clear HO221; clear HB; have HO221 := n0_; have HB := n1_; have BK224 := n2_; have GW224 := n3_; have GE224 := n4_; clear n0_ n1_ n2_ n3_ n4_; clear hb hbox hg; have hcz25_0 : w24.cell? ⟨gb224, 0, none⟩ = some (.int .i64 0) := (blk_cell BK224.out 0).trans rfl; have hcz25_1 : w24.cell? ⟨gb224, 1, none⟩ = some (.int .i64 0) := (blk_cell BK224.out 1).trans rfl; have hfz25_0 := blk_frozen BK224.out 0; have hfz25_1 := blk_frozen BK224.out 1))
        repeat (go_quiet (first | (go_at_call 9; (with_reducible refine (droguelaw03_alive.calls  true _ ?side1 A2.out).mono ?_); (case side1 => exact Globs.below HG.out (by repeat (first | (with_reducible first | exact HB.out | apply below_alloc | apply pw_below_drewN | apply below_drew1) | exact HB.out))); rintro e w22 ⟨rfl, hb⟩; have n0_ := Aside0.mk (below_step (by repeat (first | (with_reducible first | exact HB.out | apply below_alloc | apply pw_below_drewN | apply below_drew1) | exact HB.out)) hb); clear HB; have HB := n0_; clear n0_; (try clear hb); (try clear hb2); (try clear hk); (try clear hi)) | (go_at_call 10; (with_reducible refine (lex_Lex.calls a0 t219 t222 t223 _ ?side1 A6.out).mono ?_); (case side1 => exact Globs.below HG.out (by repeat (first | (with_reducible first | exact HB.out | apply below_alloc | apply pw_below_drewN | apply below_drew1) | exact HB.out))); rintro e w23 ⟨v220, rfl, ho0, hb⟩; have n0_ := Aside0.mk (Kd.R_lower ho0 (below_size (by repeat (first | (with_reducible first | exact HB.out | apply below_alloc | apply pw_below_drewN | apply below_drew1) | exact HB.out)))); have n1_ := Aside0.mk (below_step (by repeat (first | (with_reducible first | exact HB.out | apply below_alloc | apply pw_below_drewN | apply below_drew1) | exact HB.out)) hb); clear HB; have HO221 := n0_; have HB := n1_; clear n0_ n1_; (try clear hb); (try clear hb2); (try clear hk); (try clear hi); (try clear ho0)) | ((with_reducible refine gate_dst (N := 4) rfl ?_); (try (refine gate_guard (by rfl) ?_; dsimp only)); refine box_event ?hg (N := 4) ?hd (cs := #[.int .i64 0, .int .i64 0]) (t := 25) ?hr ?_; (case hd => rfl); (case hg => rfl); (case hr => first | (go_simp; done) | (go_simp; rfl)); intro gb224 hg w24 hbox hb; have n0_ := Aside0.mk (Kd.R_below (by (with_reducible repeat (first | apply Kd.R_alloc | apply Kd.R_drewN | apply Kd.R_drew)); exact HO221.out) hb); have n1_ := Aside0.mk (below_step (by repeat (first | (with_reducible first | exact HB.out | apply below_alloc | apply pw_below_drewN | apply below_drew1) | exact HB.out)) hb); have n2_ := Aside0.mk (hbox); have n3_ := Aside0.mk ((by rw [hg]; exact (below_size (by repeat (first | (with_reducible first | exact HB.out | apply below_alloc | apply pw_below_drewN | apply below_drew1) | exact HB.out))) : w.heap.size ≤ gb224)); have n4_ := Aside0.mk ((by rw [hg]; exact (below_size (by repeat (first | (with_reducible first | exact HB.out | apply below_alloc | apply pw_below_drewN | apply below_drew1) | exact HB.out))) : w.heap.size ≤ gb224)); clear HO221; clear HB; have HO221 := n0_; have HB := n1_; have BK224 := n2_; have GW224 := n3_; have GE224 := n4_; clear n0_ n1_ n2_ n3_ n4_; clear hb hbox hg; have hcz25_0 : w24.cell? ⟨gb224, 0, none⟩ = some (.int .i64 0) := (blk_cell BK224.out 0).trans rfl; have hcz25_1 : w24.cell? ⟨gb224, 1, none⟩ = some (.int .i64 0) := (blk_cell BK224.out 1).trans rfl; have hfz25_0 := blk_frozen BK224.out 0; have hfz25_1 := blk_frozen BK224.out 1)); try go_wp2_with (first | (go_at_call 9; (with_reducible refine (droguelaw03_alive.calls  true _ ?side1 A2.out).mono ?_); (case side1 => exact Globs.below HG.out (by repeat (first | (with_reducible first | exact HB.out | apply below_alloc | apply pw_below_drewN | apply below_drew1) | exact HB.out))); rintro e w22 ⟨rfl, hb⟩; have n0_ := Aside0.mk (below_step (by repeat (first | (with_reducible first | exact HB.out | apply below_alloc | apply pw_below_drewN | apply below_drew1) | exact HB.out)) hb); clear HB; have HB := n0_; clear n0_; (try clear hb); (try clear hb2); (try clear hk); (try clear hi)) | (go_at_call 10; (with_reducible refine (lex_Lex.calls a0 t219 t222 t223 _ ?side1 A6.out).mono ?_); (case side1 => exact Globs.below HG.out (by repeat (first | (with_reducible first | exact HB.out | apply below_alloc | apply pw_below_drewN | apply below_drew1) | exact HB.out))); rintro e w23 ⟨v220, rfl, ho0, hb⟩; have n0_ := Aside0.mk (Kd.R_lower ho0 (below_size (by repeat (first | (with_reducible first | exact HB.out | apply below_alloc | apply pw_below_drewN | apply below_drew1) | exact HB.out)))); have n1_ := Aside0.mk (below_step (by repeat (first | (with_reducible first | exact HB.out | apply below_alloc | apply pw_below_drewN | apply below_drew1) | exact HB.out)) hb); clear HB; have HO221 := n0_; have HB := n1_; clear n0_ n1_; (try clear hb); (try clear hb2); (try clear hk); (try clear hi); (try clear ho0)) | ((with_reducible refine gate_dst (N := 4) rfl ?_); (try (refine gate_guard (by rfl) ?_; dsimp only)); refine box_event ?hg (N := 4) ?hd (cs := #[.int .i64 0, .int .i64 0]) (t := 25) ?hr ?_; (case hd => rfl); (case hg => rfl); (case hr => first | (go_simp; done) | (go_simp; rfl)); intro gb224 hg w24 hbox hb; have n0_ := Aside0.mk (Kd.R_below (by (with_reducible repeat (first | apply Kd.R_alloc | apply Kd.R_drewN | apply Kd.R_drew)); exact HO221.out) hb); have n1_ := Aside0.mk (below_step (by repeat (first | (with_reducible first | exact HB.out | apply below_alloc | apply pw_below_drewN | apply below_drew1) | exact HB.out)) hb); have n2_ := Aside0.mk (hbox); have n3_ := Aside0.mk ((by rw [hg]; exact (below_size (by repeat (first | (with_reducible first | exact HB.out | apply below_alloc | apply pw_below_drewN | apply below_drew1) | exact HB.out))) : w.heap.size ≤ gb224)); have n4_ := Aside0.mk ((by rw [hg]; exact (below_size (by repeat (first | (with_reducible first | exact HB.out | apply below_alloc | apply pw_below_drewN | apply below_drew1) | exact HB.out))) : w.heap.size ≤ gb224)); clear HO221; clear HB; have HO221 := n0_; have HB := n1_; have BK224 := n2_; have GW224 := n3_; have GE224 := n4_; clear n0_ n1_ n2_ n3_ n4_; clear hb hbox hg; have hcz25_0 : w24.cell? ⟨gb224, 0, none⟩ = some (.int .i64 0) := (blk_cell BK224.out 0).trans rfl; have hcz25_1 : w24.cell? ⟨gb224, 1, none⟩ = some (.int .i64 0) := (blk_cell BK224.out 1).trans rfl; have hfz25_0 := blk_frozen BK224.out 0; have hfz25_1 := blk_frozen BK224.out 1)))
        go_loopg [5, 6] k (fun kq v5 v6 w' => ∃ (x5_1 : Int) (x6_1 : Int), v5 = .int .i64 x5_1 ∧ v6 = .int .i64 x6_1 ∧ Aside0 (droguelaw03_LexPlaces.l0 kq a0 t219 x5_1 x6_1 = some r) ∧ Aside0 (kq ≤ k) ∧ Aside0 (Kd.R k35 35 w' w.heap.size (fun _ => True) v220 t219) ∧ Aside0 (w'.heap[gb224]? = some (.cells #[.int .i64 t222, .int .i64 t223] 25 (0, 0))) ∧ Aside0 (Below w.heap.size w w'))
        case atStart => exact ⟨(0), (0), (by first | rfl | (simp; done) | (simp [*]; done)), (by first | rfl | (simp; done) | (simp [*]; done)), H', ⟨Nat.le_refl _⟩, ⟨by (with_reducible repeat (first | apply Kd.R_alloc | apply Kd.R_drewN | apply Kd.R_drew)); exact Kd.R_mono (Kd.R_far (p := ⟨gb224, 1, none⟩) (Kd.R_far (p := ⟨gb224, 0, none⟩) (Kd.R_types HO221.out BK224.out (by decide)) (fun _ hk => hk.2) (.int .i64 t222)) (fun _ hk => hk.2) (.int .i64 t223)) (fun _ hk => trivial)⟩, ⟨by (with_reducible repeat (first | refine blk_drewN ?_ _ | refine blk_drew ?_ | refine blk_alloc ?_ _)); refine blk_put (cs := #[.int .i64 t222, .int .i64 0]) ?_ 1 _ rfl; (with_reducible repeat (first | refine blk_drewN ?_ _ | refine blk_drew ?_ | refine blk_alloc ?_ _)); refine blk_put (cs := #[.int .i64 0, .int .i64 0]) ?_ 0 _ rfl; (with_reducible repeat (first | refine blk_drewN ?_ _ | refine blk_drew ?_ | refine blk_alloc ?_ _)); exact BK224.out⟩, ⟨by repeat (first | (with_reducible first | exact HB.out | apply below_alloc | apply pw_below_drewN | apply below_drew1 | refine below_set ?_ GE224.out) | exact HB.out)⟩⟩
        case round =>
          clear H'
          try clear p2
          try clear c3
          try clear c4
          try clear c4b0
          try clear c4b1
          try clear c5
          try clear c7
          try clear c7b0
          try clear c8
          try clear c8b0
          try clear c8b1
          try clear c9
          try clear c9b0
          try clear hcz13_0
          try clear hcz13_1
          try clear hcz17_0
          try clear hcz17_1
          try clear hcz21_0
          try clear hcz21_1
          try clear hcz25_0
          try clear hcz25_1
          try clear hfz13_0
          try clear hfz13_1
          try clear hfz17_0
          try clear hfz17_1
          try clear hfz21_0
          try clear hfz21_1
          try clear hfz25_0
          try clear hfz25_1
          obtain ⟨x5_1, x6_1, rfl, rfl, HA, HK1, HO_3, BK224, HB⟩ := hrel
          cases gk with
          | zero => exact absurd HA.out (by simp [droguelaw03_LexPlaces.l0])
          | succ k1 =>
            have H := HA.out
            clear HA
            simp only [droguelaw03_LexPlaces.l0] at H
            by_cases c26 : x6_1 ≤ (t219.length : Int)
            · rw [if_pos c26] at H
              have c26b0 : decide (x6_1 ≤ (t219.length : Int)) = true := decide_eq_true c26
              clear c26
              have HC27 := Aside0.mk H
              clear H
              obtain ⟨Ao28, co28, eo28⟩ := Kd.R_slice HO_3.out
              subst eo28
              go_upto_if 50 with (fail)
              repeat (go_quiet (fail); go_upto_if 50 with (fail))
              go_cut [7] (fun v7 wc => ∃ (kq : Nat) (x7_26 : Int), v7 = .int .i64 x7_26 ∧ Aside0 (droguelaw03_LexPlaces.j1 kq a0 t219 x5_1 x6_1 x7_26 = some r) ∧ Aside0 (kq ≤ k1) ∧ Aside0 (Kd.R k35 35 wc w.heap.size (fun _ => True) (.slice Ao28 t219.length co28) t219) ∧ Aside0 (wc.heap[gb224]? = some (.cells #[.int .i64 t222, .int .i64 t223] 25 (0, 0))) ∧ Aside0 (Below w.heap.size w wc))
              case first =>
                have H := HC27.out
                clear HC27
                by_cases c29 : x6_1 < (t219.length : Int)
                · rw [if_pos c29] at H
                  have c29b0 : decide (x6_1 < (t219.length : Int)) = true := decide_eq_true c29
                  clear c29
                  (first | rw [c29b0] | (simp only [i64_w, i32_w]; rw [c29b0]) | skip)
                  by_cases c30 : 0 ≤ x6_1
                  · rw [if_pos c30] at H
                    have c30b0 : decide (0 ≤ x6_1) = true := decide_eq_true c30
                    clear c30
                    have H' := Aside0.mk H
                    clear H
                    have p225 : 0 ≤ (x6_1 : Int) := of_decide_eq_true (by first | (with_reducible assumption) | assumption)
                    have q225 : x6_1 < (t219.length : Int) := of_decide_eq_true (by first | (with_reducible assumption) | assumption)
                    obtain ⟨ad225, e225, hx225_0, hx225_1, hx225_2, hx225_3⟩ := at_T35 (Kd.R_reads' HO_3.out).2.2 x6_1 p225 q225
                    cases e225
                    replace p225 := eq_true p225
                    replace q225 := eq_true q225
                    go_wp2
                    repeat (go_quiet (fail); try go_wp2)
                    go_meet
                    case rel => exact ⟨_, ((rd_T35 t219 x6_1).f1), (by first | rfl | (simp; done) | (simp [*]; done)), H', ⟨by have := HK1.out; first | omega | exact Nat.le_refl _⟩, ⟨by (with_reducible repeat (first | apply Kd.R_alloc | apply Kd.R_drewN | apply Kd.R_drew)); exact HO_3.out⟩, ⟨by (with_reducible repeat (first | refine blk_drewN ?_ _ | refine blk_drew ?_ | refine blk_alloc ?_ _)); exact BK224.out⟩, ⟨by repeat (first | (with_reducible first | exact HB.out | apply below_alloc | apply pw_below_drewN | apply below_drew1 | refine below_set ?_ GE224.out) | exact HB.out)⟩⟩
                  · rw [if_neg c30] at H
                    exact absurd H (by simp)
                · rw [if_neg c29] at H
                  have c29b0 : decide (x6_1 < (t219.length : Int)) = false := decide_eq_false c29
                  clear c29
                  (first | rw [c29b0] | (simp only [i64_w, i32_w]; rw [c29b0]) | skip)
                  have H' := Aside0.mk H
                  clear H
                  go_wp2
                  repeat (go_quiet (fail); try go_wp2)
                  go_meet
                  case rel => exact ⟨_, ((a0.size : Int)), (by first | rfl | (simp; done) | (simp [*]; done)), H', ⟨by have := HK1.out; first | omega | exact Nat.le_refl _⟩, ⟨by (with_reducible repeat (first | apply Kd.R_alloc | apply Kd.R_drewN | apply Kd.R_drew)); exact HO_3.out⟩, ⟨by (with_reducible repeat (first | refine blk_drewN ?_ _ | refine blk_drew ?_ | refine blk_alloc ?_ _)); exact BK224.out⟩, ⟨by repeat (first | (with_reducible first | exact HB.out | apply below_alloc | apply pw_below_drewN | apply below_drew1 | refine below_set ?_ GE224.out) | exact HB.out)⟩⟩
              case rest =>
                clear HC27
                try clear c2
                try clear p2
                try clear q2
                try clear hx2
                try clear c3
                try clear c4
                try clear c4b0
                try clear c4b1
                try clear c5
                try clear c7
                try clear c7b0
                try clear c8
                try clear c8b0
                try clear c8b1
                try clear c9
                try clear c9b0
                try clear p22
                try clear q22
                try clear hx22
                try clear c26
                try clear c26b0
                try clear c29
                try clear c29b0
                try clear c30
                try clear c30b0
                try clear hcz13_0
                try clear hcz13_1
                try clear hcz17_0
                try clear hcz17_1
                try clear hcz21_0
                try clear hcz21_1
                try clear hcz25_0
                try clear hcz25_1
                try clear hfz13_0
                try clear hfz13_1
                try clear hfz17_0
                try clear hfz17_1
                try clear hfz21_0
                try clear hfz21_1
                try clear hfz25_0
                try clear hfz25_1
                try clear hx225_0
                try clear hx225_1
                try clear hx225_2
                try clear hx225_3
                try clear p2
                try clear p225
                try clear q225
                obtain ⟨kq, x7_26, rfl, HA, HJ26, HO_3, BK224, HB⟩ := hcut
                cases kq with
                | zero => exact absurd HA.out (by simp [droguelaw03_LexPlaces.j1])
                | succ kj26 =>
                  have H := HA.out
                  clear HA
                  simp only [droguelaw03_LexPlaces.j1] at H
                  have HC31 := Aside0.mk H
                  clear H
                  go_upto_region 15 with (fail)
                  repeat (go_quiet (fail); go_upto_region 15 with (fail))
                  go_cut [64] (fun v64 wc => ∃ (kq : Nat) (x64_30 : Bool), v64 = .bool x64_30 ∧ Aside0 (droguelaw03_LexPlaces.j2 kq a0 t219 x5_1 x6_1 x7_26 x64_30 = some r) ∧ Aside0 (kq ≤ kj26) ∧ Aside0 (Kd.R k35 35 wc w.heap.size (fun _ => True) (.slice Ao28 t219.length co28) t219) ∧ Aside0 (wc.heap[gb224]? = some (.cells #[.int .i64 t222, .int .i64 t223] 25 (0, 0))) ∧ Aside0 (Below w.heap.size w wc))
                  case first =>
                    have H := HC31.out
                    clear HC31
                    by_cases c32 : x7_26 < x5_1
                    · rw [if_pos c32] at H
                      have c32b0 : decide (x7_26 < x5_1) = true := decide_eq_true c32
                      clear c32
                      (first | rw [c32b0] | (simp only [i64_w, i32_w]; rw [c32b0]) | skip)
                      have H' := Aside0.mk H
                      clear H
                      go_wp2
                      repeat (go_quiet (fail); try go_wp2)
                      go_meet
                      case rel => exact ⟨_, (true), (by first | rfl | (simp; done) | (simp [*]; done)), H', ⟨by have := HK1.out; have := HJ26.out; first | omega | exact Nat.le_refl _⟩, ⟨by (with_reducible repeat (first | apply Kd.R_alloc | apply Kd.R_drewN | apply Kd.R_drew)); exact HO_3.out⟩, ⟨by (with_reducible repeat (first | refine blk_drewN ?_ _ | refine blk_drew ?_ | refine blk_alloc ?_ _)); exact BK224.out⟩, ⟨by repeat (first | (with_reducible first | exact HB.out | apply below_alloc | apply pw_below_drewN | apply below_drew1 | refine below_set ?_ GE224.out) | exact HB.out)⟩⟩
                    · rw [if_neg c32] at H
                      have c32b0 : decide (x7_26 < x5_1) = false := decide_eq_false c32
                      clear c32
                      (first | rw [c32b0] | (simp only [i64_w, i32_w]; rw [c32b0]) | skip)
                      have H' := Aside0.mk H
                      clear H
                      go_wp2
                      repeat (go_quiet (fail); try go_wp2)
                      go_meet
                      case rel => exact ⟨_, (decide (x7_26 > (a0.size : Int))), (by first | rfl | (simp; done) | (simp [*]; done)), H', ⟨by have := HK1.out; have := HJ26.out; first | omega | exact Nat.le_refl _⟩, ⟨by (with_reducible repeat (first | apply Kd.R_alloc | apply Kd.R_drewN | apply Kd.R_drew)); exact HO_3.out⟩, ⟨by (with_reducible repeat (first | refine blk_drewN ?_ _ | refine blk_drew ?_ | refine blk_alloc ?_ _)); exact BK224.out⟩, ⟨by repeat (first | (with_reducible first | exact HB.out | apply below_alloc | apply pw_below_drewN | apply below_drew1 | refine below_set ?_ GE224.out) | exact HB.out)⟩⟩
                  case rest =>
                    clear HC31
                    try clear c2
                    try clear p2
                    try clear q2
                    try clear hx2
                    try clear c3
                    try clear c4
                    try clear c4b0
                    try clear c4b1
                    try clear c5
                    try clear c7
                    try clear c7b0
                    try clear c8
                    try clear c8b0
                    try clear c8b1
                    try clear c9
                    try clear c9b0
                    try clear p22
                    try clear q22
                    try clear hx22
                    try clear c26
                    try clear c26b0
                    try clear c29
                    try clear c29b0
                    try clear c30
                    try clear c30b0
                    try clear c32
                    try clear c32b0
                    try clear hcz13_0
                    try clear hcz13_1
                    try clear hcz17_0
                    try clear hcz17_1
                    try clear hcz21_0
                    try clear hcz21_1
                    try clear hcz25_0
                    try clear hcz25_1
                    try clear hfz13_0
                    try clear hfz13_1
                    try clear hfz17_0
                    try clear hfz17_1
                    try clear hfz21_0
                    try clear hfz21_1
                    try clear hfz25_0
                    try clear hfz25_1
                    try clear hx225_0
                    try clear hx225_1
                    try clear hx225_2
                    try clear hx225_3
                    try clear p2
                    try clear p22
                    try clear p225
                    try clear q2
                    try clear q22
                    try clear q225
                    obtain ⟨kq, x64_30, rfl, HA, HJ30, HO_3, BK224, HB⟩ := hcut
                    cases kq with
                    | zero => exact absurd HA.out (by simp [droguelaw03_LexPlaces.j2])
                    | succ kj30 =>
                      have H := HA.out
                      clear HA
                      simp only [droguelaw03_LexPlaces.j2] at H
                      by_cases c33 : x64_30 = true
                      · subst c33
                        have H1 : (some false) = some r := by rw [if_pos rfl] at H; exact H
                        clear H
                        have H := H1
                        clear H1
                        obtain rfl := Option.some.inj H
                        go_wp2
                        repeat (go_quiet (fail); try go_wp2)
                        go_ret
                        exact ⟨by first | rfl | (simp [errW_none, errW_some] <;> rfl) | (simp [*, errW_none, errW_some] <;> rfl), by repeat (first | (with_reducible first | exact HB.out | apply below_alloc | apply pw_below_drewN | apply below_drew1 | refine below_set ?_ GE224.out) | exact HB.out)⟩
                      · replace c33 := Bool.eq_false_iff.mpr c33
                        subst c33
                        have H1 : (droguelaw03_LexPlaces.l1 kj30 a0 t219 x5_1 x6_1 x7_26 false x5_1) = some r := by rw [if_neg (show ¬ (false = true) by decide)] at H; exact H
                        clear H
                        have H := H1
                        clear H1
                        have H' := Aside0.mk H
                        clear H
                        go_wp2
                        repeat (go_quiet (fail); try go_wp2)
                        go_loopg [8, 9] kj30 (fun kq v8 v9 w' => ∃ (x8_4 : Bool) (x9_4 : Int), v8 = .bool x8_4 ∧ v9 = .int .i64 x9_4 ∧ Aside0 (droguelaw03_LexPlaces.l1 kq a0 t219 x5_1 x6_1 x7_26 x8_4 x9_4 = some r) ∧ Aside0 (kq ≤ kj30) ∧ Aside0 (Kd.R k35 35 w' w.heap.size (fun _ => True) (.slice Ao28 t219.length co28) t219) ∧ Aside0 (w'.heap[gb224]? = some (.cells #[.int .i64 t222, .int .i64 t223] 25 (0, 0))) ∧ Aside0 (Below w.heap.size w w'))
                        case atStart => exact ⟨(false), (x5_1), (by first | rfl | (simp; done) | (simp [*]; done)), (by first | rfl | (simp; done) | (simp [*]; done)), H', ⟨Nat.le_refl _⟩, ⟨by (with_reducible repeat (first | apply Kd.R_alloc | apply Kd.R_drewN | apply Kd.R_drew)); exact HO_3.out⟩, ⟨by (with_reducible repeat (first | refine blk_drewN ?_ _ | refine blk_drew ?_ | refine blk_alloc ?_ _)); exact BK224.out⟩, ⟨by repeat (first | (with_reducible first | exact HB.out | apply below_alloc | apply pw_below_drewN | apply below_drew1 | refine below_set ?_ GE224.out) | exact HB.out)⟩⟩
                        case round =>
                          clear H'
                          try clear c2
                          try clear p2
                          try clear q2
                          try clear hx2
                          try clear c3
                          try clear c4
                          try clear c4b0
                          try clear c4b1
                          try clear c5
                          try clear c7
                          try clear c7b0
                          try clear c8
                          try clear c8b0
                          try clear c8b1
                          try clear c9
                          try clear c9b0
                          try clear p22
                          try clear q22
                          try clear hx22
                          try clear c26
                          try clear c26b0
                          try clear c29
                          try clear c29b0
                          try clear c30
                          try clear c30b0
                          try clear c32
                          try clear c32b0
                          try clear c33
                          try clear hcz13_0
                          try clear hcz13_1
                          try clear hcz17_0
                          try clear hcz17_1
                          try clear hcz21_0
                          try clear hcz21_1
                          try clear hcz25_0
                          try clear hcz25_1
                          try clear hfz13_0
                          try clear hfz13_1
                          try clear hfz17_0
                          try clear hfz17_1
                          try clear hfz21_0
                          try clear hfz21_1
                          try clear hfz25_0
                          try clear hfz25_1
                          try clear hx225_0
                          try clear hx225_1
                          try clear hx225_2
                          try clear hx225_3
                          try clear p2
                          try clear p22
                          try clear p225
                          try clear q2
                          try clear q22
                          try clear q225
                          obtain ⟨x8_4, x9_4, rfl, rfl, HA, HK4, HO_3, BK224, HB⟩ := hrel
                          cases gk with
                          | zero => exact absurd HA.out (by simp [droguelaw03_LexPlaces.l1])
                          | succ k4 =>
                            have H := HA.out
                            clear HA
                            simp only [droguelaw03_LexPlaces.l1] at H
                            by_cases c34 : x9_4 < x7_26
                            · rw [if_pos c34] at H
                              have c34b0 : decide (x9_4 < x7_26) = true := decide_eq_true c34
                              clear c34
                              by_cases c35 : 0 ≤ x9_4
                              · rw [if_pos c35] at H
                                have c35b0 : decide (0 ≤ x9_4) = true := decide_eq_true c35
                                clear c35
                                by_cases c36 : x9_4 < (a0.size : Int)
                                · rw [if_pos c36] at H
                                  have c36b0 : decide (x9_4 < (a0.size : Int)) = true := decide_eq_true c36
                                  clear c36
                                  have HC38 := Aside0.mk H
                                  clear H
                                  have p37 : 0 ≤ (x9_4 : Int) := of_decide_eq_true (by first | (with_reducible assumption) | assumption)
                                  have q37 : x9_4 < (a0.size : Int) := of_decide_eq_true (by first | (with_reducible assumption) | assumption)
                                  have hx37 := bt_at a0 x9_4
                                  replace p37 := eq_true p37
                                  replace q37 := eq_true q37
                                  go_upto_if 75 with (fail)
                                  repeat (go_quiet (fail); go_upto_if 75 with (fail))
                                  go_cut [8] (fun v8 wc => ∃ (kq : Nat) (x8_37 : Bool), v8 = .bool x8_37 ∧ Aside0 (droguelaw03_LexPlaces.j4 kq a0 t219 x5_1 x6_1 x7_26 x8_37 x9_4 (bt a0 x9_4) = some r) ∧ Aside0 (kq ≤ k4) ∧ Aside0 (Kd.R k35 35 wc w.heap.size (fun _ => True) (.slice Ao28 t219.length co28) t219) ∧ Aside0 (wc.heap[gb224]? = some (.cells #[.int .i64 t222, .int .i64 t223] 25 (0, 0))) ∧ Aside0 (Below w.heap.size w wc))
                                  case first =>
                                    have H := HC38.out
                                    clear HC38
                                    by_cases c39 : (bt a0 x9_4) = 35
                                    · rw [if_pos c39] at H
                                      have c39b0 : ((bt a0 x9_4) == 35) = true := beq_iff_eq.mpr c39
                                      have c39b1 : ((bt a0 x9_4) != 35) = false := bne_eq_false_iff_eq.mpr c39
                                      clear c39
                                      (first | rw [c39b0] | (simp only [i64_w, i32_w]; rw [c39b0]) | skip)
                                      have H' := Aside0.mk H
                                      clear H
                                      go_wp2
                                      repeat (go_quiet (fail); try go_wp2)
                                      go_meet
                                      case rel => exact ⟨_, (true), (by first | rfl | (simp; done) | (simp [*]; done)), H', ⟨by have := HK1.out; have := HJ26.out; have := HJ30.out; have := HK4.out; first | omega | exact Nat.le_refl _⟩, ⟨by (with_reducible repeat (first | apply Kd.R_alloc | apply Kd.R_drewN | apply Kd.R_drew)); exact HO_3.out⟩, ⟨by (with_reducible repeat (first | refine blk_drewN ?_ _ | refine blk_drew ?_ | refine blk_alloc ?_ _)); exact BK224.out⟩, ⟨by repeat (first | (with_reducible first | exact HB.out | apply below_alloc | apply pw_below_drewN | apply below_drew1 | refine below_set ?_ GE224.out) | exact HB.out)⟩⟩
                                    · rw [if_neg c39] at H
                                      have c39b0 : ((bt a0 x9_4) == 35) = false := beq_eq_false_iff_ne.mpr c39
                                      have c39b1 : ((bt a0 x9_4) != 35) = true := bne_iff_ne.mpr c39
                                      (first | rw [c39b0] | (simp only [i64_w, i32_w]; rw [c39b0]) | skip)
                                      have H' := Aside0.mk H
                                      clear H
                                      go_wp2
                                      repeat (go_quiet (fail); try go_wp2)
                                      go_meet
                                      case rel => exact ⟨_, (x8_4), (by first | rfl | (simp; done) | (simp [*]; done)), H', ⟨by have := HK1.out; have := HJ26.out; have := HJ30.out; have := HK4.out; first | omega | exact Nat.le_refl _⟩, ⟨by (with_reducible repeat (first | apply Kd.R_alloc | apply Kd.R_drewN | apply Kd.R_drew)); exact HO_3.out⟩, ⟨by (with_reducible repeat (first | refine blk_drewN ?_ _ | refine blk_drew ?_ | refine blk_alloc ?_ _)); exact BK224.out⟩, ⟨by repeat (first | (with_reducible first | exact HB.out | apply below_alloc | apply pw_below_drewN | apply below_drew1 | refine below_set ?_ GE224.out) | exact HB.out)⟩⟩
                                  case rest =>
                                    clear HC38
                                    try clear c2
                                    try clear p2
                                    try clear q2
                                    try clear hx2
                                    try clear c3
                                    try clear p3
                                    try clear q3
                                    try clear hx3
                                    try clear c4
                                    try clear c4b0
                                    try clear c4b1
                                    try clear c5
                                    try clear c7
                                    try clear c7b0
                                    try clear c8
                                    try clear c8b0
                                    try clear c8b1
                                    try clear c9
                                    try clear c9b0
                                    try clear p22
                                    try clear q22
                                    try clear hx22
                                    try clear c26
                                    try clear c26b0
                                    try clear c29
                                    try clear c29b0
                                    try clear c30
                                    try clear c30b0
                                    try clear c32
                                    try clear c32b0
                                    try clear c33
                                    try clear c34
                                    try clear c34b0
                                    try clear c35
                                    try clear c35b0
                                    try clear c36
                                    try clear c36b0
                                    try clear p37
                                    try clear q37
                                    try clear hx37
                                    try clear c39
                                    try clear c39b0
                                    try clear c39b1
                                    try clear hcz13_0
                                    try clear hcz13_1
                                    try clear hcz17_0
                                    try clear hcz17_1
                                    try clear hcz21_0
                                    try clear hcz21_1
                                    try clear hcz25_0
                                    try clear hcz25_1
                                    try clear hfz13_0
                                    try clear hfz13_1
                                    try clear hfz17_0
                                    try clear hfz17_1
                                    try clear hfz21_0
                                    try clear hfz21_1
                                    try clear hfz25_0
                                    try clear hfz25_1
                                    try clear hx225_0
                                    try clear hx225_1
                                    try clear hx225_2
                                    try clear hx225_3
                                    try clear p2
                                    try clear p22
                                    try clear p225
                                    try clear p37
                                    try clear q2
                                    try clear q22
                                    try clear q225
                                    try clear q37
                                    obtain ⟨kq, x8_37, rfl, HA, HJ37, HO_3, BK224, HB⟩ := hcut
                                    cases kq with
                                    | zero => exact absurd HA.out (by simp [droguelaw03_LexPlaces.j4])
                                    | succ kj37 =>
                                      have H := HA.out
                                      clear HA
                                      simp only [droguelaw03_LexPlaces.j4] at H
                                      have HC40 := Aside0.mk H
                                      clear H
                                      go_upto_region 24 with (fail)
                                      repeat (go_quiet (fail); go_upto_region 24 with (fail))
                                      go_cut [89] (fun v89 wc => ∃ (kq : Nat) (x89_39 : Bool), v89 = .bool x89_39 ∧ Aside0 (droguelaw03_LexPlaces.j5 kq a0 t219 x5_1 x6_1 x7_26 x8_37 x9_4 (bt a0 x9_4) x89_39 = some r) ∧ Aside0 (kq ≤ kj37) ∧ Aside0 (Kd.R k35 35 wc w.heap.size (fun _ => True) (.slice Ao28 t219.length co28) t219) ∧ Aside0 (wc.heap[gb224]? = some (.cells #[.int .i64 t222, .int .i64 t223] 25 (0, 0))) ∧ Aside0 (Below w.heap.size w wc))
                                      case first =>
                                        have H := HC40.out
                                        clear HC40
                                        by_cases c41 : x8_37 = true
                                        · subst c41
                                          have H1 : (droguelaw03_LexPlaces.j5 kj37 a0 t219 x5_1 x6_1 x7_26 true x9_4 (bt a0 x9_4) false) = some r := by rw [if_pos rfl] at H; exact H
                                          clear H
                                          have H := H1
                                          clear H1
                                          have H' := Aside0.mk H
                                          clear H
                                          go_wp2
                                          repeat (go_quiet (fail); try go_wp2)
                                          go_meet
                                          case rel => exact ⟨_, (false), (by first | rfl | (simp; done) | (simp [*]; done)), H', ⟨by have := HK1.out; have := HJ26.out; have := HJ30.out; have := HK4.out; have := HJ37.out; first | omega | exact Nat.le_refl _⟩, ⟨by (with_reducible repeat (first | apply Kd.R_alloc | apply Kd.R_drewN | apply Kd.R_drew)); exact HO_3.out⟩, ⟨by (with_reducible repeat (first | refine blk_drewN ?_ _ | refine blk_drew ?_ | refine blk_alloc ?_ _)); exact BK224.out⟩, ⟨by repeat (first | (with_reducible first | exact HB.out | apply below_alloc | apply pw_below_drewN | apply below_drew1 | refine below_set ?_ GE224.out) | exact HB.out)⟩⟩
                                        · replace c41 := Bool.eq_false_iff.mpr c41
                                          subst c41
                                          have H1 : (if (bt a0 x9_4) = 32 then (droguelaw03_LexPlaces.j5 kj37 a0 t219 x5_1 x6_1 x7_26 false x9_4 (bt a0 x9_4) false) else (if (bt a0 x9_4) = 9 then (droguelaw03_LexPlaces.j5 kj37 a0 t219 x5_1 x6_1 x7_26 false x9_4 (bt a0 x9_4) false) else (droguelaw03_LexPlaces.j5 kj37 a0 t219 x5_1 x6_1 x7_26 false x9_4 (bt a0 x9_4) ((bt a0 x9_4) != 10)))) = some r := by rw [if_neg (show ¬ (false = true) by decide)] at H; exact H
                                          clear H
                                          have H := H1
                                          clear H1
                                          by_cases c42 : (bt a0 x9_4) = 32
                                          · rw [if_pos c42] at H
                                            have c42b0 : ((bt a0 x9_4) == 32) = true := beq_iff_eq.mpr c42
                                            have c42b1 : ((bt a0 x9_4) != 32) = false := bne_eq_false_iff_eq.mpr c42
                                            clear c42
                                            (first | rw [c42b0] | (simp only [i64_w, i32_w]; rw [c42b0]) | skip)
                                            have H' := Aside0.mk H
                                            clear H
                                            go_wp2
                                            repeat (go_quiet (fail); try go_wp2)
                                            go_meet
                                            case rel => exact ⟨_, (false), (by first | rfl | (simp; done) | (simp [*]; done)), H', ⟨by have := HK1.out; have := HJ26.out; have := HJ30.out; have := HK4.out; have := HJ37.out; first | omega | exact Nat.le_refl _⟩, ⟨by (with_reducible repeat (first | apply Kd.R_alloc | apply Kd.R_drewN | apply Kd.R_drew)); exact HO_3.out⟩, ⟨by (with_reducible repeat (first | refine blk_drewN ?_ _ | refine blk_drew ?_ | refine blk_alloc ?_ _)); exact BK224.out⟩, ⟨by repeat (first | (with_reducible first | exact HB.out | apply below_alloc | apply pw_below_drewN | apply below_drew1 | refine below_set ?_ GE224.out) | exact HB.out)⟩⟩
                                          · rw [if_neg c42] at H
                                            have c42b0 : ((bt a0 x9_4) == 32) = false := beq_eq_false_iff_ne.mpr c42
                                            have c42b1 : ((bt a0 x9_4) != 32) = true := bne_iff_ne.mpr c42
                                            (first | rw [c42b0] | (simp only [i64_w, i32_w]; rw [c42b0]) | skip)
                                            by_cases c43 : (bt a0 x9_4) = 9
                                            · rw [if_pos c43] at H
                                              have c43b0 : ((bt a0 x9_4) == 9) = true := beq_iff_eq.mpr c43
                                              have c43b1 : ((bt a0 x9_4) != 9) = false := bne_eq_false_iff_eq.mpr c43
                                              clear c43
                                              have H' := Aside0.mk H
                                              clear H
                                              go_wp2
                                              repeat (go_quiet (fail); try go_wp2)
                                              go_meet
                                              case rel => exact ⟨_, (false), (by first | rfl | (simp; done) | (simp [*]; done)), H', ⟨by have := HK1.out; have := HJ26.out; have := HJ30.out; have := HK4.out; have := HJ37.out; first | omega | exact Nat.le_refl _⟩, ⟨by (with_reducible repeat (first | apply Kd.R_alloc | apply Kd.R_drewN | apply Kd.R_drew)); exact HO_3.out⟩, ⟨by (with_reducible repeat (first | refine blk_drewN ?_ _ | refine blk_drew ?_ | refine blk_alloc ?_ _)); exact BK224.out⟩, ⟨by repeat (first | (with_reducible first | exact HB.out | apply below_alloc | apply pw_below_drewN | apply below_drew1 | refine below_set ?_ GE224.out) | exact HB.out)⟩⟩
                                            · rw [if_neg c43] at H
                                              have c43b0 : ((bt a0 x9_4) == 9) = false := beq_eq_false_iff_ne.mpr c43
                                              have c43b1 : ((bt a0 x9_4) != 9) = true := bne_iff_ne.mpr c43
                                              have H' := Aside0.mk H
                                              clear H
                                              go_wp2
                                              repeat (go_quiet (fail); try go_wp2)
                                              go_meet
                                              case rel => exact ⟨_, (((bt a0 x9_4) != 10)), (by first | rfl | (simp; done) | (simp [*]; done)), H', ⟨by have := HK1.out; have := HJ26.out; have := HJ30.out; have := HK4.out; have := HJ37.out; first | omega | exact Nat.le_refl _⟩, ⟨by (with_reducible repeat (first | apply Kd.R_alloc | apply Kd.R_drewN | apply Kd.R_drew)); exact HO_3.out⟩, ⟨by (with_reducible repeat (first | refine blk_drewN ?_ _ | refine blk_drew ?_ | refine blk_alloc ?_ _)); exact BK224.out⟩, ⟨by repeat (first | (with_reducible first | exact HB.out | apply below_alloc | apply pw_below_drewN | apply below_drew1 | refine below_set ?_ GE224.out) | exact HB.out)⟩⟩
                                      case rest =>
                                        clear HC40
                                        try clear c2
                                        try clear p2
                                        try clear q2
                                        try clear hx2
                                        try clear c3
                                        try clear p3
                                        try clear q3
                                        try clear hx3
                                        try clear c4
                                        try clear c4b0
                                        try clear c4b1
                                        try clear c5
                                        try clear c7
                                        try clear c7b0
                                        try clear c8
                                        try clear c8b0
                                        try clear c8b1
                                        try clear c9
                                        try clear c9b0
                                        try clear p22
                                        try clear q22
                                        try clear hx22
                                        try clear c26
                                        try clear c26b0
                                        try clear c29
                                        try clear c29b0
                                        try clear c30
                                        try clear c30b0
                                        try clear c32
                                        try clear c32b0
                                        try clear c33
                                        try clear c34
                                        try clear c34b0
                                        try clear c35
                                        try clear c35b0
                                        try clear c36
                                        try clear c36b0
                                        try clear p37
                                        try clear q37
                                        try clear hx37
                                        try clear c39
                                        try clear c39b0
                                        try clear c39b1
                                        try clear c41
                                        try clear c42
                                        try clear c42b0
                                        try clear c42b1
                                        try clear c43
                                        try clear c43b0
                                        try clear c43b1
                                        try clear hcz13_0
                                        try clear hcz13_1
                                        try clear hcz17_0
                                        try clear hcz17_1
                                        try clear hcz21_0
                                        try clear hcz21_1
                                        try clear hcz25_0
                                        try clear hcz25_1
                                        try clear hfz13_0
                                        try clear hfz13_1
                                        try clear hfz17_0
                                        try clear hfz17_1
                                        try clear hfz21_0
                                        try clear hfz21_1
                                        try clear hfz25_0
                                        try clear hfz25_1
                                        try clear hx225_0
                                        try clear hx225_1
                                        try clear hx225_2
                                        try clear hx225_3
                                        try clear p2
                                        try clear p22
                                        try clear p225
                                        try clear p3
                                        try clear p37
                                        try clear q2
                                        try clear q22
                                        try clear q225
                                        try clear q3
                                        try clear q37
                                        obtain ⟨kq, x89_39, rfl, HA, HJ39, HO_3, BK224, HB⟩ := hcut
                                        cases kq with
                                        | zero => exact absurd HA.out (by simp [droguelaw03_LexPlaces.j5])
                                        | succ kj39 =>
                                          have H := HA.out
                                          clear HA
                                          simp only [droguelaw03_LexPlaces.j5] at H
                                          by_cases c44 : x89_39 = true
                                          · subst c44
                                            have H1 : (some false) = some r := by rw [if_pos rfl] at H; exact H
                                            clear H
                                            have H := H1
                                            clear H1
                                            obtain rfl := Option.some.inj H
                                            go_wp2
                                            repeat (go_quiet (fail); try go_wp2)
                                            go_ret
                                            exact ⟨by first | rfl | (simp [errW_none, errW_some] <;> rfl) | (simp [*, errW_none, errW_some] <;> rfl), by repeat (first | (with_reducible first | exact HB.out | apply below_alloc | apply pw_below_drewN | apply below_drew1 | refine below_set ?_ GE224.out) | exact HB.out)⟩
                                          · replace c44 := Bool.eq_false_iff.mpr c44
                                            subst c44
                                            have H1 : (if (bt a0 x9_4) = 10 then (droguelaw03_LexPlaces.l1 kj39 a0 t219 x5_1 x6_1 x7_26 false (wrap64 (x9_4 + 1))) else (droguelaw03_LexPlaces.l1 kj39 a0 t219 x5_1 x6_1 x7_26 x8_37 (wrap64 (x9_4 + 1)))) = some r := by rw [if_neg (show ¬ (false = true) by decide)] at H; exact H
                                            clear H
                                            have H := H1
                                            clear H1
                                            by_cases c45 : (bt a0 x9_4) = 10
                                            · rw [if_pos c45] at H
                                              have c45b0 : ((bt a0 x9_4) == 10) = true := beq_iff_eq.mpr c45
                                              have c45b1 : ((bt a0 x9_4) != 10) = false := bne_eq_false_iff_eq.mpr c45
                                              clear c45
                                              have H' := Aside0.mk H
                                              clear H
                                              go_wp2
                                              repeat (go_quiet (fail); try go_wp2)
                                              go_roundg kj39
                                              case measure => have := HK1.out; have := HJ26.out; have := HJ30.out; have := HK4.out; have := HJ37.out; have := HJ39.out; omega
                                              case rel => exact ⟨(false), (wrap64 (x9_4 + 1)), (by first | rfl | (simp; done) | (simp [*]; done)), (by first | rfl | (simp; done) | (simp [*]; done)), H', ⟨by have := HK1.out; have := HJ26.out; have := HJ30.out; have := HK4.out; have := HJ37.out; have := HJ39.out; omega⟩, ⟨by (with_reducible repeat (first | apply Kd.R_alloc | apply Kd.R_drewN | apply Kd.R_drew)); exact HO_3.out⟩, ⟨by (with_reducible repeat (first | refine blk_drewN ?_ _ | refine blk_drew ?_ | refine blk_alloc ?_ _)); exact BK224.out⟩, ⟨by repeat (first | (with_reducible first | exact HB.out | apply below_alloc | apply pw_below_drewN | apply below_drew1 | refine below_set ?_ GE224.out) | exact HB.out)⟩⟩
                                            · rw [if_neg c45] at H
                                              have c45b0 : ((bt a0 x9_4) == 10) = false := beq_eq_false_iff_ne.mpr c45
                                              have c45b1 : ((bt a0 x9_4) != 10) = true := bne_iff_ne.mpr c45
                                              have H' := Aside0.mk H
                                              clear H
                                              go_wp2
                                              repeat (go_quiet (fail); try go_wp2)
                                              go_roundg kj39
                                              case measure => have := HK1.out; have := HJ26.out; have := HJ30.out; have := HK4.out; have := HJ37.out; have := HJ39.out; omega
                                              case rel => exact ⟨(x8_37), (wrap64 (x9_4 + 1)), (by first | rfl | (simp; done) | (simp [*]; done)), (by first | rfl | (simp; done) | (simp [*]; done)), H', ⟨by have := HK1.out; have := HJ26.out; have := HJ30.out; have := HK4.out; have := HJ37.out; have := HJ39.out; omega⟩, ⟨by (with_reducible repeat (first | apply Kd.R_alloc | apply Kd.R_drewN | apply Kd.R_drew)); exact HO_3.out⟩, ⟨by (with_reducible repeat (first | refine blk_drewN ?_ _ | refine blk_drew ?_ | refine blk_alloc ?_ _)); exact BK224.out⟩, ⟨by repeat (first | (with_reducible first | exact HB.out | apply below_alloc | apply pw_below_drewN | apply below_drew1 | refine below_set ?_ GE224.out) | exact HB.out)⟩⟩
                                · rw [if_neg c36] at H
                                  exact absurd H (by simp)
                              · rw [if_neg c35] at H
                                exact absurd H (by simp)
                            · rw [if_neg c34] at H
                              have c34b0 : decide (x9_4 < x7_26) = false := decide_eq_false c34
                              clear c34
                              by_cases c46 : x6_1 < (t219.length : Int)
                              · rw [if_pos c46] at H
                                have c46b0 : decide (x6_1 < (t219.length : Int)) = true := decide_eq_true c46
                                clear c46
                                by_cases c47 : 0 ≤ x6_1
                                · rw [if_pos c47] at H
                                  have c47b0 : decide (0 ≤ x6_1) = true := decide_eq_true c47
                                  clear c47
                                  by_cases c48 : x8_4 = true
                                  · subst c48
                                    have H1 : (some false) = some r := by rw [if_pos rfl] at H; exact H
                                    clear H
                                    have H := H1
                                    clear H1
                                    obtain rfl := Option.some.inj H
                                    have p226 : 0 ≤ (x6_1 : Int) := of_decide_eq_true (by first | (with_reducible assumption) | assumption)
                                    have q226 : x6_1 < (t219.length : Int) := of_decide_eq_true (by first | (with_reducible assumption) | assumption)
                                    obtain ⟨ad226, e226, hx226_0, hx226_1, hx226_2, hx226_3⟩ := at_T35 (Kd.R_reads' HO_3.out).2.2 x6_1 p226 q226
                                    cases e226
                                    replace p226 := eq_true p226
                                    replace q226 := eq_true q226
                                    go_wp2
                                    repeat (go_quiet (fail); try go_wp2)
                                    go_ret
                                    exact ⟨by first | rfl | (simp [errW_none, errW_some] <;> rfl) | (simp [*, errW_none, errW_some] <;> rfl), by repeat (first | (with_reducible first | exact HB.out | apply below_alloc | apply pw_below_drewN | apply below_drew1 | refine below_set ?_ GE224.out) | exact HB.out)⟩
                                  · replace c48 := Bool.eq_false_iff.mpr c48
                                    subst c48
                                    have H1 : (if (wrap64 (x7_26 + (((rd_T35 t219 x6_1).f2).size : Int))) > (a0.size : Int) then (some false) else (if 0 ≤ x7_26 then (if x7_26 ≤ (wrap64 (x7_26 + (((rd_T35 t219 x6_1).f2).size : Int))) then (if (wrap64 (x7_26 + (((rd_T35 t219 x6_1).f2).size : Int))) ≤ (a0.size : Int) then (if (a0.extract (x7_26 : Int).toNat ((wrap64 (x7_26 + (((rd_T35 t219 x6_1).f2).size : Int))) : Int).toNat).toList = ((rd_T35 t219 x6_1).f2).toList then (if (wrap64 (x7_26 + (((rd_T35 t219 x6_1).f2).size : Int))) = x7_26 then (some false) else (droguelaw03_LexPlaces.l0 k4 a0 t219 (wrap64 (x7_26 + (((rd_T35 t219 x6_1).f2).size : Int))) (wrap64 (x6_1 + 1)))) else (some false)) else (none)) else (none)) else (none))) = some r := by rw [if_neg (show ¬ (false = true) by decide)] at H; exact H
                                    clear H
                                    have H := H1
                                    clear H1
                                    by_cases c49 : (wrap64 (x7_26 + (((rd_T35 t219 x6_1).f2).size : Int))) > (a0.size : Int)
                                    · rw [if_pos c49] at H
                                      have c49b0 : decide ((a0.size : Int) < (wrap64 (x7_26 + (((rd_T35 t219 x6_1).f2).size : Int)))) = true := decide_eq_true c49
                                      clear c49
                                      obtain rfl := Option.some.inj H
                                      have p226 : 0 ≤ (x6_1 : Int) := of_decide_eq_true (by first | (with_reducible assumption) | assumption)
                                      have q226 : x6_1 < (t219.length : Int) := of_decide_eq_true (by first | (with_reducible assumption) | assumption)
                                      obtain ⟨ad226, e226, hx226_0, hx226_1, hx226_2, hx226_3⟩ := at_T35 (Kd.R_reads' HO_3.out).2.2 x6_1 p226 q226
                                      cases e226
                                      replace p226 := eq_true p226
                                      replace q226 := eq_true q226
                                      go_wp2
                                      repeat (go_quiet (fail); try go_wp2)
                                      go_ret
                                      exact ⟨by first | rfl | (simp [errW_none, errW_some] <;> rfl) | (simp [*, errW_none, errW_some] <;> rfl), by repeat (first | (with_reducible first | exact HB.out | apply below_alloc | apply pw_below_drewN | apply below_drew1 | refine below_set ?_ GE224.out) | exact HB.out)⟩
                                    · rw [if_neg c49] at H
                                      have c49b0 : decide ((a0.size : Int) < (wrap64 (x7_26 + (((rd_T35 t219 x6_1).f2).size : Int)))) = false := decide_eq_false c49
                                      clear c49
                                      by_cases c50 : 0 ≤ x7_26
                                      · rw [if_pos c50] at H
                                        have c50b0 := eq_true c50
                                        have c50b1 : decide (0 ≤ x7_26) = true := decide_eq_true c50
                                        clear c50
                                        by_cases c51 : x7_26 ≤ (wrap64 (x7_26 + (((rd_T35 t219 x6_1).f2).size : Int)))
                                        · rw [if_pos c51] at H
                                          have c51b0 := eq_true c51
                                          have c51b1 : decide (x7_26 ≤ (wrap64 (x7_26 + (((rd_T35 t219 x6_1).f2).size : Int)))) = true := decide_eq_true c51
                                          by_cases c52 : (wrap64 (x7_26 + (((rd_T35 t219 x6_1).f2).size : Int))) ≤ (a0.size : Int)
                                          · rw [if_pos c52] at H
                                            have c52b0 := eq_true c52
                                            have c52b1 : decide ((wrap64 (x7_26 + (((rd_T35 t219 x6_1).f2).size : Int))) ≤ (a0.size : Int)) = true := decide_eq_true c52
                                            by_cases c53 : (a0.extract (x7_26 : Int).toNat ((wrap64 (x7_26 + (((rd_T35 t219 x6_1).f2).size : Int))) : Int).toNat).toList = ((rd_T35 t219 x6_1).f2).toList
                                            · rw [if_pos c53] at H
                                              have c53b0 : ((a0.extract (x7_26 : Int).toNat ((wrap64 (x7_26 + (((rd_T35 t219 x6_1).f2).size : Int))) : Int).toNat).toList == ((rd_T35 t219 x6_1).f2).toList) = true := beq_iff_eq.mpr c53
                                              have c53b1 : ((a0.extract (x7_26 : Int).toNat ((wrap64 (x7_26 + (((rd_T35 t219 x6_1).f2).size : Int))) : Int).toNat).toList != ((rd_T35 t219 x6_1).f2).toList) = false := bne_eq_false_iff_eq.mpr c53
                                              clear c53
                                              by_cases c54 : (wrap64 (x7_26 + (((rd_T35 t219 x6_1).f2).size : Int))) = x7_26
                                              · rw [if_pos c54] at H
                                                have c54b0 : ((wrap64 (x7_26 + (((rd_T35 t219 x6_1).f2).size : Int))) == x7_26) = true := beq_iff_eq.mpr c54
                                                have c54b1 : ((wrap64 (x7_26 + (((rd_T35 t219 x6_1).f2).size : Int))) != x7_26) = false := bne_eq_false_iff_eq.mpr c54
                                                clear c54
                                                obtain rfl := Option.some.inj H
                                                have p226 : 0 ≤ (x6_1 : Int) := of_decide_eq_true (by first | (with_reducible assumption) | assumption)
                                                have q226 : x6_1 < (t219.length : Int) := of_decide_eq_true (by first | (with_reducible assumption) | assumption)
                                                obtain ⟨ad226, e226, hx226_0, hx226_1, hx226_2, hx226_3⟩ := at_T35 (Kd.R_reads' HO_3.out).2.2 x6_1 p226 q226
                                                cases e226
                                                replace p226 := eq_true p226
                                                replace q226 := eq_true q226
                                                have p227 : 0 ≤ (x6_1 : Int) := of_decide_eq_true (by first | (with_reducible assumption) | assumption)
                                                have q227 : x6_1 < (t219.length : Int) := of_decide_eq_true (by first | (with_reducible assumption) | assumption)
                                                obtain ⟨ad227, e227, hx227_0, hx227_1, hx227_2, hx227_3⟩ := at_T35 (Kd.R_reads' HO_3.out).2.2 x6_1 p227 q227
                                                obtain rfl : ad226 = ad227 := (by injection e227)
                                                replace p227 := eq_true p227
                                                replace q227 := eq_true q227
                                                go_wp2
                                                repeat (go_quiet (fail); try go_wp2)
                                                go_ret
                                                exact ⟨by first | rfl | (simp [errW_none, errW_some] <;> rfl) | (simp [*, errW_none, errW_some] <;> rfl), by repeat (first | (with_reducible first | exact HB.out | apply below_alloc | apply pw_below_drewN | apply below_drew1 | refine below_set ?_ GE224.out) | exact HB.out)⟩
                                              · rw [if_neg c54] at H
                                                have c54b0 : ((wrap64 (x7_26 + (((rd_T35 t219 x6_1).f2).size : Int))) == x7_26) = false := beq_eq_false_iff_ne.mpr c54
                                                have c54b1 : ((wrap64 (x7_26 + (((rd_T35 t219 x6_1).f2).size : Int))) != x7_26) = true := bne_iff_ne.mpr c54
                                                have H' := Aside0.mk H
                                                clear H
                                                have p226 : 0 ≤ (x6_1 : Int) := of_decide_eq_true (by first | (with_reducible assumption) | assumption)
                                                have q226 : x6_1 < (t219.length : Int) := of_decide_eq_true (by first | (with_reducible assumption) | assumption)
                                                obtain ⟨ad226, e226, hx226_0, hx226_1, hx226_2, hx226_3⟩ := at_T35 (Kd.R_reads' HO_3.out).2.2 x6_1 p226 q226
                                                cases e226
                                                replace p226 := eq_true p226
                                                replace q226 := eq_true q226
                                                have p227 : 0 ≤ (x6_1 : Int) := of_decide_eq_true (by first | (with_reducible assumption) | assumption)
                                                have q227 : x6_1 < (t219.length : Int) := of_decide_eq_true (by first | (with_reducible assumption) | assumption)
                                                obtain ⟨ad227, e227, hx227_0, hx227_1, hx227_2, hx227_3⟩ := at_T35 (Kd.R_reads' HO_3.out).2.2 x6_1 p227 q227
                                                obtain rfl : ad226 = ad227 := (by injection e227)
                                                replace p227 := eq_true p227
                                                replace q227 := eq_true q227
                                                go_wp2
                                                repeat (go_quiet (fail); try go_wp2)
                                                go_roundg k4
                                                case measure => have := HK1.out; have := HJ26.out; have := HJ30.out; have := HK4.out; omega
                                                case rel => exact ⟨(wrap64 (x7_26 + (((rd_T35 t219 x6_1).f2).size : Int))), (wrap64 (x6_1 + 1)), (by first | rfl | (simp; done) | (simp [*]; done)), (by first | rfl | (simp; done) | (simp [*]; done)), H', ⟨by have := HK1.out; have := HJ26.out; have := HJ30.out; have := HK4.out; omega⟩, ⟨by (with_reducible repeat (first | apply Kd.R_alloc | apply Kd.R_drewN | apply Kd.R_drew)); exact HO_3.out⟩, ⟨by (with_reducible repeat (first | refine blk_drewN ?_ _ | refine blk_drew ?_ | refine blk_alloc ?_ _)); exact BK224.out⟩, ⟨by repeat (first | (with_reducible first | exact HB.out | apply below_alloc | apply pw_below_drewN | apply below_drew1 | refine below_set ?_ GE224.out) | exact HB.out)⟩⟩
                                            · rw [if_neg c53] at H
                                              have c53b0 : ((a0.extract (x7_26 : Int).toNat ((wrap64 (x7_26 + (((rd_T35 t219 x6_1).f2).size : Int))) : Int).toNat).toList == ((rd_T35 t219 x6_1).f2).toList) = false := beq_eq_false_iff_ne.mpr c53
                                              have c53b1 : ((a0.extract (x7_26 : Int).toNat ((wrap64 (x7_26 + (((rd_T35 t219 x6_1).f2).size : Int))) : Int).toNat).toList != ((rd_T35 t219 x6_1).f2).toList) = true := bne_iff_ne.mpr c53
                                              obtain rfl := Option.some.inj H
                                              have p226 : 0 ≤ (x6_1 : Int) := of_decide_eq_true (by first | (with_reducible assumption) | assumption)
                                              have q226 : x6_1 < (t219.length : Int) := of_decide_eq_true (by first | (with_reducible assumption) | assumption)
                                              obtain ⟨ad226, e226, hx226_0, hx226_1, hx226_2, hx226_3⟩ := at_T35 (Kd.R_reads' HO_3.out).2.2 x6_1 p226 q226
                                              cases e226
                                              replace p226 := eq_true p226
                                              replace q226 := eq_true q226
                                              have p227 : 0 ≤ (x6_1 : Int) := of_decide_eq_true (by first | (with_reducible assumption) | assumption)
                                              have q227 : x6_1 < (t219.length : Int) := of_decide_eq_true (by first | (with_reducible assumption) | assumption)
                                              obtain ⟨ad227, e227, hx227_0, hx227_1, hx227_2, hx227_3⟩ := at_T35 (Kd.R_reads' HO_3.out).2.2 x6_1 p227 q227
                                              obtain rfl : ad226 = ad227 := (by injection e227)
                                              replace p227 := eq_true p227
                                              replace q227 := eq_true q227
                                              go_wp2
                                              repeat (go_quiet (fail); try go_wp2)
                                              go_ret
                                              exact ⟨by first | rfl | (simp [errW_none, errW_some] <;> rfl) | (simp [*, errW_none, errW_some] <;> rfl), by repeat (first | (with_reducible first | exact HB.out | apply below_alloc | apply pw_below_drewN | apply below_drew1 | refine below_set ?_ GE224.out) | exact HB.out)⟩
                                          · rw [if_neg c52] at H
                                            exact absurd H (by simp)
                                        · rw [if_neg c51] at H
                                          exact absurd H (by simp)
                                      · rw [if_neg c50] at H
                                        exact absurd H (by simp)
                                · rw [if_neg c47] at H
                                  exact absurd H (by simp)
                              · rw [if_neg c46] at H
                                have c46b0 : decide (x6_1 < (t219.length : Int)) = false := decide_eq_false c46
                                clear c46
                                have H' := Aside0.mk H
                                clear H
                                go_wp2
                                repeat (go_quiet (fail); try go_wp2)
                                go_roundg k4
                                case measure => have := HK1.out; have := HJ26.out; have := HJ30.out; have := HK4.out; omega
                                case rel => exact ⟨(x5_1), (wrap64 (x6_1 + 1)), (by first | rfl | (simp; done) | (simp [*]; done)), (by first | rfl | (simp; done) | (simp [*]; done)), H', ⟨by have := HK1.out; have := HJ26.out; have := HJ30.out; have := HK4.out; omega⟩, ⟨by (with_reducible repeat (first | apply Kd.R_alloc | apply Kd.R_drewN | apply Kd.R_drew)); exact HO_3.out⟩, ⟨by (with_reducible repeat (first | refine blk_drewN ?_ _ | refine blk_drew ?_ | refine blk_alloc ?_ _)); exact BK224.out⟩, ⟨by repeat (first | (with_reducible first | exact HB.out | apply below_alloc | apply pw_below_drewN | apply below_drew1 | refine below_set ?_ GE224.out) | exact HB.out)⟩⟩
            · rw [if_neg c26] at H
              have c26b0 : decide (x6_1 ≤ (t219.length : Int)) = false := decide_eq_false c26
              clear c26
              obtain rfl := Option.some.inj H
              obtain ⟨Ao55, co55, eo55⟩ := Kd.R_slice HO_3.out
              subst eo55
              go_wp2
              repeat (go_quiet (fail); try go_wp2)
              go_ret
              exact ⟨by first | rfl | (simp [errW_none, errW_some] <;> rfl) | (simp [*, errW_none, errW_some] <;> rfl), by repeat (first | (with_reducible first | exact HB.out | apply below_alloc | apply pw_below_drewN | apply below_drew1 | refine below_set ?_ GE224.out) | exact HB.out)⟩
  · replace c3 := Bool.eq_false_iff.mpr c3
    subst c3
    have H1 : (some false) = some r := by rw [if_neg (show ¬ (false = true) by decide)] at H; exact H
    clear H
    have H := H1
    clear H1
    obtain rfl := Option.some.inj H
    go_enter Tryd.func5, Tryd.ntmps5
    go_wp2_with (first | (go_at_call 9; (with_reducible refine (droguelaw03_alive.calls  false _ ?side1 A2.out).mono ?_); (case side1 => exact Globs.below HG.out (by repeat (first | (with_reducible first | exact HB.out | apply below_alloc | apply pw_below_drewN | apply below_drew1) | exact HB.out))); rintro e w56 ⟨rfl, hb⟩; have n0_ := Aside0.mk (below_step (by repeat (first | (with_reducible first | exact HB.out | apply below_alloc | apply pw_below_drewN | apply below_drew1) | exact HB.out)) hb); clear HB; have HB := n0_; clear n0_; (try clear hb); (try clear hb2); (try clear hk); (try clear hi)))
    repeat (go_quiet (first | (go_at_call 9; (with_reducible refine (droguelaw03_alive.calls  false _ ?side1 A2.out).mono ?_); (case side1 => exact Globs.below HG.out (by repeat (first | (with_reducible first | exact HB.out | apply below_alloc | apply pw_below_drewN | apply below_drew1) | exact HB.out))); rintro e w56 ⟨rfl, hb⟩; have n0_ := Aside0.mk (below_step (by repeat (first | (with_reducible first | exact HB.out | apply below_alloc | apply pw_below_drewN | apply below_drew1) | exact HB.out)) hb); clear HB; have HB := n0_; clear n0_; (try clear hb); (try clear hb2); (try clear hk); (try clear hi))); try go_wp2_with (first | (go_at_call 9; (with_reducible refine (droguelaw03_alive.calls  false _ ?side1 A2.out).mono ?_); (case side1 => exact Globs.below HG.out (by repeat (first | (with_reducible first | exact HB.out | apply below_alloc | apply pw_below_drewN | apply below_drew1) | exact HB.out))); rintro e w56 ⟨rfl, hb⟩; have n0_ := Aside0.mk (below_step (by repeat (first | (with_reducible first | exact HB.out | apply below_alloc | apply pw_below_drewN | apply below_drew1) | exact HB.out)) hb); clear HB; have HB := n0_; clear n0_; (try clear hb); (try clear hb2); (try clear hk); (try clear hi))))
    go_ret
    exact ⟨by first | rfl | (simp [errW_none, errW_some] <;> rfl) | (simp [*, errW_none, errW_some] <;> rfl), by repeat (first | (with_reducible first | exact HB.out | apply below_alloc | apply pw_below_drewN | apply below_drew1) | exact HB.out)⟩

/-- THE ONE PURE STATEMENT of droguelaw03_LexPlaces: yours. -/
def droguelaw03_LexPlaces.Pure : Prop := ∀ (a0 : ByteArray), a0.size ≤ 140737488351232 → ∃ k, droguelaw03_LexPlaces.f k a0 = some true
theorem droguelaw03_LexPlaces.walk (P : droguelaw03_LexPlaces.Pure) (a0 : ByteArray) (w : World) (w0 : a0.size ≤ 140737488351232) (hG : Globs w) :
    Calls Tryd.prog 5 #[.string a0] w fun e w' => e = .returned (.bool true) ∧ Below w.heap.size w w' := by
  obtain ⟨k, h⟩ := P a0 w0
  refine (droguelaw03_LexPlaces.calls k a0 true w hG h).mono ?_
  rintro e w' ⟨rfl, hd⟩
  exact ⟨rfl, hd⟩

end Go.Proofs.YtnlbbpandnpgoaaDoor.PL
